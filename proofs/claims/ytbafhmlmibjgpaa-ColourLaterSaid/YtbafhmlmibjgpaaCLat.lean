/-
  The law ColourLater.
-/
import Derived.Test.YtbafhmlmibjgpaaColN
namespace Go.Proofs.Ytbafhmlmibjgpaa
set_option linter.unusedSimpArgs false
set_option linter.unusedVariables false
open Go.ChangeShapes Go.WideShapes Go.ChangeAt Go.RowKit

set_option maxRecDepth 100000 in
set_option maxHeartbeats 6400000 in
theorem colourLater_walk (a : Option Addr) (n cap : Nat) (l : List SpV) (later long : Int) (wf : ∀ x ∈ l, SpanWf x) (wt : (Lit.int .u16 later).wf = true) (wt2 : (Lit.int .u16 long).wf = true) (w : World) (h : SlP w a n l ∧ n ≤ cap ∧ cap ≤ maxLen) :
    Calls Try.prog 8 #[.slice a n cap, .int .u16 later, .int .u16 long] w fun e w' => e = .returned (.bool true) ∧ Below w.heap.size w w' := by
  have hn := SlP.cap h
  have HS := Lib.hid h.1
  have HL := Lib.hid h.1.1
  obtain ⟨l0, l1⟩ := bd_u16 wt
  obtain ⟨g0, g1⟩ := bd_u16 wt2
  clear h wf wt wt2
  by_cases hu : usS l = true
  · by_cases h99 : n ≤ 99
    · obtain ⟨h1, h2, h3⟩ := usS_in hu
      obtain ⟨M, hM⟩ : ∃ M, (colE l).length = M := ⟨_, rfl⟩
      have HU := Lib.hid hu
      have HE := Lib.hid h2
      have HO := Lib.hid h3
      have HM := Lib.hid hM
      have hW1 : IntKind.i64.wrap later = later := IntWalk.i64_in _ (by omega)
      have hW2 : IntKind.i64.wrap long = long := IntWalk.i64_in _ (by omega)
      clear hu h1 h2 h3 hM
      go_enter Try.func8, Try.ntmps8
      go_wp2_with fail
      refine (c_head_any _).mono ?_
      rintro e w1 ⟨rfl, hb1⟩
      have HB1 : Below w.heap.size w w1 := by (repeat' (first | (with_reducible exact Below.refl _ _) | (with_reducible assumption) | (with_reducible exact Bw.out (by with_reducible assumption)) | (with_reducible refine bw_alloc ?_ _) | (with_reducible refine bw_step ?_ (by with_reducible assumption)) | (with_reducible refine Below.alloc ?_ ?_ _) | (with_reducible refine Below.drew ?_) | (with_reducible refine below_drewN ?_ _) | (with_reducible refine Below.setCell ?_ ?_ _) | (with_reducible refine below_step ?_ (by with_reducible assumption) ?_) | (with_reducible exact Nat.le_refl _) | omega | (simp; omega) | (simp; done)))
      go_wp2_with fail
      refine (usable_c _ n cap l _ hn (HS.out.below (by (repeat' (first | (with_reducible exact Below.refl _ _) | (with_reducible assumption) | (with_reducible exact Bw.out (by with_reducible assumption)) | (with_reducible refine bw_alloc ?_ _) | (with_reducible refine bw_step ?_ (by with_reducible assumption)) | (with_reducible refine Below.alloc ?_ ?_ _) | (with_reducible refine Below.drew ?_) | (with_reducible refine below_drewN ?_ _) | (with_reducible refine Below.setCell ?_ ?_ _) | (with_reducible refine below_step ?_ (by with_reducible assumption) ?_) | (with_reducible exact Nat.le_refl _) | omega | (simp; omega) | (simp; done))))) true HU.out).mono ?_
      rintro e w2 ⟨rfl, hb2⟩
      have HB2 : Below w.heap.size w w2 := by (repeat' (first | (with_reducible exact Below.refl _ _) | (with_reducible assumption) | (with_reducible exact Bw.out (by with_reducible assumption)) | (with_reducible refine bw_alloc ?_ _) | (with_reducible refine bw_step ?_ (by with_reducible assumption)) | (with_reducible refine Below.alloc ?_ ?_ _) | (with_reducible refine Below.drew ?_) | (with_reducible refine below_drewN ?_ _) | (with_reducible refine Below.setCell ?_ ?_ _) | (with_reducible refine below_step ?_ (by with_reducible assumption) ?_) | (with_reducible exact Nat.le_refl _) | omega | (simp; omega) | (simp; done)))
      clear hb1 HB1
      have HB2' := Lib.hid HB2
      go_wp2_with fail
      go_loopw [8, 30] (fun vf vi wr => ∃ (k : Nat) (f : Int), k ≤ n ∧ vf = .int .i64 f ∧ vi = .int .i64 k ∧ 0 ≤ f ∧ f ≤ 1000000000 ∧ Hid (∀ y ∈ l.take k, y.1 ≤ f) ∧ Hid (Below w2.heap.size w2 wr)) (fun _ vi _ => n - (intOf vi).toNat)
      case atStart => exact ⟨0, 0, Nat.zero_le _, rfl, rfl, Int.le_refl _, by omega, by show ∀ y ∈ _, _; simp, Below.refl _ _⟩
      case round =>
        obtain ⟨k, f, hk, rfl, rfl, f0, f1, hF, hB⟩ := hrel
        have hBw : Hid (Below w.heap.size w wr) := HB2'.out.trans (hB.out.mono HB2'.out.size)
        by_cases hlt : k < n
        · obtain ⟨fx, ux, b, off, hx, _, hget, rfl, hb, c0, c1⟩ := (HS.out.below hBw.out).get hlt
          have hok : 0 ≤ fx ∧ fx < ux ∧ ux ≤ 1000000000 := by
            have := HO.out.at (i := k) (by omega) (by rw [HL.out]; omega)
            simpa only [frP, unP, Int.toNat_natCast, hx.out] using this
          obtain ⟨p0, p1, p2⟩ := hok
          have HT : Hid (l.take (k + 1) = l.take k ++ [(fx, ux)]) := by
            show _ = _
            have hkl : k < l.length := by rw [HL.out]; exact hlt
            rw [List.take_succ_eq_append_getElem hkl]
            have := hget.out
            rw [List.getElem?_eq_getElem hkl] at this
            injection this with this
            rw [this]
          have i1 : (0 : Int) ≤ (k : Int) := by omega
          have i2 : (k : Int) < (n : Int) := by omega
          have hsz := hB.out.size
          clear hx hget
          have hal : Below wr.heap.size wr (wr.alloc (.cells #[.int .i64 fx, .int .i64 ux] 36)) := by (repeat' (first | (with_reducible exact Below.refl _ _) | (with_reducible assumption) | (with_reducible exact Bw.out (by with_reducible assumption)) | (with_reducible refine bw_alloc ?_ _) | (with_reducible refine bw_step ?_ (by with_reducible assumption)) | (with_reducible refine Below.alloc ?_ ?_ _) | (with_reducible refine Below.drew ?_) | (with_reducible refine below_drewN ?_ _) | (with_reducible refine Below.setCell ?_ ?_ _) | (with_reducible refine below_step ?_ (by with_reducible assumption) ?_) | (with_reducible exact Nat.le_refl _) | omega | (simp; omega) | (simp; done)))
          have hB3 : Hid (Below w2.heap.size w2 (wr.alloc (.cells #[.int .i64 fx, .int .i64 ux] 36))) := hB.out.trans (hal.mono hsz)
          by_cases hm : f < fx
          · have HF2 : Hid (∀ y ∈ l.take (k + 1), y.1 ≤ fx) := fun y hy => by
              rw [HT.out] at hy
              rcases List.mem_append.1 hy with hy | hy
              · have := hF.out y hy; omega
              · simp at hy; subst hy; exact Int.le_refl _
            go_wp2_with fail
            go_roundw
            case rel => exact ⟨k + 1, fx, by omega, rfl, by go_num, by omega, by omega, HF2.out, (hB3.out : Below _ _ _)⟩
            case measure => simp [intOf]; omega
          · have HF2 : Hid (∀ y ∈ l.take (k + 1), y.1 ≤ f) := fun y hy => by
              rw [HT.out] at hy
              rcases List.mem_append.1 hy with hy | hy
              · exact hF.out y hy
              · simp at hy; subst hy; simp only []; omega
            go_wp2_with fail
            go_roundw
            case rel => exact ⟨k + 1, f, by omega, rfl, by go_num, by omega, by omega, HF2.out, (hB3.out : Below _ _ _)⟩
            case measure => simp [intOf]; omega
        · obtain rfl : n = k := by omega
          have HF3 : Hid (∀ y ∈ l, y.1 ≤ f) := by
            have := hF.out
            rwa [List.take_of_length_le (by rw [HL.out]; exact Nat.le_refl _)] at this
          clear hF
          obtain ⟨F, hF⟩ : ∃ F, f + later = F := ⟨_, rfl⟩
          obtain ⟨U, hU⟩ : ∃ U, F + 1 + long = U := ⟨_, rfl⟩
          by_cases hmax : U ≤ 1000000000
          · have HC : Hid ((colO (l ++ [(F, U)])).take n = colO l ∧ (colO (l ++ [(F, U)])).length = n + 1) := by
              have := colO_snoc (l := l) (x := (F, U)) (fun y hy => by have := HF3.out y hy; simp only []; omega)
              rwa [HL.out] at this
            have ho2 : OkS (l ++ [(F, U)]) := fun y hy => by
              rcases List.mem_append.1 hy with hy | hy
              · exact HO.out y hy
              · simp at hy; subst hy; simp only []; omega
            have HE2 : Hid (chkE (l ++ [(F, U)]) = 0) := chkE_of ho2 (by rw [List.length_append, HL.out]; simp; omega)
            obtain ⟨M2, hM2⟩ : ∃ M, (colE (l ++ [(F, U)])).length = M := ⟨_, rfl⟩
            have HM2 := Lib.hid hM2
            clear hM2 ho2
            go_upto_region 11 with fail
            have R4 : Row (wr.alloc (.cells #[.int .i64 F, .int .i64 U] 36)) wr.heap.size [.int .i64 F, .int .i64 U] := Row.new' _ _ _ rfl
            have hB4 : Below wr.heap.size wr (wr.alloc (.cells #[.int .i64 F, .int .i64 U] 36)) := by (repeat' (first | (with_reducible exact Below.refl _ _) | (with_reducible assumption) | (with_reducible exact Bw.out (by with_reducible assumption)) | (with_reducible refine bw_alloc ?_ _) | (with_reducible refine bw_step ?_ (by with_reducible assumption)) | (with_reducible refine Below.alloc ?_ ?_ _) | (with_reducible refine Below.drew ?_) | (with_reducible refine below_drewN ?_ _) | (with_reducible refine Below.setCell ?_ ?_ _) | (with_reducible refine below_step ?_ (by with_reducible assumption) ?_) | (with_reducible exact Nat.le_refl _) | omega | (simp; omega) | (simp; done)))
            obtain ⟨w4, hw4⟩ : ∃ W, wr.alloc (.cells #[.int .i64 F, .int .i64 U] 36) = W := ⟨_, rfl⟩
            rw [hw4] at R4 hB4 ⊢
            obtain ⟨g, hg⟩ : ∃ g, wr.heap.size = g := ⟨_, rfl⟩
            have HB4 : Hid (Below w.heap.size w w4) := hBw.out.trans (hB4.mono hBw.out.size)
            rw [hg] at R4
            try rw [hg]
            have c40 := R4.cell 0 rfl
            have c41 := R4.cell 1 rfl
            have l4 := R4.lt
            clear hw4 hB4 hg hF hU HF3
            go_wp2_with fail
            refine (Colours_c _ n cap l _ (by omega) (HS.out.below HB4.out) HE.out M HM.out).mono ?_
            rintro e w5 ⟨a5, d5, rfl, V5, hb5⟩
            have V5 := Lib.hid V5
            have R5 := R4.step hb5
            have HB5 : Hid (Below w.heap.size w w5) := HB4.out.trans (hb5.mono HB4.out.size)
            have l5 := R5.lt
            have HKS : Hid (∀ w', Below w5.heap.size w5 w' → w'.cell? ⟨g, 0, none⟩ = some (.int .i64 F) ∧ w'.cell? ⟨g, 1, none⟩ = some (.int .i64 U)) := fun w' hb => ⟨(R5.step hb).cell 0 rfl, (R5.step hb).cell 1 rfl⟩
            clear hb5 R4 c40 c41 l4 R5
            go_upto_region 14 with fail
            refine AnyJ.beginP (fun w' : World => w'.cell? ⟨g, 0, none⟩ = some (.int .i64 F) ∧ w'.cell? ⟨g, 1, none⟩ = some (.int .i64 U)) (fun _ => true) (by kernel_rfl) (HKS.out _ (Below.refl _ w5).drew) (fun hS => ?_)
            refine AnyJ.takeD (i := 1) (d := some 64) (v := ?_) rfl (by kernel_rfl) (by kernel_rfl) (by kernel_rfl) (by kernel_rfl) (by kernel_rfl) (fun _ _ _ h => h) (Or.inl ⟨by kernel_rfl, ?_⟩) hS ?_
            rotate_left
            · intro w' hS
              obtain ⟨sF0, sF1⟩ := hS
              go_simp
              try with_reducible rfl
            refine AnyJ.takeD (i := 3) (d := some 66) (v := ?_) rfl (by kernel_rfl) (by kernel_rfl) (by kernel_rfl) (by kernel_rfl) (by kernel_rfl) (fun _ _ _ h => h) (Or.inl ⟨by kernel_rfl, ?_⟩) hS ?_
            rotate_left
            · intro w' hS
              obtain ⟨sF0, sF1⟩ := hS
              go_simp
              try with_reducible rfl
            clear hS
            have HBq : Below w5.heap.size w5 w5.drew := (Below.refl _ w5).drew
            obtain ⟨wq, hwq⟩ : ∃ W, w5.drew = W := ⟨_, rfl⟩
            rw [hwq] at HBq ⊢
            clear hwq
            refine AnyJ.two (i := 0) (j := 4) (by kernel_rfl) rfl rfl (fun Kz hKz => ?_) (fun Kz hKz => ?_)
            ·
              go_simp
              have HB6 : Below w5.heap.size w5 (wq.alloc (.cells #[] 36)) := HBq.alloc HBq.size _
              have hO6 : OwnP (wq.alloc (.cells #[] 36)) wq.heap.size (.slice (some ⟨wq.heap.size, 0, none⟩) 0 0) [] := OwnP.made _
              have hE6 : ∀ g cs, Row wq g cs → Row (wq.alloc (.cells #[] 36)) g cs ∧ g < wq.heap.size := fun g cs h => ⟨h.alloc _, h.lt⟩
              have hge6 : w5.heap.size ≤ wq.heap.size := HBq.size
              have hgl6 : wq.heap.size ≤ (wq.alloc (.cells #[] 36)).heap.size := by simp
              obtain ⟨wo, hwo⟩ : ∃ W, wq.alloc (.cells #[] 36) = W := ⟨_, rfl⟩
              rw [hwo] at HB6 hO6 hE6 hgl6
              try rw [hwo]
              obtain ⟨gA, hgA⟩ : ∃ g, wq.heap.size = g := ⟨_, rfl⟩
              rw [hgA] at hO6 hE6 hge6 hgl6
              try rw [hgA]
              refine hKz _ _ (fun _ => HKS.out _ HB6) ?_
              clear hKz Kz hwo hgA
              refine AnyJ.two (i := 2) (j := 4) (by kernel_rfl) rfl rfl (fun Kz hKz => ?_) (fun Kz hKz => ?_)
              ·
                refine step_app_spans rfl (.tmp 63) (.tmp 64) 22 rfl Try.underlying22 gA _ (by simp [Act.eval, Act.put]) hO6 a n cap l (by simp [Act.eval, Act.put]) (HS.out.below (HB5.out.trans (HB6.mono HB5.out.size))) (by omega) hgl6 ?_
                intro v7 wp ho7 _ hg7
                have HB7 : Below w5.heap.size w5 wp := HB6.grown hg7 HB6.size (fun k hk => by have : gA = k := (by simpa [Value.ownBlock] using hk); omega)
                refine hKz _ _ (fun _ => HKS.out _ HB7) ?_
                clear hKz Kz
                refine AnyJ.one (i := 4) (by kernel_rfl) rfl (fun Kz hKz => ?_)
                go_simp
                have R67 : Row (wp.alloc (.cells #[.int .i64 F, .int .i64 U] 36)) wp.heap.size [.int .i64 F, .int .i64 U] := Row.new' _ _ _ rfl
                have HB72 : Below w5.heap.size w5 (wp.alloc (.cells #[.int .i64 F, .int .i64 U] 36)) := HB7.alloc HB7.size _
                have hE72 : ∀ v ys, OwnP wp gA v ys → OwnP (wp.alloc (.cells #[.int .i64 F, .int .i64 U] 36)) gA v ys := fun v ys h => h.alloc _
                have hgl72 : wp.heap.size ≤ (wp.alloc (.cells #[.int .i64 F, .int .i64 U] 36)).heap.size := by simp
                obtain ⟨wr4, hwr4⟩ : ∃ W, wp.alloc (.cells #[.int .i64 F, .int .i64 U] 36) = W := ⟨_, rfl⟩
                rw [hwr4] at R67 HB72 hE72 hgl72
                try rw [hwr4]
                obtain ⟨gR, hgR⟩ : ∃ g, wp.heap.size = g := ⟨_, rfl⟩
                rw [hgR] at R67 hgl72
                try rw [hgR]
                refine hKz _ _ (fun _ => HKS.out _ HB72) ?_
                clear hKz Kz hwr4
                have hO72 := hE72 _ _ ho7
                have hG72 : gA ≤ wr4.heap.size := Nat.le_trans hgl6 (Nat.le_trans hg7.size (by rw [hgR]; exact hgl72))
                clear ho7 hg7 hO6 hE6 hE72 hgR
                refine AnyJ.one (i := 5) (by kernel_rfl) rfl (fun Kz hKz => ?_)
                refine step_app_span rfl (.tmp 65) (.tmp 67) 22 rfl Try.underlying22 gA v7 l (by simp [Act.eval, Act.put]) hO72 gR 1 (F, U) (by simp [Act.eval, Act.put]) R67 (by rw [HL.out]; omega) hG72 ?_
                intro v8 w8 ho8 _ hg8
                have HB8 : Below w5.heap.size w5 w8 := HB72.grown hg8 HB72.size (fun k hk => by have := (World.ownsRow.lt hO72 k hk).1; omega)
                obtain ⟨ad8, cp8, rfl, ho8⟩ := ho8.shape (n + 1) (by rw [List.length_append, HL.out]; rfl)
                have HO8 := Lib.hid ho8.sl.1
                refine hKz _ _ (fun _ => HKS.out _ HB8) ?_
                clear hKz Kz ho8 hg8
                refine AnyJ.one (i := 6) (by kernel_rfl) rfl (fun Kz hKz => ?_)
                go_simp
                refine (Colours_c ad8 (n + 1) cp8 (l ++ [(F, U)]) _ (by omega) HO8.out HE2.out M2 HM2.out).mono ?_
                rintro e w9 ⟨a9, d9, rfl, V9, hb9⟩
                have HB9 := Lib.hid (HB8.trans (hb9.mono HB8.size))
                refine hKz _ _ (fun _ => HKS.out _ HB9.out) ?_
                clear hKz Kz
                have hS9 := HKS.out _ HB9.out
                refine AnyJ.takeD (i := 7) (d := some 62) (v := ?_) rfl (by kernel_rfl) (by kernel_rfl) (by kernel_rfl) (by kernel_rfl) (by kernel_rfl) (fun _ _ _ h => h) (Or.inl ⟨by kernel_rfl, ?_⟩) hS9 ?_
                rotate_left
                · intro w' hS
                  obtain ⟨sF0, sF1⟩ := hS
                  go_simp
                  try with_reducible rfl
                refine AnyJ.takeD (i := 8) (d := some 70) (v := ?_) rfl (by kernel_rfl) (by kernel_rfl) (by kernel_rfl) (by kernel_rfl) (by kernel_rfl) (fun _ _ _ h => h) (Or.inl ⟨by kernel_rfl, ?_⟩) hS9 ?_
                rotate_left
                · intro w' hS
                  obtain ⟨sF0, sF1⟩ := hS
                  go_simp
                  try with_reducible rfl
                refine AnyJ.takeD (i := 9) (d := some 71) (v := ?_) rfl (by kernel_rfl) (by kernel_rfl) (by kernel_rfl) (by kernel_rfl) (by kernel_rfl) (fun _ _ _ h => h) (Or.inl ⟨by kernel_rfl, ?_⟩) hS9 ?_
                rotate_left
                · intro w' hS
                  obtain ⟨sF0, sF1⟩ := hS
                  go_simp
                  try with_reducible rfl
                refine AnyJ.takeD (i := 10) (d := some 72) (v := ?_) rfl (by kernel_rfl) (by kernel_rfl) (by kernel_rfl) (by kernel_rfl) (by kernel_rfl) (fun _ _ _ h => h) (Or.inl ⟨by kernel_rfl, ?_⟩) hS9 ?_
                rotate_left
                · intro w' hS
                  obtain ⟨sF0, sF1⟩ := hS
                  go_simp
                  try with_reducible rfl
                refine AnyJ.takeD (i := 11) (d := some 15) (v := ?_) rfl (by kernel_rfl) (by kernel_rfl) (by kernel_rfl) (by kernel_rfl) (by kernel_rfl) (fun _ _ _ h => h) (Or.inl ⟨by kernel_rfl, ?_⟩) hS9 ?_
                rotate_left
                · intro w' hS
                  obtain ⟨sF0, sF1⟩ := hS
                  go_simp
                  try with_reducible rfl
                refine AnyJ.takeD (i := 12) (d := some 16) (v := ?_) rfl (by kernel_rfl) (by kernel_rfl) (by kernel_rfl) (by kernel_rfl) (by kernel_rfl) (fun _ _ _ h => h) (Or.inl ⟨by kernel_rfl, ?_⟩) hS9 ?_
                rotate_left
                · intro w' hS
                  obtain ⟨sF0, sF1⟩ := hS
                  go_simp
                  try with_reducible rfl
                refine AnyJ.takeD (i := 13) (d := some 17) (v := ?_) rfl (by kernel_rfl) (by kernel_rfl) (by kernel_rfl) (by kernel_rfl) (by kernel_rfl) (fun _ _ _ h => h) (Or.inl ⟨by kernel_rfl, ?_⟩) hS9 ?_
                rotate_left
                · intro w' hS
                  obtain ⟨sF0, sF1⟩ := hS
                  go_simp
                  try with_reducible rfl
                refine AnyJ.done (by kernel_rfl) ?_ _
                try simp only [Act.put, List.setIfInBounds_toArray, List.set_cons_zero, List.set_cons_succ]
                have V9' : Hid (SlV w9 (.slice a9 n d9) (colO l)) := SlV.pre V9 HC.out.2 HC.out.1
                obtain ⟨b9, o9, _, e9, _⟩ := V9.sli.1.get (Nat.zero_lt_succ n)
                subst e9
                have hd1 : n + 1 ≤ d9 := V9.sli.2.1
                have hd2 : d9 ≤ 9223372036854775807 := by have := V9.sli.2.2; unfold maxLen at this; exact this
                have hd3 : n ≤ d9 := by omega
                have hA9 : Hid (SlV w9 (.slice a5 n d5) (colO l)) := V5.out.step HB9.out
                have HBw9 : Hid (Below w.heap.size w w9) := HB5.out.trans (HB9.out.mono HB5.out.size)
                clear V9 hb9 hS9
                go_wp2_with fail
                refine (R_same_c _ _ (colO l) (colO l) _ V9'.out hA9.out true (by simp)).mono ?_
                rintro e w10 ⟨rfl, hb10⟩
                have HBw10 : Hid (Below w.heap.size w w10) := HBw9.out.trans (hb10.mono HBw9.out.size)
                clear hb10
                go_wp2_with fail
                go_ret
                exact ⟨rfl, HBw10.out⟩
              ·
                go_simp
                have R67 : Row (wo.alloc (.cells #[.int .i64 F, .int .i64 U] 36)) wo.heap.size [.int .i64 F, .int .i64 U] := Row.new' _ _ _ rfl
                have HB7 : Below w5.heap.size w5 (wo.alloc (.cells #[.int .i64 F, .int .i64 U] 36)) := HB6.alloc HB6.size _
                have hE7 : ∀ v ys, OwnP wo gA v ys → OwnP (wo.alloc (.cells #[.int .i64 F, .int .i64 U] 36)) gA v ys := fun v ys h => h.alloc _
                have hgl7 : wo.heap.size ≤ (wo.alloc (.cells #[.int .i64 F, .int .i64 U] 36)).heap.size := by simp
                obtain ⟨wr4, hwr4⟩ : ∃ W, wo.alloc (.cells #[.int .i64 F, .int .i64 U] 36) = W := ⟨_, rfl⟩
                rw [hwr4] at R67 HB7 hE7 hgl7
                try rw [hwr4]
                obtain ⟨gR, hgR⟩ : ∃ g, wo.heap.size = g := ⟨_, rfl⟩
                rw [hgR] at R67 hgl7
                try rw [hgR]
                refine hKz _ _ (fun _ => HKS.out _ HB7) ?_
                clear hKz Kz hwr4
                have hO7 := hE7 _ _ hO6
                have hG7 : gA ≤ wr4.heap.size := Nat.le_trans hgl6 (by rw [hgR]; exact hgl7)
                refine AnyJ.one (i := 2) (by kernel_rfl) rfl (fun Kz hKz => ?_)
                refine step_app_spans rfl (.tmp 63) (.tmp 64) 22 rfl Try.underlying22 gA _ (by simp [Act.eval, Act.put]) hO7 a n cap l (by simp [Act.eval, Act.put]) (HS.out.below (HB5.out.trans (HB7.mono HB5.out.size))) (by omega) hG7 ?_
                intro v7 wp ho7 _ hg7
                have HB72 : Below w5.heap.size w5 wp := HB7.grown hg7 HB7.size (fun k hk => by have : gA = k := (by simpa [Value.ownBlock] using hk); omega)
                refine hKz _ _ (fun _ => HKS.out _ HB72) ?_
                clear hKz Kz
                have hRR : Row wp gR [.int .i64 F, .int .i64 U] := R67.grownP hg7 (fun k hk => by have : gA = k := (by simpa [Value.ownBlock] using hk); have := (World.ownsRow.lt hO6 gA rfl).2; omega)
                have hG72 : gA ≤ wp.heap.size := Nat.le_trans hG7 hg7.size
                clear hg7 hO6 hE6 hE7 hgR hO7
                refine AnyJ.one (i := 5) (by kernel_rfl) rfl (fun Kz hKz => ?_)
                refine step_app_span rfl (.tmp 65) (.tmp 67) 22 rfl Try.underlying22 gA v7 l (by simp [Act.eval, Act.put]) ho7 gR 1 (F, U) (by simp [Act.eval, Act.put]) hRR (by rw [HL.out]; omega) hG72 ?_
                intro v8 w8 ho8 _ hg8
                have HB8 : Below w5.heap.size w5 w8 := HB72.grown hg8 HB72.size (fun k hk => by have := (World.ownsRow.lt ho7 k hk).1; omega)
                obtain ⟨ad8, cp8, rfl, ho8⟩ := ho8.shape (n + 1) (by rw [List.length_append, HL.out]; rfl)
                have HO8 := Lib.hid ho8.sl.1
                refine hKz _ _ (fun _ => HKS.out _ HB8) ?_
                clear hKz Kz ho8 hg8
                refine AnyJ.one (i := 6) (by kernel_rfl) rfl (fun Kz hKz => ?_)
                go_simp
                refine (Colours_c ad8 (n + 1) cp8 (l ++ [(F, U)]) _ (by omega) HO8.out HE2.out M2 HM2.out).mono ?_
                rintro e w9 ⟨a9, d9, rfl, V9, hb9⟩
                have HB9 := Lib.hid (HB8.trans (hb9.mono HB8.size))
                refine hKz _ _ (fun _ => HKS.out _ HB9.out) ?_
                clear hKz Kz
                have hS9 := HKS.out _ HB9.out
                refine AnyJ.takeD (i := 7) (d := some 62) (v := ?_) rfl (by kernel_rfl) (by kernel_rfl) (by kernel_rfl) (by kernel_rfl) (by kernel_rfl) (fun _ _ _ h => h) (Or.inl ⟨by kernel_rfl, ?_⟩) hS9 ?_
                rotate_left
                · intro w' hS
                  obtain ⟨sF0, sF1⟩ := hS
                  go_simp
                  try with_reducible rfl
                refine AnyJ.takeD (i := 8) (d := some 70) (v := ?_) rfl (by kernel_rfl) (by kernel_rfl) (by kernel_rfl) (by kernel_rfl) (by kernel_rfl) (fun _ _ _ h => h) (Or.inl ⟨by kernel_rfl, ?_⟩) hS9 ?_
                rotate_left
                · intro w' hS
                  obtain ⟨sF0, sF1⟩ := hS
                  go_simp
                  try with_reducible rfl
                refine AnyJ.takeD (i := 9) (d := some 71) (v := ?_) rfl (by kernel_rfl) (by kernel_rfl) (by kernel_rfl) (by kernel_rfl) (by kernel_rfl) (fun _ _ _ h => h) (Or.inl ⟨by kernel_rfl, ?_⟩) hS9 ?_
                rotate_left
                · intro w' hS
                  obtain ⟨sF0, sF1⟩ := hS
                  go_simp
                  try with_reducible rfl
                refine AnyJ.takeD (i := 10) (d := some 72) (v := ?_) rfl (by kernel_rfl) (by kernel_rfl) (by kernel_rfl) (by kernel_rfl) (by kernel_rfl) (fun _ _ _ h => h) (Or.inl ⟨by kernel_rfl, ?_⟩) hS9 ?_
                rotate_left
                · intro w' hS
                  obtain ⟨sF0, sF1⟩ := hS
                  go_simp
                  try with_reducible rfl
                refine AnyJ.takeD (i := 11) (d := some 15) (v := ?_) rfl (by kernel_rfl) (by kernel_rfl) (by kernel_rfl) (by kernel_rfl) (by kernel_rfl) (fun _ _ _ h => h) (Or.inl ⟨by kernel_rfl, ?_⟩) hS9 ?_
                rotate_left
                · intro w' hS
                  obtain ⟨sF0, sF1⟩ := hS
                  go_simp
                  try with_reducible rfl
                refine AnyJ.takeD (i := 12) (d := some 16) (v := ?_) rfl (by kernel_rfl) (by kernel_rfl) (by kernel_rfl) (by kernel_rfl) (by kernel_rfl) (fun _ _ _ h => h) (Or.inl ⟨by kernel_rfl, ?_⟩) hS9 ?_
                rotate_left
                · intro w' hS
                  obtain ⟨sF0, sF1⟩ := hS
                  go_simp
                  try with_reducible rfl
                refine AnyJ.takeD (i := 13) (d := some 17) (v := ?_) rfl (by kernel_rfl) (by kernel_rfl) (by kernel_rfl) (by kernel_rfl) (by kernel_rfl) (fun _ _ _ h => h) (Or.inl ⟨by kernel_rfl, ?_⟩) hS9 ?_
                rotate_left
                · intro w' hS
                  obtain ⟨sF0, sF1⟩ := hS
                  go_simp
                  try with_reducible rfl
                refine AnyJ.done (by kernel_rfl) ?_ _
                try simp only [Act.put, List.setIfInBounds_toArray, List.set_cons_zero, List.set_cons_succ]
                have V9' : Hid (SlV w9 (.slice a9 n d9) (colO l)) := SlV.pre V9 HC.out.2 HC.out.1
                obtain ⟨b9, o9, _, e9, _⟩ := V9.sli.1.get (Nat.zero_lt_succ n)
                subst e9
                have hd1 : n + 1 ≤ d9 := V9.sli.2.1
                have hd2 : d9 ≤ 9223372036854775807 := by have := V9.sli.2.2; unfold maxLen at this; exact this
                have hd3 : n ≤ d9 := by omega
                have hA9 : Hid (SlV w9 (.slice a5 n d5) (colO l)) := V5.out.step HB9.out
                have HBw9 : Hid (Below w.heap.size w w9) := HB5.out.trans (HB9.out.mono HB5.out.size)
                clear V9 hb9 hS9
                go_wp2_with fail
                refine (R_same_c _ _ (colO l) (colO l) _ V9'.out hA9.out true (by simp)).mono ?_
                rintro e w10 ⟨rfl, hb10⟩
                have HBw10 : Hid (Below w.heap.size w w10) := HBw9.out.trans (hb10.mono HBw9.out.size)
                clear hb10
                go_wp2_with fail
                go_ret
                exact ⟨rfl, HBw10.out⟩
            · obtain ⟨gA, hgA0⟩ : ∃ g : Nat, g = 0 := ⟨_, rfl⟩
              go_simp
              have R67 : Row (wq.alloc (.cells #[.int .i64 F, .int .i64 U] 36)) wq.heap.size [.int .i64 F, .int .i64 U] := Row.new' _ _ _ rfl
              have HB6 : Below w5.heap.size w5 (wq.alloc (.cells #[.int .i64 F, .int .i64 U] 36)) := HBq.alloc HBq.size _
              have hE6 : ∀ v ys, OwnP wq gA v ys → OwnP (wq.alloc (.cells #[.int .i64 F, .int .i64 U] 36)) gA v ys := fun v ys h => h.alloc _
              have hgl6 : wq.heap.size ≤ (wq.alloc (.cells #[.int .i64 F, .int .i64 U] 36)).heap.size := by simp
              obtain ⟨wr4, hwr4⟩ : ∃ W, wq.alloc (.cells #[.int .i64 F, .int .i64 U] 36) = W := ⟨_, rfl⟩
              rw [hwr4] at R67 HB6 hE6 hgl6
              try rw [hwr4]
              obtain ⟨gR, hgR⟩ : ∃ g, wq.heap.size = g := ⟨_, rfl⟩
              rw [hgR] at R67 hgl6
              try rw [hgR]
              refine hKz _ _ (fun _ => HKS.out _ HB6) ?_
              clear hKz Kz hwr4
              clear hE6 hgA0 gA
              refine AnyJ.one (i := 0) (by kernel_rfl) rfl (fun Kz hKz => ?_)
              go_simp
              have HB7 : Below w5.heap.size w5 (wr4.alloc (.cells #[] 36)) := HB6.alloc HB6.size _
              have hO7 : OwnP (wr4.alloc (.cells #[] 36)) wr4.heap.size (.slice (some ⟨wr4.heap.size, 0, none⟩) 0 0) [] := OwnP.made _
              have hE7 : ∀ g cs, Row wr4 g cs → Row (wr4.alloc (.cells #[] 36)) g cs ∧ g < wr4.heap.size := fun g cs h => ⟨h.alloc _, h.lt⟩
              have hge7 : w5.heap.size ≤ wr4.heap.size := HB6.size
              have hgl7 : wr4.heap.size ≤ (wr4.alloc (.cells #[] 36)).heap.size := by simp
              obtain ⟨wo, hwo⟩ : ∃ W, wr4.alloc (.cells #[] 36) = W := ⟨_, rfl⟩
              rw [hwo] at HB7 hO7 hE7 hgl7
              try rw [hwo]
              obtain ⟨gA, hgA⟩ : ∃ g, wr4.heap.size = g := ⟨_, rfl⟩
              rw [hgA] at hO7 hE7 hge7 hgl7
              try rw [hgA]
              refine hKz _ _ (fun _ => HKS.out _ HB7) ?_
              clear hKz Kz hwo hgA
              have hR7 := (hE7 _ _ R67).1
              have hR8 := (hE7 _ _ R67).2
              refine AnyJ.one (i := 2) (by kernel_rfl) rfl (fun Kz hKz => ?_)
              refine step_app_spans rfl (.tmp 63) (.tmp 64) 22 rfl Try.underlying22 gA _ (by simp [Act.eval, Act.put]) hO7 a n cap l (by simp [Act.eval, Act.put]) (HS.out.below (HB5.out.trans (HB7.mono HB5.out.size))) (by omega) hgl7 ?_
              intro v7 wp ho7 _ hg7
              have HB72 : Below w5.heap.size w5 wp := HB7.grown hg7 HB7.size (fun k hk => by have : gA = k := (by simpa [Value.ownBlock] using hk); omega)
              refine hKz _ _ (fun _ => HKS.out _ HB72) ?_
              clear hKz Kz
              have hRR : Row wp gR [.int .i64 F, .int .i64 U] := hR7.grownP hg7 (fun k hk => by have : gA = k := (by simpa [Value.ownBlock] using hk); omega)
              have hG72 : gA ≤ wp.heap.size := Nat.le_trans hgl7 hg7.size
              clear hg7 hE7 hgR hO7 hR7 hR8 R67
              refine AnyJ.one (i := 5) (by kernel_rfl) rfl (fun Kz hKz => ?_)
              refine step_app_span rfl (.tmp 65) (.tmp 67) 22 rfl Try.underlying22 gA v7 l (by simp [Act.eval, Act.put]) ho7 gR 1 (F, U) (by simp [Act.eval, Act.put]) hRR (by rw [HL.out]; omega) hG72 ?_
              intro v8 w8 ho8 _ hg8
              have HB8 : Below w5.heap.size w5 w8 := HB72.grown hg8 HB72.size (fun k hk => by have := (World.ownsRow.lt ho7 k hk).1; omega)
              obtain ⟨ad8, cp8, rfl, ho8⟩ := ho8.shape (n + 1) (by rw [List.length_append, HL.out]; rfl)
              have HO8 := Lib.hid ho8.sl.1
              refine hKz _ _ (fun _ => HKS.out _ HB8) ?_
              clear hKz Kz ho8 hg8
              refine AnyJ.one (i := 6) (by kernel_rfl) rfl (fun Kz hKz => ?_)
              go_simp
              refine (Colours_c ad8 (n + 1) cp8 (l ++ [(F, U)]) _ (by omega) HO8.out HE2.out M2 HM2.out).mono ?_
              rintro e w9 ⟨a9, d9, rfl, V9, hb9⟩
              have HB9 := Lib.hid (HB8.trans (hb9.mono HB8.size))
              refine hKz _ _ (fun _ => HKS.out _ HB9.out) ?_
              clear hKz Kz
              have hS9 := HKS.out _ HB9.out
              refine AnyJ.takeD (i := 7) (d := some 62) (v := ?_) rfl (by kernel_rfl) (by kernel_rfl) (by kernel_rfl) (by kernel_rfl) (by kernel_rfl) (fun _ _ _ h => h) (Or.inl ⟨by kernel_rfl, ?_⟩) hS9 ?_
              rotate_left
              · intro w' hS
                obtain ⟨sF0, sF1⟩ := hS
                go_simp
                try with_reducible rfl
              refine AnyJ.takeD (i := 8) (d := some 70) (v := ?_) rfl (by kernel_rfl) (by kernel_rfl) (by kernel_rfl) (by kernel_rfl) (by kernel_rfl) (fun _ _ _ h => h) (Or.inl ⟨by kernel_rfl, ?_⟩) hS9 ?_
              rotate_left
              · intro w' hS
                obtain ⟨sF0, sF1⟩ := hS
                go_simp
                try with_reducible rfl
              refine AnyJ.takeD (i := 9) (d := some 71) (v := ?_) rfl (by kernel_rfl) (by kernel_rfl) (by kernel_rfl) (by kernel_rfl) (by kernel_rfl) (fun _ _ _ h => h) (Or.inl ⟨by kernel_rfl, ?_⟩) hS9 ?_
              rotate_left
              · intro w' hS
                obtain ⟨sF0, sF1⟩ := hS
                go_simp
                try with_reducible rfl
              refine AnyJ.takeD (i := 10) (d := some 72) (v := ?_) rfl (by kernel_rfl) (by kernel_rfl) (by kernel_rfl) (by kernel_rfl) (by kernel_rfl) (fun _ _ _ h => h) (Or.inl ⟨by kernel_rfl, ?_⟩) hS9 ?_
              rotate_left
              · intro w' hS
                obtain ⟨sF0, sF1⟩ := hS
                go_simp
                try with_reducible rfl
              refine AnyJ.takeD (i := 11) (d := some 15) (v := ?_) rfl (by kernel_rfl) (by kernel_rfl) (by kernel_rfl) (by kernel_rfl) (by kernel_rfl) (fun _ _ _ h => h) (Or.inl ⟨by kernel_rfl, ?_⟩) hS9 ?_
              rotate_left
              · intro w' hS
                obtain ⟨sF0, sF1⟩ := hS
                go_simp
                try with_reducible rfl
              refine AnyJ.takeD (i := 12) (d := some 16) (v := ?_) rfl (by kernel_rfl) (by kernel_rfl) (by kernel_rfl) (by kernel_rfl) (by kernel_rfl) (fun _ _ _ h => h) (Or.inl ⟨by kernel_rfl, ?_⟩) hS9 ?_
              rotate_left
              · intro w' hS
                obtain ⟨sF0, sF1⟩ := hS
                go_simp
                try with_reducible rfl
              refine AnyJ.takeD (i := 13) (d := some 17) (v := ?_) rfl (by kernel_rfl) (by kernel_rfl) (by kernel_rfl) (by kernel_rfl) (by kernel_rfl) (fun _ _ _ h => h) (Or.inl ⟨by kernel_rfl, ?_⟩) hS9 ?_
              rotate_left
              · intro w' hS
                obtain ⟨sF0, sF1⟩ := hS
                go_simp
                try with_reducible rfl
              refine AnyJ.done (by kernel_rfl) ?_ _
              try simp only [Act.put, List.setIfInBounds_toArray, List.set_cons_zero, List.set_cons_succ]
              have V9' : Hid (SlV w9 (.slice a9 n d9) (colO l)) := SlV.pre V9 HC.out.2 HC.out.1
              obtain ⟨b9, o9, _, e9, _⟩ := V9.sli.1.get (Nat.zero_lt_succ n)
              subst e9
              have hd1 : n + 1 ≤ d9 := V9.sli.2.1
              have hd2 : d9 ≤ 9223372036854775807 := by have := V9.sli.2.2; unfold maxLen at this; exact this
              have hd3 : n ≤ d9 := by omega
              have hA9 : Hid (SlV w9 (.slice a5 n d5) (colO l)) := V5.out.step HB9.out
              have HBw9 : Hid (Below w.heap.size w w9) := HB5.out.trans (HB9.out.mono HB5.out.size)
              clear V9 hb9 hS9
              go_wp2_with fail
              refine (R_same_c _ _ (colO l) (colO l) _ V9'.out hA9.out true (by simp)).mono ?_
              rintro e w10 ⟨rfl, hb10⟩
              have HBw10 : Hid (Below w.heap.size w w10) := HBw9.out.trans (hb10.mono HBw9.out.size)
              clear hb10
              go_wp2_with fail
              go_ret
              exact ⟨rfl, HBw10.out⟩
          · go_wp2_with fail
            go_ret
            refine ⟨rfl, ?_⟩
            have hB' := hBw.out
            clear hBw hB
            (repeat' (first | (with_reducible exact Below.refl _ _) | (with_reducible assumption) | (with_reducible exact Bw.out (by with_reducible assumption)) | (with_reducible refine bw_alloc ?_ _) | (with_reducible refine bw_step ?_ (by with_reducible assumption)) | (with_reducible refine Below.alloc ?_ ?_ _) | (with_reducible refine Below.drew ?_) | (with_reducible refine below_drewN ?_ _) | (with_reducible refine Below.setCell ?_ ?_ _) | (with_reducible refine below_step ?_ (by with_reducible assumption) ?_) | (with_reducible exact Nat.le_refl _) | omega | (simp; omega) | (simp; done)))
    · have HU := Lib.hid hu
      have hn1 : (99 : Int) < (n : Int) := by omega
      have hn2 : ¬ n ≤ 99 := h99
      clear hu h99
      go_enter Try.func8, Try.ntmps8
      go_wp2_with fail
      refine (c_head_any _).mono ?_
      rintro e w1 ⟨rfl, hb1⟩
      have HB1 : Below w.heap.size w w1 := by (repeat' (first | (with_reducible exact Below.refl _ _) | (with_reducible assumption) | (with_reducible exact Bw.out (by with_reducible assumption)) | (with_reducible refine bw_alloc ?_ _) | (with_reducible refine bw_step ?_ (by with_reducible assumption)) | (with_reducible refine Below.alloc ?_ ?_ _) | (with_reducible refine Below.drew ?_) | (with_reducible refine below_drewN ?_ _) | (with_reducible refine Below.setCell ?_ ?_ _) | (with_reducible refine below_step ?_ (by with_reducible assumption) ?_) | (with_reducible exact Nat.le_refl _) | omega | (simp; omega) | (simp; done)))
      go_wp2_with fail
      refine (usable_c a n cap l _ hn (HS.out.below (by (repeat' (first | (with_reducible exact Below.refl _ _) | (with_reducible assumption) | (with_reducible exact Bw.out (by with_reducible assumption)) | (with_reducible refine bw_alloc ?_ _) | (with_reducible refine bw_step ?_ (by with_reducible assumption)) | (with_reducible refine Below.alloc ?_ ?_ _) | (with_reducible refine Below.drew ?_) | (with_reducible refine below_drewN ?_ _) | (with_reducible refine Below.setCell ?_ ?_ _) | (with_reducible refine below_step ?_ (by with_reducible assumption) ?_) | (with_reducible exact Nat.le_refl _) | omega | (simp; omega) | (simp; done))))) true HU.out).mono ?_
      rintro e w2 ⟨rfl, hb2⟩
      have HB2 : Below w.heap.size w w2 := by (repeat' (first | (with_reducible exact Below.refl _ _) | (with_reducible assumption) | (with_reducible exact Bw.out (by with_reducible assumption)) | (with_reducible refine bw_alloc ?_ _) | (with_reducible refine bw_step ?_ (by with_reducible assumption)) | (with_reducible refine Below.alloc ?_ ?_ _) | (with_reducible refine Below.drew ?_) | (with_reducible refine below_drewN ?_ _) | (with_reducible refine Below.setCell ?_ ?_ _) | (with_reducible refine below_step ?_ (by with_reducible assumption) ?_) | (with_reducible exact Nat.le_refl _) | omega | (simp; omega) | (simp; done)))
      clear hb1 HB1
      go_wp2_with fail
      go_ret
      refine ⟨(by first | rfl | exact ret_bool (by first | rfl | (simp; done) | (simp; omega))), ?_⟩
      (repeat' (first | (with_reducible exact Below.refl _ _) | (with_reducible assumption) | (with_reducible exact Bw.out (by with_reducible assumption)) | (with_reducible refine bw_alloc ?_ _) | (with_reducible refine bw_step ?_ (by with_reducible assumption)) | (with_reducible refine Below.alloc ?_ ?_ _) | (with_reducible refine Below.drew ?_) | (with_reducible refine below_drewN ?_ _) | (with_reducible refine Below.setCell ?_ ?_ _) | (with_reducible refine below_step ?_ (by with_reducible assumption) ?_) | (with_reducible exact Nat.le_refl _) | omega | (simp; omega) | (simp; done)))
  · have HU := Lib.hid (show usS l = false by simpa using hu)
    clear hu
    go_enter Try.func8, Try.ntmps8
    go_wp2_with fail
    refine (c_head_any _).mono ?_
    rintro e w1 ⟨rfl, hb1⟩
    have HB1 : Below w.heap.size w w1 := by (repeat' (first | (with_reducible exact Below.refl _ _) | (with_reducible assumption) | (with_reducible exact Bw.out (by with_reducible assumption)) | (with_reducible refine bw_alloc ?_ _) | (with_reducible refine bw_step ?_ (by with_reducible assumption)) | (with_reducible refine Below.alloc ?_ ?_ _) | (with_reducible refine Below.drew ?_) | (with_reducible refine below_drewN ?_ _) | (with_reducible refine Below.setCell ?_ ?_ _) | (with_reducible refine below_step ?_ (by with_reducible assumption) ?_) | (with_reducible exact Nat.le_refl _) | omega | (simp; omega) | (simp; done)))
    go_wp2_with fail
    refine (usable_c a n cap l _ hn (HS.out.below (by (repeat' (first | (with_reducible exact Below.refl _ _) | (with_reducible assumption) | (with_reducible exact Bw.out (by with_reducible assumption)) | (with_reducible refine bw_alloc ?_ _) | (with_reducible refine bw_step ?_ (by with_reducible assumption)) | (with_reducible refine Below.alloc ?_ ?_ _) | (with_reducible refine Below.drew ?_) | (with_reducible refine below_drewN ?_ _) | (with_reducible refine Below.setCell ?_ ?_ _) | (with_reducible refine below_step ?_ (by with_reducible assumption) ?_) | (with_reducible exact Nat.le_refl _) | omega | (simp; omega) | (simp; done))))) false HU.out).mono ?_
    rintro e w2 ⟨rfl, hb2⟩
    have HB2 : Below w.heap.size w w2 := by (repeat' (first | (with_reducible exact Below.refl _ _) | (with_reducible assumption) | (with_reducible exact Bw.out (by with_reducible assumption)) | (with_reducible refine bw_alloc ?_ _) | (with_reducible refine bw_step ?_ (by with_reducible assumption)) | (with_reducible refine Below.alloc ?_ ?_ _) | (with_reducible refine Below.drew ?_) | (with_reducible refine below_drewN ?_ _) | (with_reducible refine Below.setCell ?_ ?_ _) | (with_reducible refine below_step ?_ (by with_reducible assumption) ?_) | (with_reducible exact Nat.le_refl _) | omega | (simp; omega) | (simp; done)))
    clear hb1 HB1
    go_wp2_with fail
    go_ret
    refine ⟨(by first | rfl | exact ret_bool (by first | rfl | (simp; done) | (simp; omega))), ?_⟩
    (repeat' (first | (with_reducible exact Below.refl _ _) | (with_reducible assumption) | (with_reducible exact Bw.out (by with_reducible assumption)) | (with_reducible refine bw_alloc ?_ _) | (with_reducible refine bw_step ?_ (by with_reducible assumption)) | (with_reducible refine Below.alloc ?_ ?_ _) | (with_reducible refine Below.drew ?_) | (with_reducible refine below_drewN ?_ _) | (with_reducible refine Below.setCell ?_ ?_ _) | (with_reducible refine below_step ?_ (by with_reducible assumption) ?_) | (with_reducible exact Nat.le_refl _) | omega | (simp; omega) | (simp; done)))


set_option maxRecDepth 100000 in
theorem colourLater_lifted (os : Os) (started : os.Started) (H : Type) (enc : TypeId × Value → H) :
    ReturnsInHanded {} Try.checked os 8 .any (Rows.colourLaterSpec.pre6 enc Try.prog Try.f8 Rows.colourLaterRow.domain false) (Rows.colourLaterSpec.post enc Try.prog Try.f8 false true false false) := by
  refine returnsInHanded_of_change (C := Try.checked) own started (by kernel_rfl) Try.func8
    (ChangeSpec.witness6 (enc := enc) (C := Try.checked) false ⟨#[], #[.slice none 0 0, .int .u16 0, .int .u16 0], []⟩ 8 (by kernel_rfl) (by kernel_rfl) (by kernel_rfl) (by kernel_rfl)) ?_
  intro W base args ds gs before hval0 hW _ _
  have hval : ∀ (j : Nat) t v, Try.f8.params[j]? = some t → args[j]? = some v → Value.okWide Try.prog W .any base t v := hval0
  have hW' := hW
  obtain ⟨p, q, hA0, hV, rfl, hfz, hnd⟩ := hW
  obtain ⟨rfl, rfl⟩ := trodVars_none hV
  have hA : DataW.TrodAll enc Try.prog W 0 (fun _ => true) true Try.f8.params.toList args.toList ds p := hA0
  rw [Try.params8] at hA hval
  obtain ⟨v0, vs0, d0, ds0, p0, q0, hargs, rfl, rfl, h0, r0⟩ := trodAll_cons hA
  obtain ⟨v1, vs1, d1, ds1, p1, q1, rfl, rfl, rfl, h1, r1⟩ := trodAll_cons r0
  obtain ⟨v2, vs2, d2, ds2, p2, q2, rfl, rfl, rfl, h2, r2⟩ := trodAll_cons r1
  obtain ⟨rfl, rfl, rfl⟩ := trodAll_nil r2
  obtain rfl : args = #[v0, v1, v2] := by cases args; simp_all
  obtain ⟨a0_l, n0_l, c0_l, rfl⟩ := okWide_slice Try.underlying22 (hval 0 22 v0 rfl rfl)
  obtain ⟨fu_l, hf_l⟩ := h0
  obtain ⟨a_l, n_l, c_l, l_l, e_l, g1_l, g2_l, hs_l, wf_l⟩ := slp_of_spans (by simpa [Value.cells] using hf_l)
  cases e_l
  obtain ⟨later, rfl, rfl, rfl, wlater⟩ := open_int Try.underlying38 (hval 1 38 v1 rfl rfl) h1
  obtain ⟨long, rfl, rfl, rfl, wlong⟩ := open_int Try.underlying38 (hval 2 38 v2 rfl rfl) h2
  clear hA0 hval0
  refine (colourLater_walk _ _ _ l_l later long wf_l wlater wlong W ⟨hs_l, g1_l, g2_l⟩).mono fun e W' ⟨he, hb⟩ => ?_
  subst he
  exact ⟨_, rfl, law_post (B := 4) laidOut (by rw [Try.params8]; simp only [List.mem_cons, List.not_mem_nil, or_false, forall_eq_or_imp, forall_eq]; first | exact readable_colourLater | (repeat' apply And.intro) <;> first | exact of_decide_eq_true (by kernel_rfl) | kernel_rfl) rfl Try.underlying4 rfl rfl hW' hb⟩

theorem colourLater_over : Rows.colourLaterRow.holds Try.pinned (OpenSpec.ofChange Rows.colourLaterSpec) :=
  OpenClaim.holds_of_wide 8 Try.f8 rfl rfl rfl rfl rfl rfl rfl ⟨rfl, rfl, rfl, rfl, rfl⟩ rfl rfl rfl rfl rfl (by kernel_rfl) Try.func8 (by kernel_rfl)
    (of_decide_eq_true (by kernel_rfl)) (by unfold Func.isWrapper; first | (rw [if_pos (by decide +kernel)]; kernel_rfl) | (rw [if_neg (by decide +kernel)]; exact ⟨rfl, rfl⟩))
    (fun os started H enc _ => colourLater_lifted os started H enc)

theorem colourLater_holds : Rows.ColourLaterSaid := colourLater_over
#print axioms colourLater_holds
end Go.Proofs.Ytbafhmlmibjgpaa
