/-
  The reference's Colours.
-/
import Derived.Test.YtbafhmlmibjgpaaColS
namespace Go.Proofs.Ytbafhmlmibjgpaa
set_option linter.unusedSimpArgs false
set_option linter.unusedVariables false
open Go.RowKit

/-- The colours that are used by earlier spans that are met. -/
def usedK (l : List SpV) (O : List Int) (i : Nat) : Nat → List Int
  | 0 => []
  | k + 1 => usedK l O i k ++ (if frP l (oL l i) < unP l (oL l k) then [colAt O (oL l k)] else [])
theorem usedK_length (l : List SpV) (O : List Int) (i : Nat) : ∀ k, (usedK l O i k).length ≤ k
  | 0 => Nat.le_refl _
  | k + 1 => by
    have := usedK_length l O i k
    unfold usedK
    rw [List.length_append]
    split <;> simp <;> omega
theorem usedK_mem {l : List SpV} {O : List Int} {i : Nat} {x : Int} : ∀ {k : Nat}, x ∈ usedK l O i k ↔ ∃ j, j < k ∧ frP l (oL l i) < unP l (oL l j) ∧ colAt O (oL l j) = x
  | 0 => by simp [usedK]
  | k + 1 => by
    unfold usedK
    rw [List.mem_append, usedK_mem (k := k)]
    constructor
    · rintro (⟨j, h1, h2, h3⟩ | h)
      · exact ⟨j, by omega, h2, h3⟩
      · split at h
        · rename_i hc
          simp only [List.mem_singleton] at h
          exact ⟨k, by omega, hc, h.symm⟩
        · simp at h
    · rintro ⟨j, h1, h2, h3⟩
      by_cases hj : j = k
      · subst hj
        right
        rw [if_pos h2]
        simp [h3]
      · exact Or.inl ⟨j, by omega, h2, h3⟩
theorem used_pick {l : List SpV} (ho : OkS l) {i : Nat} (hi : i < l.length) {c : Nat} (hc : c ≤ pickC (frP l (oL l i)) (colK l i).1) :
    decide ((c : Int) ∈ usedK l (colK l i).2 i i) = decide (c < pickC (frP l (oL l i)) (colK l i).1) := by
  obtain ⟨h1, h2⟩ := pick_used ho hi
  by_cases h : c < pickC (frP l (oL l i)) (colK l i).1
  · obtain ⟨j, g1, g2, g3⟩ := h1 c h
    rw [decide_eq_true h]
    exact decide_eq_true (usedK_mem.2 ⟨j, g1, g3, g2⟩)
  · rw [decide_eq_false h]
    refine decide_eq_false (fun hm => ?_)
    obtain ⟨j, g1, g2, g3⟩ := usedK_mem.1 hm
    refine h2 j g1 g2 ?_
    rw [g3]; omega
theorem colK_next {l : List SpV} {i : Nat} (hi : i < l.length) : (colK l (i + 1)).2 = (colK l i).2.set (oL l i).toNat (pickC (frP l (oL l i)) (colK l i).1 : Int) ∧
    (colK l (i + 1)).1.length = max (colK l i).1.length (pickC (frP l (oL l i)) (colK l i).1 + 1) := by
  have e : (ordL l).getD i 0 = oL l i := rfl
  rw [colK_succ hi, e]
  obtain ⟨E, O⟩ := colK l i
  rw [colS_pick]
  refine ⟨rfl, ?_⟩
  simp only [putE_length]
  have := (pickC_spec (frP l (oL l i)) E).1
  split
  · rename_i h; rw [h]; omega
  · rename_i h
    rcases this with h1 | h1
    · omega
    · exact absurd h1 h

set_option maxRecDepth 100000 in
set_option maxHeartbeats 1600000 in
theorem R_Colours_err (a : Option Addr) (n cap : Nat) (l : List SpV) (w : World) (hm : n ≤ 9223372036854775807) (hs : SlP w a n l) (E : Int) (hE : chkE l = E) (h0 : E ≠ 0) :
    Calls Try.prog 12 #[.slice a n cap] w fun e w' => e = .returned (.tuple #[.slice none 0 0, .int .i64 0, .int .i64 E]) ∧ Below w.heap.size w w' := by
  have HS := Lib.hid hs
  have HE := Lib.hid hE
  have h1 : (E == 0) = false := by simpa using h0
  clear hs hE
  go_enter Try.func12, Try.ntmps12
  go_wp2_with fail
  refine (R_check_any a n cap l _ (by omega) HS.out).mono ?_
  rintro e w' ⟨rfl, q, rfl⟩
  rw [HE.out]
  go_wp2_with fail
  go_ret3
  refine ⟨rfl, ?_⟩
  (repeat' (first | (with_reducible exact Below.refl _ _) | (with_reducible assumption) | (with_reducible exact Bw.out (by with_reducible assumption)) | (with_reducible refine bw_alloc ?_ _) | (with_reducible refine bw_step ?_ (by with_reducible assumption)) | (with_reducible refine Below.alloc ?_ ?_ _) | (with_reducible refine Below.drew ?_) | (with_reducible refine below_drewN ?_ _) | (with_reducible refine Below.setCell ?_ ?_ _) | (with_reducible refine below_step ?_ (by with_reducible assumption) ?_) | (with_reducible exact Nat.le_refl _) | omega | (simp; omega) | (simp; done)))

set_option maxRecDepth 100000 in
set_option maxHeartbeats 6400000 in
theorem R_Colours_ok (a : Option Addr) (n cap : Nat) (l : List SpV) (w : World) (hm : n ≤ 3000) (hs : SlP w a n l) (hE : chkE l = 0) :
    Calls Try.prog 12 #[.slice a n cap] w fun e w' => ∃ v, e = .returned (.tuple #[v, .int .i64 (colE l).length, .int .i64 0]) ∧ SlV w' v (colO l) ∧ Below w.heap.size w w' := by
  have HS := Lib.hid hs
  have HE := Lib.hid hE
  have HL := Lib.hid hs.1
  have HO := Lib.hid (chkE_ok hE).1
  obtain ⟨i0, hi, hz0, hz1, hz2⟩ := info_parts info_int
  have HI := Lib.hid (And.intro hi (And.intro hz0 (And.intro hz1 hz2)))
  clear hs hE hi hz0 hz1 hz2
  go_enter Try.func12, Try.ntmps12
  go_wp2_with fail
  refine (R_check_any a n cap l _ (by omega) HS.out).mono ?_
  rintro e w1 ⟨rfl, q1, hw1⟩
  rw [HE.out]
  have HB1 : Hid (Below w.heap.size w w1) := by show Below _ _ _; rw [hw1]; exact below_drewN (Below.refl _ _) q1
  clear hw1
  go_wp2_with fail
  refine (R_order_any a n cap l _ (by omega) (HS.out.below HB1.out)).mono ?_
  rintro e w2 ⟨ab, cb, rfl, hby, hb2⟩
  have HB2 : Hid (Below w.heap.size w w2) := HB1.out.trans (hb2.mono HB1.out.size)
  have HBY := Lib.hid (hby.sli (show (ordL l).length = n by rw [ordL_length, HL.out]))
  clear hb2 hby
  go_upto_region 6 with (refine wpList_make_row _ rfl _ _ 24 rfl 3 i0 (.int .i64 0) Try.underlying24 HI.out.1 HI.out.2.1 HI.out.2.2.1 rfl .i64 .i64 n rfl rfl (by rw [HI.out.2.2.2]; omega) (by omega) ?_)
  have hV3 := OwnV.zeros w2 (n := n) (by unfold maxLen; omega)
  have hb3 : Below w2.heap.size w2 (w2.alloc (.cells (madeCells #[.int .i64 0] n) 3)) := by (repeat' (first | (with_reducible exact Below.refl _ _) | (with_reducible assumption) | (with_reducible exact Bw.out (by with_reducible assumption)) | (with_reducible refine bw_alloc ?_ _) | (with_reducible refine bw_step ?_ (by with_reducible assumption)) | (with_reducible refine Below.alloc ?_ ?_ _) | (with_reducible refine Below.drew ?_) | (with_reducible refine below_drewN ?_ _) | (with_reducible refine Below.setCell ?_ ?_ _) | (with_reducible refine below_step ?_ (by with_reducible assumption) ?_) | (with_reducible exact Nat.le_refl _) | omega | (simp; omega) | (simp; done)))
  obtain ⟨w3, hw3⟩ : ∃ W, w2.alloc (.cells (madeCells #[.int .i64 0] n) 3) = W := ⟨_, rfl⟩
  rw [hw3] at hV3 hb3
  try rw [hw3]
  obtain ⟨go', hgo'⟩ : ∃ g, w2.heap.size = g := ⟨_, rfl⟩
  rw [hgo'] at hV3 hb3
  try rw [hgo']
  have HV3 := Lib.hid hV3
  have HB3 := Lib.hid hb3
  have hgw : w.heap.size ≤ go' := by rw [← hgo']; exact HB2.out.size
  have HG := Lib.hid hgo'
  clear hV3 hb3 hw3 hgo'
  go_wp2_with fail
  go_loopw [8, 9] (fun vm vi wr => ∃ (i m : Nat), i ≤ n ∧ vi = .int .i64 i ∧ vm = .int .i64 m ∧ Hid ((colK l i).1.length = m) ∧ Hid (OwnV wr go' (.slice (some ⟨go', 0, none⟩) n n) (colK l i).2) ∧ Hid (Below go' w2 wr)) (fun _ vi _ => n - (intOf vi).toNat)
  case atStart => exact ⟨0, 0, Nat.zero_le _, rfl, rfl, rfl, by show OwnV _ _ _ _; rw [show (colK l 0).2 = List.replicate n 0 by simp [colK, HL.out]]; exact HV3.out, HB3.out⟩
  case round =>
    obtain ⟨i, m, hk, rfl, rfl, hM, hO, hB⟩ := hrel
    have hB2 : Hid (Below w2.heap.size w2 wr) := by show Below _ _ _; rw [HG.out]; exact hB.out
    have hBw : Hid (Below w.heap.size w wr) := HB2.out.trans (hB2.out.mono HB2.out.size)
    by_cases hlt : i < n
    · obtain ⟨bb, ob, yi, hab, _, cy, hy, _, _⟩ := (HBY.out.below hB2.out).get hlt
      subst hab
      have hyo : oL l i = yi := hy.out
      have hyin := oL_in (l := l) (k := i) (by rw [HL.out]; exact hlt)
      rw [hyo] at hyin
      obtain ⟨hy0, hy1⟩ := hyin
      obtain ⟨y, rfl⟩ := Int.eq_ofNat_of_zero_le hy0
      have hyn : y < n := by have := HL.out; omega
      have HYO := Lib.hid hyo
      obtain ⟨fy, uy, b, off, hxy, _, _, ha, hbl, d0, d1⟩ := (HS.out.below hBw.out).get hyn
      subst ha
      have hFY : frP l y = fy ∧ unP l y = uy := by simp only [frP, unP, Int.toNat_natCast, hxy.out, and_self]
      have HFY := Lib.hid hFY
      obtain ⟨C, hC⟩ : ∃ C, pickC (frP l (oL l i)) (colK l i).1 = C := ⟨_, rfl⟩
      have HC := Lib.hid hC
      have hnx := colK_next (l := l) (i := i) (by rw [HL.out]; exact hlt)
      rw [hC, HYO.out, Int.toNat_natCast, hM.out] at hnx
      have HNX := Lib.hid hnx
      have HCM : Hid (C ≤ m) := by
        show _ ≤ _
        have := (pickC_spec (frP l (oL l i)) (colK l i).1).1
        rw [hC, hM.out] at this
        omega
      have hmn : m ≤ n := by
        have := (colK_length l i (by rw [HL.out]; omega)).1
        rw [hM.out] at this; omega
      have hOl : Hid ((colK l i).2.length = n) := by show _ = _; rw [(colK_length l i (by rw [HL.out]; omega)).2, HL.out]
      have i1 : (0 : Int) ≤ (i : Int) := by omega
      have i2 : (i : Int) < (n : Int) := by omega
      have y1 : (0 : Int) ≤ (y : Int) := by omega
      have y2 : (y : Int) < (n : Int) := by omega
      have hbby := World.block_lt_of_cell? wr _ cy
      have HKY : Hid (∀ w', Below wr.heap.size wr w' → w'.cell? ⟨bb, ob + i, none⟩ = some (.int .i64 y) ∧ w'.cell? ⟨b, off + y * 2, none⟩ = some (.int .i64 fy) ∧ w'.cell? ⟨b, off + y * 2 + 1, none⟩ = some (.int .i64 uy)) :=
        fun w' hb => ⟨(hb.cell (p := ⟨bb, ob + i, none⟩) hbby).trans cy, (hb.cell (p := ⟨b, off + y * 2, none⟩) hbl).trans d0, (hb.cell (p := ⟨b, off + y * 2 + 1, none⟩) hbl).trans d1⟩
      have hgr : go' ≤ wr.heap.size := Nat.le_of_lt hO.out.ownI.lt
      clear hy hyo hy0 hy1 hxy hFY hC hnx cy d0 d1
      go_wp2_with fail
      go_loopw [10, 11] (fun vu vk wq => ∃ (k : Nat) (v : Value), k ≤ i ∧ vk = .int .i64 k ∧ v = vu ∧ Hid (OwnV wq wr.heap.size v (usedK l (colK l i).2 i k)) ∧ Hid (Below wr.heap.size wr wq)) (fun _ vk _ => i - (intOf vk).toNat)
      case atStart => exact ⟨0, .slice none 0 0, Nat.zero_le _, rfl, rfl, OwnV.nil _ _, Below.refl _ _⟩
      case round =>
        obtain ⟨k, v, hki, rfl, rfl, hU, hQ⟩ := hrel
        have hQ2 : Hid (Below w2.heap.size w2 wr) := hB2.out.trans (hQ.out.mono hB2.out.size)
        have hQw : Hid (Below w.heap.size w wr) := HB2.out.trans (hQ2.out.mono HB2.out.size)
        by_cases hltk : k < i
        · obtain ⟨b5, o5, xi, e5, hb5, cx, hx5, _, _⟩ := (HBY.out.below hQ2.out).get (show k < n by omega)
          cases e5
          have hxo : oL l k = xi := hx5.out
          have hxin := oL_in (l := l) (k := k) (by rw [HL.out]; omega)
          rw [hxo] at hxin
          obtain ⟨hx0, hx1⟩ := hxin
          obtain ⟨x, rfl⟩ := Int.eq_ofNat_of_zero_le hx0
          have hxn : x < n := by have := HL.out; omega
          obtain ⟨fx, ux, b6, o6, hxx, _, _, e6, hbl6, c0, c1⟩ := (HS.out.below hQw.out).get hxn
          cases e6
          have hFX : frP l x = fx ∧ unP l x = ux := by simp only [frP, unP, Int.toNat_natCast, hxx.out, and_self]
          have HK6 : Hid (∀ w', Below wr.heap.size wr w' → w'.cell? ⟨bb, ob + k, none⟩ = some (.int .i64 x) ∧ w'.cell? ⟨b, off + x * 2, none⟩ = some (.int .i64 fx) ∧ w'.cell? ⟨b, off + x * 2 + 1, none⟩ = some (.int .i64 ux) ∧ w'.cell? ⟨bb, ob + i, none⟩ = some (.int .i64 y) ∧ w'.cell? ⟨b, off + y * 2, none⟩ = some (.int .i64 fy) ∧ w'.cell? ⟨b, off + y * 2 + 1, none⟩ = some (.int .i64 uy)) :=
            fun w' hb => ⟨(hb.cell (p := ⟨bb, ob + k, none⟩) hb5).trans cx, (hb.cell (p := ⟨b, off + x * 2, none⟩) hbl6).trans c0, (hb.cell (p := ⟨b, off + x * 2 + 1, none⟩) hbl6).trans c1, HKY.out _ (hQ.out.trans (hb.mono hQ.out.size))⟩
          have hle := oL_fr (l := l) (j := k) (k := i) (by omega) (by rw [HL.out]; exact hlt)
          rw [hxo, HYO.out, hFX.1, HFY.out.1] at hle
          have hyu := HO.out.at (i := y) (by omega) (by rw [HL.out]; omega)
          rw [HFY.out.1, HFY.out.2] at hyu
          have hmb : meetB (fx, ux) (fy, uy) = decide (fy < ux) := by
            unfold meetB
            rw [show decide ((fx, ux).1 < (fy, uy).2) = true from decide_eq_true (by simp only []; omega)]
            rfl
          have hus : usedK l (colK l i).2 i (k + 1) = usedK l (colK l i).2 i k ++ (if fy < ux then [colAt (colK l i).2 x] else []) := by
            rw [usedK, hxo, HYO.out, HFY.out.1, hFX.2]
          have hxi : (0 : Int) ≤ (x : Int) := by omega
          have hxi2 : (x : Int) < (n : Int) := by omega
          have k1 : (0 : Int) ≤ (k : Int) := by omega
          have k2 : (k : Int) < (n : Int) := by omega
          have k3 : (k : Int) < (i : Int) := by omega
          have HUS := Lib.hid hus
          have HULn := Lib.hid (usedK_length l (colK l i).2 i k)
          clear hx0 hx1 hx5 hxo hxx hFX hle hyu hus cx c0 c1
          by_cases hc : fy < ux
          · have HMB : Hid (meetB (fx, ux) (fy, uy) = true) := by show _ = _; rw [hmb]; exact decide_eq_true hc
            have HU2 := HUS.out
            rw [if_pos hc] at HU2
            have HU2 := Lib.hid HU2
            clear hmb hc HUS
            go_upto_region 14 with fail
            refine AnyJ.beginP (fun w' : World => w'.cell? ⟨bb, ob + k, none⟩ = some (.int .i64 x) ∧ w'.cell? ⟨b, off + x * 2, none⟩ = some (.int .i64 fx) ∧ w'.cell? ⟨b, off + x * 2 + 1, none⟩ = some (.int .i64 ux) ∧ w'.cell? ⟨bb, ob + i, none⟩ = some (.int .i64 y) ∧ w'.cell? ⟨b, off + y * 2, none⟩ = some (.int .i64 fy) ∧ w'.cell? ⟨b, off + y * 2 + 1, none⟩ = some (.int .i64 uy)) (fun _ => true) (by kernel_rfl) (HK6.out _ (Below.refl _ wr).drew) (fun hS => ?_)
            refine AnyJ.takeD (i := 0) (d := some 34) (v := ?_) rfl (by kernel_rfl) (by kernel_rfl) (by kernel_rfl) (by kernel_rfl) (by kernel_rfl) (fun _ _ _ h => h) (Or.inl ⟨by kernel_rfl, ?_⟩) hS ?_
            rotate_left
            · intro w' hS
              obtain ⟨sF0, sF1, sF2, sF3, sF4, sF5⟩ := hS
              go_simp
              try with_reducible rfl
            refine AnyJ.takeD (i := 1) (d := some 35) (v := ?_) rfl (by kernel_rfl) (by kernel_rfl) (by kernel_rfl) (by kernel_rfl) (by kernel_rfl) (fun _ _ _ h => h) (Or.inl ⟨by kernel_rfl, ?_⟩) hS ?_
            rotate_left
            · intro w' hS
              obtain ⟨sF0, sF1, sF2, sF3, sF4, sF5⟩ := hS
              go_simp
              try with_reducible rfl
            refine AnyJ.takeD (i := 2) (d := some 36) (v := ?_) rfl (by kernel_rfl) (by kernel_rfl) (by kernel_rfl) (by kernel_rfl) (by kernel_rfl) (fun _ _ _ h => h) (Or.inl ⟨by kernel_rfl, ?_⟩) hS ?_
            rotate_left
            · intro w' hS
              obtain ⟨sF0, sF1, sF2, sF3, sF4, sF5⟩ := hS
              go_simp
              try with_reducible rfl
            refine AnyJ.takeD (i := 3) (d := some 37) (v := ?_) rfl (by kernel_rfl) (by kernel_rfl) (by kernel_rfl) (by kernel_rfl) (by kernel_rfl) (fun _ _ _ h => h) (Or.inl ⟨by kernel_rfl, ?_⟩) hS ?_
            rotate_left
            · intro w' hS
              obtain ⟨sF0, sF1, sF2, sF3, sF4, sF5⟩ := hS
              go_simp
              try with_reducible rfl
            refine AnyJ.takeD (i := 4) (d := some 38) (v := ?_) rfl (by kernel_rfl) (by kernel_rfl) (by kernel_rfl) (by kernel_rfl) (by kernel_rfl) (fun _ _ _ h => h) (Or.inl ⟨by kernel_rfl, ?_⟩) hS ?_
            rotate_left
            · intro w' hS
              obtain ⟨sF0, sF1, sF2, sF3, sF4, sF5⟩ := hS
              go_simp
              try with_reducible rfl
            refine AnyJ.takeD (i := 5) (d := some 39) (v := ?_) rfl (by kernel_rfl) (by kernel_rfl) (by kernel_rfl) (by kernel_rfl) (by kernel_rfl) (fun _ _ _ h => h) (Or.inl ⟨by kernel_rfl, ?_⟩) hS ?_
            rotate_left
            · intro w' hS
              obtain ⟨sF0, sF1, sF2, sF3, sF4, sF5⟩ := hS
              go_simp
              try with_reducible rfl
            refine AnyJ.takeD (i := 6) (d := some 40) (v := ?_) rfl (by kernel_rfl) (by kernel_rfl) (by kernel_rfl) (by kernel_rfl) (by kernel_rfl) (fun _ _ _ h => h) (Or.inl ⟨by kernel_rfl, ?_⟩) hS ?_
            rotate_left
            · intro w' hS
              obtain ⟨sF0, sF1, sF2, sF3, sF4, sF5⟩ := hS
              go_simp
              try with_reducible rfl
            refine AnyJ.takeD (i := 7) (d := some 41) (v := ?_) rfl (by kernel_rfl) (by kernel_rfl) (by kernel_rfl) (by kernel_rfl) (by kernel_rfl) (fun _ _ _ h => h) (Or.inl ⟨by kernel_rfl, ?_⟩) hS ?_
            rotate_left
            · intro w' hS
              obtain ⟨sF0, sF1, sF2, sF3, sF4, sF5⟩ := hS
              go_simp
              try with_reducible rfl
            refine AnyJ.takeD (i := 8) (d := some 42) (v := ?_) rfl (by kernel_rfl) (by kernel_rfl) (by kernel_rfl) (by kernel_rfl) (by kernel_rfl) (fun _ _ _ h => h) (Or.inl ⟨by kernel_rfl, ?_⟩) hS ?_
            rotate_left
            · intro w' hS
              obtain ⟨sF0, sF1, sF2, sF3, sF4, sF5⟩ := hS
              go_simp
              try with_reducible rfl
            refine AnyJ.takeD (i := 9) (d := some 43) (v := ?_) rfl (by kernel_rfl) (by kernel_rfl) (by kernel_rfl) (by kernel_rfl) (by kernel_rfl) (fun _ _ _ h => h) (Or.inl ⟨by kernel_rfl, ?_⟩) hS ?_
            rotate_left
            · intro w' hS
              obtain ⟨sF0, sF1, sF2, sF3, sF4, sF5⟩ := hS
              go_simp
              try with_reducible rfl
            refine AnyJ.takeD (i := 10) (d := some 44) (v := ?_) rfl (by kernel_rfl) (by kernel_rfl) (by kernel_rfl) (by kernel_rfl) (by kernel_rfl) (fun _ _ _ h => h) (Or.inl ⟨by kernel_rfl, ?_⟩) hS ?_
            rotate_left
            · intro w' hS
              obtain ⟨sF0, sF1, sF2, sF3, sF4, sF5⟩ := hS
              go_simp
              try with_reducible rfl
            refine AnyJ.takeD (i := 11) (d := some 45) (v := ?_) rfl (by kernel_rfl) (by kernel_rfl) (by kernel_rfl) (by kernel_rfl) (by kernel_rfl) (fun _ _ _ h => h) (Or.inl ⟨by kernel_rfl, ?_⟩) hS ?_
            rotate_left
            · intro w' hS
              obtain ⟨sF0, sF1, sF2, sF3, sF4, sF5⟩ := hS
              go_simp
              try with_reducible rfl
            refine AnyJ.takeD (i := 12) (d := some 46) (v := ?_) rfl (by kernel_rfl) (by kernel_rfl) (by kernel_rfl) (by kernel_rfl) (by kernel_rfl) (fun _ _ _ h => h) (Or.inl ⟨by kernel_rfl, ?_⟩) hS ?_
            rotate_left
            · intro w' hS
              obtain ⟨sF0, sF1, sF2, sF3, sF4, sF5⟩ := hS
              go_simp
              try with_reducible rfl
            refine AnyJ.takeD (i := 13) (d := some 47) (v := ?_) rfl (by kernel_rfl) (by kernel_rfl) (by kernel_rfl) (by kernel_rfl) (by kernel_rfl) (fun _ _ _ h => h) (Or.inl ⟨by kernel_rfl, ?_⟩) hS ?_
            rotate_left
            · intro w' hS
              obtain ⟨sF0, sF1, sF2, sF3, sF4, sF5⟩ := hS
              go_simp
              try with_reducible rfl
            clear hS
            refine AnyJ.one (i := 14) (by kernel_rfl) rfl (fun Kz hKz => ?_)
            go_simp
            refine (R_meet_any fx ux fy uy _).mono ?_
            rintro e w9 ⟨rfl, hb9⟩
            rw [HMB.out]
            have hb9' : Below wr.heap.size wr w9 := (Below.refl _ wr).drew.trans hb9
            have HB9 := Lib.hid hb9'
            refine hKz _ _ (fun _ => HK6.out _ hb9') ?_
            clear hKz Kz hb9 hb9'
            refine AnyJ.done (by kernel_rfl) ?_ _
            try simp only [Act.put, List.setIfInBounds_toArray, List.set_cons_zero, List.set_cons_succ]
            have hOq : OwnV w9 go' (.slice (some ⟨go', 0, none⟩) n n) (colK l i).2 := hO.out.step (hQ.out.trans (HB9.out.mono hQ.out.size))
            have ccx := hOq.ownI.cell (show x < (colK l i).2.length by rw [hOl.out]; exact hxn)
            have hca : (colK l i).2.getD x 0 = colAt (colK l i).2 x := by unfold colAt; rw [Int.toNat_natCast]
            rw [hca] at ccx
            have cbk := (HK6.out _ HB9.out).1
            obtain ⟨z, hz⟩ : ∃ z, colAt (colK l i).2 (x : Int) = z := ⟨_, rfl⟩
            rw [hz] at ccx
            have HU3 : Hid (usedK l (colK l i).2 i (k + 1) = usedK l (colK l i).2 i k ++ [z]) := by show _ = _; rw [HU2.out, hz]
            have HU9 := Lib.hid (hU.out.step HB9.out)
            have hs9 : wr.heap.size ≤ w9.heap.size := HB9.out.size
            have hsq : _ ≤ wr.heap.size := hQ.out.size
            clear hOq hca hz HU2
            go_upto_region 13 with (at_builtin; refine wpList_append_int rfl _ _ _ rfl Try.underlying24 _ _ (usedK l (colK l i).2 i k) rfl (HU9.out.alloc _) w9.heap.size 1 z rfl ((Row.new' w9 [_] _ rfl).cell 0 rfl) (by have := HULn.out; omega) (by simp; omega) ?_; intro v' w5 hown1 hbl1 hsz1)
            rw [← HU3.out] at hown1
            have H1 := Lib.hid hown1
            have H7 := Lib.hid (hbl1 _ ((hQ.out.trans (HB9.out.mono hQ.out.size)).alloc (by omega) _))
            clear hown1 hbl1 ccx cbk
            go_wp2_with fail
            go_roundw
            case rel => exact ⟨k + 1, v', by omega, by go_num, rfl, H1.out, H7.out⟩
            case measure => simp [intOf]; omega
          · have HMB : Hid (meetB (fx, ux) (fy, uy) = false) := by show _ = _; rw [hmb]; exact decide_eq_false hc
            have HU2 := HUS.out
            rw [if_neg hc, List.append_nil] at HU2
            have HU2 := Lib.hid HU2
            clear hmb hc HUS
            go_upto_region 14 with fail
            refine AnyJ.beginP (fun w' : World => w'.cell? ⟨bb, ob + k, none⟩ = some (.int .i64 x) ∧ w'.cell? ⟨b, off + x * 2, none⟩ = some (.int .i64 fx) ∧ w'.cell? ⟨b, off + x * 2 + 1, none⟩ = some (.int .i64 ux) ∧ w'.cell? ⟨bb, ob + i, none⟩ = some (.int .i64 y) ∧ w'.cell? ⟨b, off + y * 2, none⟩ = some (.int .i64 fy) ∧ w'.cell? ⟨b, off + y * 2 + 1, none⟩ = some (.int .i64 uy)) (fun _ => true) (by kernel_rfl) (HK6.out _ (Below.refl _ wr).drew) (fun hS => ?_)
            refine AnyJ.takeD (i := 0) (d := some 34) (v := ?_) rfl (by kernel_rfl) (by kernel_rfl) (by kernel_rfl) (by kernel_rfl) (by kernel_rfl) (fun _ _ _ h => h) (Or.inl ⟨by kernel_rfl, ?_⟩) hS ?_
            rotate_left
            · intro w' hS
              obtain ⟨sF0, sF1, sF2, sF3, sF4, sF5⟩ := hS
              go_simp
              try with_reducible rfl
            refine AnyJ.takeD (i := 1) (d := some 35) (v := ?_) rfl (by kernel_rfl) (by kernel_rfl) (by kernel_rfl) (by kernel_rfl) (by kernel_rfl) (fun _ _ _ h => h) (Or.inl ⟨by kernel_rfl, ?_⟩) hS ?_
            rotate_left
            · intro w' hS
              obtain ⟨sF0, sF1, sF2, sF3, sF4, sF5⟩ := hS
              go_simp
              try with_reducible rfl
            refine AnyJ.takeD (i := 2) (d := some 36) (v := ?_) rfl (by kernel_rfl) (by kernel_rfl) (by kernel_rfl) (by kernel_rfl) (by kernel_rfl) (fun _ _ _ h => h) (Or.inl ⟨by kernel_rfl, ?_⟩) hS ?_
            rotate_left
            · intro w' hS
              obtain ⟨sF0, sF1, sF2, sF3, sF4, sF5⟩ := hS
              go_simp
              try with_reducible rfl
            refine AnyJ.takeD (i := 3) (d := some 37) (v := ?_) rfl (by kernel_rfl) (by kernel_rfl) (by kernel_rfl) (by kernel_rfl) (by kernel_rfl) (fun _ _ _ h => h) (Or.inl ⟨by kernel_rfl, ?_⟩) hS ?_
            rotate_left
            · intro w' hS
              obtain ⟨sF0, sF1, sF2, sF3, sF4, sF5⟩ := hS
              go_simp
              try with_reducible rfl
            refine AnyJ.takeD (i := 4) (d := some 38) (v := ?_) rfl (by kernel_rfl) (by kernel_rfl) (by kernel_rfl) (by kernel_rfl) (by kernel_rfl) (fun _ _ _ h => h) (Or.inl ⟨by kernel_rfl, ?_⟩) hS ?_
            rotate_left
            · intro w' hS
              obtain ⟨sF0, sF1, sF2, sF3, sF4, sF5⟩ := hS
              go_simp
              try with_reducible rfl
            refine AnyJ.takeD (i := 5) (d := some 39) (v := ?_) rfl (by kernel_rfl) (by kernel_rfl) (by kernel_rfl) (by kernel_rfl) (by kernel_rfl) (fun _ _ _ h => h) (Or.inl ⟨by kernel_rfl, ?_⟩) hS ?_
            rotate_left
            · intro w' hS
              obtain ⟨sF0, sF1, sF2, sF3, sF4, sF5⟩ := hS
              go_simp
              try with_reducible rfl
            refine AnyJ.takeD (i := 6) (d := some 40) (v := ?_) rfl (by kernel_rfl) (by kernel_rfl) (by kernel_rfl) (by kernel_rfl) (by kernel_rfl) (fun _ _ _ h => h) (Or.inl ⟨by kernel_rfl, ?_⟩) hS ?_
            rotate_left
            · intro w' hS
              obtain ⟨sF0, sF1, sF2, sF3, sF4, sF5⟩ := hS
              go_simp
              try with_reducible rfl
            refine AnyJ.takeD (i := 7) (d := some 41) (v := ?_) rfl (by kernel_rfl) (by kernel_rfl) (by kernel_rfl) (by kernel_rfl) (by kernel_rfl) (fun _ _ _ h => h) (Or.inl ⟨by kernel_rfl, ?_⟩) hS ?_
            rotate_left
            · intro w' hS
              obtain ⟨sF0, sF1, sF2, sF3, sF4, sF5⟩ := hS
              go_simp
              try with_reducible rfl
            refine AnyJ.takeD (i := 8) (d := some 42) (v := ?_) rfl (by kernel_rfl) (by kernel_rfl) (by kernel_rfl) (by kernel_rfl) (by kernel_rfl) (fun _ _ _ h => h) (Or.inl ⟨by kernel_rfl, ?_⟩) hS ?_
            rotate_left
            · intro w' hS
              obtain ⟨sF0, sF1, sF2, sF3, sF4, sF5⟩ := hS
              go_simp
              try with_reducible rfl
            refine AnyJ.takeD (i := 9) (d := some 43) (v := ?_) rfl (by kernel_rfl) (by kernel_rfl) (by kernel_rfl) (by kernel_rfl) (by kernel_rfl) (fun _ _ _ h => h) (Or.inl ⟨by kernel_rfl, ?_⟩) hS ?_
            rotate_left
            · intro w' hS
              obtain ⟨sF0, sF1, sF2, sF3, sF4, sF5⟩ := hS
              go_simp
              try with_reducible rfl
            refine AnyJ.takeD (i := 10) (d := some 44) (v := ?_) rfl (by kernel_rfl) (by kernel_rfl) (by kernel_rfl) (by kernel_rfl) (by kernel_rfl) (fun _ _ _ h => h) (Or.inl ⟨by kernel_rfl, ?_⟩) hS ?_
            rotate_left
            · intro w' hS
              obtain ⟨sF0, sF1, sF2, sF3, sF4, sF5⟩ := hS
              go_simp
              try with_reducible rfl
            refine AnyJ.takeD (i := 11) (d := some 45) (v := ?_) rfl (by kernel_rfl) (by kernel_rfl) (by kernel_rfl) (by kernel_rfl) (by kernel_rfl) (fun _ _ _ h => h) (Or.inl ⟨by kernel_rfl, ?_⟩) hS ?_
            rotate_left
            · intro w' hS
              obtain ⟨sF0, sF1, sF2, sF3, sF4, sF5⟩ := hS
              go_simp
              try with_reducible rfl
            refine AnyJ.takeD (i := 12) (d := some 46) (v := ?_) rfl (by kernel_rfl) (by kernel_rfl) (by kernel_rfl) (by kernel_rfl) (by kernel_rfl) (fun _ _ _ h => h) (Or.inl ⟨by kernel_rfl, ?_⟩) hS ?_
            rotate_left
            · intro w' hS
              obtain ⟨sF0, sF1, sF2, sF3, sF4, sF5⟩ := hS
              go_simp
              try with_reducible rfl
            refine AnyJ.takeD (i := 13) (d := some 47) (v := ?_) rfl (by kernel_rfl) (by kernel_rfl) (by kernel_rfl) (by kernel_rfl) (by kernel_rfl) (fun _ _ _ h => h) (Or.inl ⟨by kernel_rfl, ?_⟩) hS ?_
            rotate_left
            · intro w' hS
              obtain ⟨sF0, sF1, sF2, sF3, sF4, sF5⟩ := hS
              go_simp
              try with_reducible rfl
            clear hS
            refine AnyJ.one (i := 14) (by kernel_rfl) rfl (fun Kz hKz => ?_)
            go_simp
            refine (R_meet_any fx ux fy uy _).mono ?_
            rintro e w9 ⟨rfl, hb9⟩
            rw [HMB.out]
            have hb9' : Below wr.heap.size wr w9 := (Below.refl _ wr).drew.trans hb9
            have HB9 := Lib.hid hb9'
            refine hKz _ _ (fun _ => HK6.out _ hb9') ?_
            clear hKz Kz hb9 hb9'
            refine AnyJ.done (by kernel_rfl) ?_ _
            try simp only [Act.put, List.setIfInBounds_toArray, List.set_cons_zero, List.set_cons_succ]
            have H1 := Lib.hid (hU.out.step HB9.out)
            have H7 := Lib.hid (hQ.out.trans (HB9.out.mono hQ.out.size))
            go_wp2_with fail
            go_roundw
            case rel => exact ⟨k + 1, v, by omega, by go_num, rfl, by show OwnV _ _ _ _; rw [HU2.out]; exact H1.out, H7.out⟩
            case measure => simp [intOf]; omega
        · obtain rfl : i = k := by omega
          have hOq := hO.out.step hQ.out
          have cby := (HKY.out _ hQ.out).1
          have hyl : y < (colK l i).2.length := by rw [hOl.out]; exact hyn
          have cyy := hOq.ownI.cell hyl
          have zyy := hOq.ownI.frozen y
          have lyy := hOq.ownI.lt
          have HSET := Lib.hid (hOq.setC hyl (C : Int))
          have hBq : Below go' w2 wr := hB.out.trans (hQ.out.mono hgr)
          have HBST := Lib.hid (Below.setCell hBq (show go' ≤ (⟨go', y, none⟩ : Addr).block from Nat.le_refl _) (.int .i64 (C : Int)))
          obtain ⟨au, cu, rfl, hU2⟩ := hU.out.form2
          obtain ⟨mu, hmu⟩ : ∃ m, (usedK l (colK l i).2 i i).length = m := ⟨_, rfl⟩
          have hmui : mu ≤ i := by rw [← hmu]; exact usedK_length _ _ _ _
          rw [hmu] at hU2
          try rw [hmu]
          have HUS := Lib.hid (hU2.sli hmu)
          have HPK : Hid (∀ c : Nat, c ≤ C → decide ((c : Int) ∈ usedK l (colK l i).2 i i) = decide (c < C)) := fun c hc => by
            have := used_pick HO.out (i := i) (by rw [HL.out]; exact hlt) (c := c) (by rw [HC.out]; exact hc)
            rwa [HC.out] at this
          have hcm := HCM.out
          clear hOq hBq hU2 hmu hU
          go_wp2_with fail
          go_loopw [12] (fun vc wq => ∃ c : Nat, c ≤ C ∧ vc = .int .i64 c ∧ Hid (wq = wr)) (fun vc _ => C - (intOf vc).toNat)
          case atStart => exact ⟨0, Nat.zero_le _, rfl, rfl⟩
          case round =>
            obtain ⟨c, hcC, rfl, hW⟩ := hrel
            have hW := hW.out
            subst hW
            by_cases hlc : c < C
            · go_wp2_with fail
              refine (R_has_any au mu cu _ (c : Int) _ (by omega) HUS.out true (by rw [HPK.out c hcC]; exact decide_eq_true hlc)).mono ?_
              rintro e w9 ⟨rfl, rfl⟩
              go_wp2_with fail
              go_roundw
              case rel => exact ⟨c + 1, by omega, by go_num, by first | rfl | exact trivial⟩
              case measure => simp [intOf]; omega
            · obtain rfl : C = c := by omega
              by_cases hmx : (m : Int) < (C : Int) + 1
              · have hmx2 : C + 1 = max m (C + 1) := by omega
                go_wp2_with fail
                refine (R_has_any au mu cu _ (C : Int) _ (by omega) HUS.out false (by rw [HPK.out C hcC]; exact decide_eq_false hlc)).mono ?_
                rintro e w9 ⟨rfl, rfl⟩
                clear hmx2
                go_wp2_with fail
                refine ⟨⟨i + 1, C + 1, by omega, by go_num, by go_num, ?_, ?_, HBST.out⟩, ?_⟩
                · show _ = _; rw [HNX.out.2]; omega
                · show OwnV _ _ _ _; rw [HNX.out.1]; exact HSET.out
                · simp [intOf]; omega
              · go_wp2_with fail
                refine (R_has_any au mu cu _ (C : Int) _ (by omega) HUS.out false (by rw [HPK.out C hcC]; exact decide_eq_false hlc)).mono ?_
                rintro e w9 ⟨rfl, rfl⟩
                go_wp2_with fail
                refine ⟨⟨i + 1, m, by omega, by go_num, by go_num, ?_, ?_, HBST.out⟩, ?_⟩
                · show _ = _; rw [HNX.out.2]; omega
                · show OwnV _ _ _ _; rw [HNX.out.1]; exact HSET.out
                · simp [intOf]; omega
    · obtain rfl : n = i := by omega
      have hEn : (colE l).length = m := by unfold colE; rw [HL.out]; exact hM.out
      have HEn := Lib.hid hEn
      have HV : Hid (SlV wr (.slice (some ⟨go', 0, none⟩) n n) (colO l)) := by
        show SlV _ _ _
        have := hO.out.sl
        unfold colO
        rw [HL.out]; exact this
      clear hEn
      go_wp2_with fail
      go_ret3
      exact ⟨_, by rw [HEn.out]; rfl, HV.out, hBw.out⟩

end Go.Proofs.Ytbafhmlmibjgpaa
