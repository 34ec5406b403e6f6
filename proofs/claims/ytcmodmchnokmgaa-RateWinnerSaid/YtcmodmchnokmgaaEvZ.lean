/-
  RateWinner: the rate that decides a price applies, and no other one that does has a greater Level, or the same one and a lesser ID; without one that does not decide it the price is the same.
  No condition: for every input (what is not few is not looked at).
-/
import Derived.Test.YtcmodmchnokmgaaEvW
import Derived.Test.YtcmodmchnokmgaaEvX
namespace Go.Proofs.Ytcmodmchnokmgaa
set_option linter.unusedSimpArgs false
set_option linter.unusedVariables false
open Go.ChangeShapes Go.WideShapes Go.ChangeAt Go.RowKit
attribute [local go_sem ↓] ld_eq st_eq
attribute [local go_sem] ldR_run ldV_drew ldV_alloc ldV_at16 stR_run sz16_rate stB_drew stB_at16 stW_at16 stB_set ldV_set stW_cell stW_frozen ldV_stW stB_stW

set_option maxRecDepth 100000 in
set_option maxHeartbeats 6400000 in
theorem winner_walk (a : Option Addr) (n cap : Nat) (l : List RateV) (k fr un ps nt q : Int) (_ : ∀ y ∈ l, y.Wf) (wa : I64 k ∧ I64 fr ∧ I64 un ∧ I64 ps) (wn : (Lit.int .i64 nt).wf = true) (wq : (Lit.int .u8 q).wf = true) (w : World) (hl : SlR w a n l ∧ n ≤ cap ∧ cap ≤ maxLen) :
    Calls Try.prog 9 #[.slice a n cap, .agg #[.int .i64 k, .int .i64 fr, .int .i64 un, .int .i64 ps], .int .i64 nt, .int .u8 q] w fun e w' => e = .returned (.bool true) ∧ Below w.heap.size w w' := by
  obtain ⟨q0, q1⟩ := bd_u8 wq
  have HL := Lib.hid hl.1
  have HLN := Lib.hid hl.1.1
  have hm : n ≤ 9223372036854775807 := by have h1 := hl.2.1; have h2 := hl.2.2; unfold maxLen at h2; omega
  have hcp := hl.2.1
  have hcm : cap ≤ 9223372036854775807 := by have h2 := hl.2.2; unfold maxLen at h2; omega
  obtain ⟨p3, hp⟩ : ∃ p, fewR l = p := ⟨_, rfl⟩
  have P3 := Lib.hid hp
  obtain ⟨N, I, E, hpv⟩ : ∃ N I E, nightV l ⟨k, fr, un, ps⟩ nt = (N, I, E) := ⟨_, _, _, rfl⟩
  have HPV := Lib.hid hpv
  clear hp hl wa hpv wn wq
  go_enter Try.func9, Try.ntmps9
  go_wp2_with fail
  refine (head_any _).mono ?_
  rintro e w1 ⟨rfl, hb1⟩
  have R_a_1 : Row w1 (w.heap.size) [.int .i64 (k), .int .i64 (fr), .int .i64 (un), .int .i64 (ps)] := by (repeat' (first | (with_reducible assumption) | (with_reducible refine Row.new' _ _ _ (by first | rfl | (simp; done) | omega)) | (with_reducible refine Row.alloc ?_ _) | (with_reducible refine Row.drew ?_) | (with_reducible refine Row.drewN ?_ _) | (with_reducible refine Row.step ?_ (by with_reducible assumption)) | (with_reducible refine Row.set2' ?_ _ _; first | exact ⟨_, _, by with_reducible assumption⟩ | exact ⟨_, _, Row.alloc (by with_reducible assumption) _⟩ | exact ⟨_, _, Row.alloc (Row.alloc (by with_reducible assumption) _) _⟩) | (with_reducible refine Row.other ?_ (by first | omega | (simp; done) | (simp; omega)) _)))
  have c_a_0_1 := R_a_1.cell 0 rfl
  have c_a_1_1 := R_a_1.cell 1 rfl
  have c_a_2_1 := R_a_1.cell 2 rfl
  have c_a_3_1 := R_a_1.cell 3 rfl
  have l_a_1 := R_a_1.lt
  have HB1 : Below w.heap.size w w1 := by (repeat' (first | (with_reducible exact Below.refl _ _) | (with_reducible assumption) | (with_reducible exact Bw.out (by with_reducible assumption)) | (with_reducible refine bw_alloc ?_ _) | (with_reducible refine bw_step ?_ (by with_reducible assumption)) | (with_reducible refine Below.alloc ?_ ?_ _) | (with_reducible refine Below.drew ?_) | (with_reducible refine below_drewN ?_ _) | (with_reducible refine Below.setCell ?_ ?_ _) | (with_reducible refine below_step ?_ (by with_reducible assumption) ?_) | (with_reducible exact Nat.le_refl _) | omega | (simp; omega) | (simp; done)))
  go_wp2_with fail
  refine (R_fewR_p a n cap l _ hm (HL.out.step HB1) p3 P3.out).mono ?_
  rintro e w2 ⟨rfl, hb2⟩
  have R_a_2 : Row w2 (w.heap.size) [.int .i64 (k), .int .i64 (fr), .int .i64 (un), .int .i64 (ps)] := by (repeat' (first | (with_reducible assumption) | (with_reducible refine Row.new' _ _ _ (by first | rfl | (simp; done) | omega)) | (with_reducible refine Row.alloc ?_ _) | (with_reducible refine Row.drew ?_) | (with_reducible refine Row.drewN ?_ _) | (with_reducible refine Row.step ?_ (by with_reducible assumption)) | (with_reducible refine Row.set2' ?_ _ _; first | exact ⟨_, _, by with_reducible assumption⟩ | exact ⟨_, _, Row.alloc (by with_reducible assumption) _⟩ | exact ⟨_, _, Row.alloc (Row.alloc (by with_reducible assumption) _) _⟩) | (with_reducible refine Row.other ?_ (by first | omega | (simp; done) | (simp; omega)) _)))
  have c_a_0_2 := R_a_2.cell 0 rfl
  have c_a_1_2 := R_a_2.cell 1 rfl
  have c_a_2_2 := R_a_2.cell 2 rfl
  have c_a_3_2 := R_a_2.cell 3 rfl
  have l_a_2 := R_a_2.lt
  have HB2 : Below w.heap.size w w2 := by (repeat' (first | (with_reducible exact Below.refl _ _) | (with_reducible assumption) | (with_reducible exact Bw.out (by with_reducible assumption)) | (with_reducible refine bw_alloc ?_ _) | (with_reducible refine bw_step ?_ (by with_reducible assumption)) | (with_reducible refine Below.alloc ?_ ?_ _) | (with_reducible refine Below.drew ?_) | (with_reducible refine below_drewN ?_ _) | (with_reducible refine Below.setCell ?_ ?_ _) | (with_reducible refine below_step ?_ (by with_reducible assumption) ?_) | (with_reducible exact Nat.le_refl _) | omega | (simp; omega) | (simp; done)))
  clear R_a_1 c_a_0_1 c_a_1_1 c_a_2_1 c_a_3_1 hb1 HB1
  cases p3 with
  | false =>
    go_wp2_with fail
    go_ret
    refine ⟨(by first | rfl | exact ret_bool (by first | rfl | (simp; done) | (simp; omega))), ?_⟩
    (repeat' (first | (with_reducible exact Below.refl _ _) | (with_reducible assumption) | (with_reducible exact Bw.out (by with_reducible assumption)) | (with_reducible refine bw_alloc ?_ _) | (with_reducible refine bw_step ?_ (by with_reducible assumption)) | (with_reducible refine Below.alloc ?_ ?_ _) | (with_reducible refine Below.drew ?_) | (with_reducible refine below_drewN ?_ _) | (with_reducible refine Below.setCell ?_ ?_ _) | (with_reducible refine below_step ?_ (by with_reducible assumption) ?_) | (with_reducible exact Nat.le_refl _) | omega | (simp; omega) | (simp; done)))
  | true =>
    have hn105 := few_105 P3.out HLN.out
    go_wp2_with fail
    refine (Night_any a n cap l k fr un ps nt _ (HL.out.step HB2) hm N I E HPV.out).mono ?_
    rintro e w3 ⟨rfl, hb3⟩
    have R_a_3 : Row w3 (w.heap.size) [.int .i64 (k), .int .i64 (fr), .int .i64 (un), .int .i64 (ps)] := by (repeat' (first | (with_reducible assumption) | (with_reducible refine Row.new' _ _ _ (by first | rfl | (simp; done) | omega)) | (with_reducible refine Row.alloc ?_ _) | (with_reducible refine Row.drew ?_) | (with_reducible refine Row.drewN ?_ _) | (with_reducible refine Row.step ?_ (by with_reducible assumption)) | (with_reducible refine Row.set2' ?_ _ _; first | exact ⟨_, _, by with_reducible assumption⟩ | exact ⟨_, _, Row.alloc (by with_reducible assumption) _⟩ | exact ⟨_, _, Row.alloc (Row.alloc (by with_reducible assumption) _) _⟩) | (with_reducible refine Row.other ?_ (by first | omega | (simp; done) | (simp; omega)) _)))
    have c_a_0_3 := R_a_3.cell 0 rfl
    have c_a_1_3 := R_a_3.cell 1 rfl
    have c_a_2_3 := R_a_3.cell 2 rfl
    have c_a_3_3 := R_a_3.cell 3 rfl
    have l_a_3 := R_a_3.lt
    have HB3 : Below w.heap.size w w3 := by (repeat' (first | (with_reducible exact Below.refl _ _) | (with_reducible assumption) | (with_reducible exact Bw.out (by with_reducible assumption)) | (with_reducible refine bw_alloc ?_ _) | (with_reducible refine bw_step ?_ (by with_reducible assumption)) | (with_reducible refine Below.alloc ?_ ?_ _) | (with_reducible refine Below.drew ?_) | (with_reducible refine below_drewN ?_ _) | (with_reducible refine Below.setCell ?_ ?_ _) | (with_reducible refine below_step ?_ (by with_reducible assumption) ?_) | (with_reducible exact Nat.le_refl _) | omega | (simp; omega) | (simp; done)))
    clear R_a_2 c_a_0_2 c_a_1_2 c_a_2_2 c_a_3_2 hb2 HB2
    by_cases hE : E = 0
    · subst hE
      obtain ⟨t1, B, r, t2, t3, t4, t5, t6, t7, t8⟩ := nightV_win HPV.out
      have hBn : B < n := by rw [← HLN.out]; exact (List.getElem?_eq_some_iff.1 t2).1
      have T2 := Lib.hid t2
      have T3 := Lib.hid t3
      have T4 := Lib.hid t4
      have T5 := Lib.hid t5
      have T6 := Lib.hid t6
      have T7 := Lib.hid t7
      have T8 := Lib.hid t8
      have hsz3 := HB3.size
      have HBI3 := Lib.hid HB3
      clear t2 t3 t4 t5 t6 t7 t8
      go_wp2_with fail
      go_loopw [13, 14] (fun v13 v14 wr => ∃ (i : Nat) (z : Int), i ≤ n ∧ v13 = .int .i64 z ∧ v14 = .int .i64 i ∧ Hid (z = if B < i then (B : Int) else -1) ∧ wr = w3) (fun _ v14 _ => n - (intOf v14).toNat)
      case atStart => exact ⟨0, -1, Nat.zero_le _, rfl, rfl, by show _ = _; simp, rfl⟩
      case round =>
        obtain ⟨i, z, hi, rfl, rfl, hz, rfl⟩ := hrel
        by_cases hlt : i < n
        · obtain ⟨x, b, off, hx, rfl, hlb, hxin, hcl⟩ := (HL.out.step HB3).get hlt
          have c0 : wr.cell? ⟨b, off + i * 16, none⟩ = some (.int .i64 x.id) := hcl.out 0 _ rfl
          have i0 : (0 : Int) ≤ (i : Int) := by omega
          have i1 : (i : Int) < (n : Int) := by omega
          by_cases hid : x.id = I
          · have hib := T4.out i x hx.out hid
            have hid' : (x.id == I) = true := by simpa using hid
            have HZ : Hid ((i : Int) = if B < i + 1 then (B : Int) else -1) := by show _ = _; rw [if_pos (by omega), hib]
            clear hid hib hz hcl
            go_wp2_with fail
            go_roundw
            case rel => exact ⟨i + 1, (i : Int), by omega, rfl, by go_num, HZ.out, trivial⟩
            case measure => simp [intOf]; omega
          · have hid' : (x.id == I) = false := by simpa using hid
            have hib : i ≠ B := fun e => by
              have h1 := T2.out
              rw [← e, hx.out] at h1
              cases h1
              exact hid T3.out
            have HZ : Hid (z = if B < i + 1 then (B : Int) else -1) := by
              show _ = _
              rw [hz.out]
              by_cases hbi : B < i
              · rw [if_pos hbi, if_pos (by omega)]
              · rw [if_neg hbi, if_neg (by omega)]
            clear hid hib hz hcl
            go_wp2_with fail
            go_roundw
            case rel => exact ⟨i + 1, z, by omega, rfl, by go_num, HZ.out, trivial⟩
            case measure => simp [intOf]; omega
        · obtain rfl : n = i := by omega
          obtain rfl : z = (B : Int) := by rw [hz.out, if_pos hBn]
          have d1 : ¬ ((B : Int) < 0) := by omega
          have d2 : ¬ (N < 0) := by omega
          clear hz
          have HRA := Lib.hid R_a_3
          clear c_a_0_3 c_a_1_3 c_a_2_3 c_a_3_3 hb3 HB3 R_a_3
          go_upto_region 15 with fail
          obtain ⟨w3, hw3⟩ : ∃ wd, wd = wr := ⟨_, rfl⟩
          subst hw3
          go_wp2_with fail
          go_loopw [15, 8] (fun v15 v8 wr => ∃ i : Nat, i ≤ n ∧ v15 = .int .i64 i ∧ v8 = .bool false ∧ Hid (Below w3.heap.size w3 wr)) (fun v15 _ _ => n - (intOf v15).toNat)
          case atStart => exact ⟨0, Nat.zero_le _, rfl, rfl, Below.refl _ _⟩
          case round =>
            obtain ⟨i, hi, rfl, rfl, hC⟩ := hrel
            have hsC := hC.out.size
            have HBw : Hid (Below w.heap.size w wr) := HBI3.out.trans (hC.out.mono hsz3)
            by_cases hlt2 : i < n
            · obtain ⟨x, b, off, hx, rfl, hlb, hxin, hcl⟩ := (HL.out.step HBw.out).get hlt2
              obtain ⟨r', b', off', hr', e', _, _, hcl'⟩ := (HL.out.step HBw.out).get hBn
              cases e'
              have hrr : r' = r := by have h1 := hr'.out; rw [T2.out] at h1; exact (Option.some.inj h1).symm
              subst hrr
              have HSX : Hid (∀ W, Below wr.heap.size wr W → ldV W (.pointer (some ⟨b, off + i * 16, none⟩)) = some (.agg #[.int .i64 x.id, .int .i64 x.lv, .int .i64 x.kd, .int .i64 x.fr, .int .i64 x.un, .int .i64 x.ls, .int .i64 x.ms, .int .i64 x.ar, .int .i64 x.kn, .int .i64 x.kk, .int .i64 x.wh.op, .int .i64 x.wh.n, .slice x.wh.at' x.wh.ks.length x.wh.cap, .int .i64 x.pr.op, .int .i64 x.pr.n, .slice x.pr.at' x.pr.ks.length x.pr.cap]) ∧ W.cell? ⟨w.heap.size, 0, none⟩ = some (.int .i64 k) ∧ W.cell? ⟨w.heap.size, 1, none⟩ = some (.int .i64 fr) ∧ W.cell? ⟨w.heap.size, 2, none⟩ = some (.int .i64 un) ∧ W.cell? ⟨w.heap.size, 3, none⟩ = some (.int .i64 ps)) := fun W h => by
                have RA := (HRA.out.step hC.out).step h
                exact ⟨ldV_at (fun j v hj => (h.cell (p := ⟨b, off + i * 16 + j, none⟩) (World.block_lt_of_cell? wr _ (hcl.out j v hj))).trans (hcl.out j v hj)) rfl, RA.cell 0 rfl, RA.cell 1 rfl, RA.cell 2 rfl, RA.cell 3 rfl⟩
              have HCX : Hid (∀ W, Below wr.heap.size wr W → W.cell? ⟨b, off + i * 16, none⟩ = some (.int .i64 x.id) ∧ W.cell? ⟨b, off + i * 16 + 1, none⟩ = some (.int .i64 x.lv) ∧ W.cell? ⟨b, off + B * 16 + 1, none⟩ = some (.int .i64 r'.lv)) := fun W h =>
                ⟨(h.cell (p := ⟨b, off + i * 16 + 0, none⟩) (World.block_lt_of_cell? wr _ (hcl.out 0 _ rfl))).trans (hcl.out 0 _ rfl), (h.cell (p := ⟨b, off + i * 16 + 1, none⟩) (World.block_lt_of_cell? wr _ (hcl.out 1 _ rfl))).trans (hcl.out 1 _ rfl), (h.cell (p := ⟨b, off + B * 16 + 1, none⟩) (World.block_lt_of_cell? wr _ (hcl'.out 1 _ rfl))).trans (hcl'.out 1 _ rfl)⟩
              obtain ⟨BX, hBX⟩ : ∃ B, (applV x ⟨k, fr, un, ps⟩ nt).1 = B := ⟨_, rfl⟩
              have HAP : Hid (applV x ⟨k, fr, un, ps⟩ nt = (BX, 0)) := by
                show _ = _
                rw [← hBX, ← T5.out i x hx.out]
              have i1 : (0 : Int) ≤ (i : Int) := by omega
              have i2 : (i : Int) < (n : Int) := by omega
              have i3 : (0 : Int) ≤ (B : Int) := by omega
              have i4 : (B : Int) < (n : Int) := by omega
              have HT7 : Hid (BX = true → ¬ r'.lv < x.lv ∧ ¬ (x.lv = r'.lv ∧ x.id < I)) := fun h => by have h1 := T7.out i x hx.out (hBX.trans h); omega
              have HIB : Hid (i = B → BX = true) := fun e => by
                subst e
                have h1 := T2.out
                rw [hx.out] at h1
                cases h1
                rw [← hBX]; exact T6.out
              clear hcl hcl' hBX
              go_upto_region 18 with fail
              refine AnyJ.beginP (fun W => ldV W (.pointer (some ⟨b, off + i * 16, none⟩)) = some (.agg #[.int .i64 x.id, .int .i64 x.lv, .int .i64 x.kd, .int .i64 x.fr, .int .i64 x.un, .int .i64 x.ls, .int .i64 x.ms, .int .i64 x.ar, .int .i64 x.kn, .int .i64 x.kk, .int .i64 x.wh.op, .int .i64 x.wh.n, .slice x.wh.at' x.wh.ks.length x.wh.cap, .int .i64 x.pr.op, .int .i64 x.pr.n, .slice x.pr.at' x.pr.ks.length x.pr.cap]) ∧ W.cell? ⟨w.heap.size, 0, none⟩ = some (.int .i64 k) ∧ W.cell? ⟨w.heap.size, 1, none⟩ = some (.int .i64 fr) ∧ W.cell? ⟨w.heap.size, 2, none⟩ = some (.int .i64 un) ∧ W.cell? ⟨w.heap.size, 3, none⟩ = some (.int .i64 ps)) (fun _ => true) (by kernel_rfl) (HSX.out _ (Below.refl _ _).drew) (fun hS => ?_)
              refine AnyJ.takeD (i := 0) (d := some 73) (v := ?_) rfl (by kernel_rfl) (by kernel_rfl) (by kernel_rfl) (by kernel_rfl) (by kernel_rfl) (fun _ _ _ h => h) (Or.inl ⟨by kernel_rfl, ?_⟩) hS ?_
              rotate_left
              · intro w' hS
                obtain ⟨s0, s1, s2, s3, s4⟩ := hS
                go_simp
                try with_reducible rfl
              refine AnyJ.takeD (i := 1) (d := some 74) (v := ?_) rfl (by kernel_rfl) (by kernel_rfl) (by kernel_rfl) (by kernel_rfl) (by kernel_rfl) (fun _ _ _ h => h) (Or.inl ⟨by kernel_rfl, ?_⟩) hS ?_
              rotate_left
              · intro w' hS
                obtain ⟨s0, s1, s2, s3, s4⟩ := hS
                go_simp
                try with_reducible rfl
              refine AnyJ.takeD (i := 2) (d := some 75) (v := ?_) rfl (by kernel_rfl) (by kernel_rfl) (by kernel_rfl) (by kernel_rfl) (by kernel_rfl) (fun _ _ _ h => h) (Or.inl ⟨by kernel_rfl, ?_⟩) hS ?_
              rotate_left
              · intro w' hS
                obtain ⟨s0, s1, s2, s3, s4⟩ := hS
                go_simp
                try with_reducible rfl
              refine AnyJ.takeD (i := 3) (d := some 76) (v := ?_) rfl (by kernel_rfl) (by kernel_rfl) (by kernel_rfl) (by kernel_rfl) (by kernel_rfl) (fun _ _ _ h => h) (Or.inl ⟨by kernel_rfl, ?_⟩) hS ?_
              rotate_left
              · intro w' hS
                obtain ⟨s0, s1, s2, s3, s4⟩ := hS
                go_simp
                try with_reducible rfl
              refine AnyJ.takeD (i := 4) (d := some 77) (v := ?_) rfl (by kernel_rfl) (by kernel_rfl) (by kernel_rfl) (by kernel_rfl) (by kernel_rfl) (fun _ _ _ h => h) (Or.inl ⟨by kernel_rfl, ?_⟩) hS ?_
              rotate_left
              · intro w' hS
                obtain ⟨s0, s1, s2, s3, s4⟩ := hS
                go_simp
                try with_reducible rfl
              refine AnyJ.takeD (i := 5) (d := some 78) (v := ?_) rfl (by kernel_rfl) (by kernel_rfl) (by kernel_rfl) (by kernel_rfl) (by kernel_rfl) (fun _ _ _ h => h) (Or.inl ⟨by kernel_rfl, ?_⟩) hS ?_
              rotate_left
              · intro w' hS
                obtain ⟨s0, s1, s2, s3, s4⟩ := hS
                go_simp
                try with_reducible rfl
              clear hS
              refine AnyJ.one (i := 6) (by kernel_rfl) rfl (fun Kz hKz => ?_)
              go_simp
              refine (Applies_any x k fr un ps nt wr.drew (hxin.out.step (Below.refl _ _).drew) BX 0 HAP.out).mono ?_
              rintro e w4 ⟨rfl, hb4⟩
              have hbr : Below wr.heap.size wr w4 := ((Below.refl _ wr).drew).trans hb4
              have hS := HSX.out _ hbr
              refine hKz _ _ (fun _ => hS) ?_
              clear hKz Kz hb4
              refine AnyJ.takeD (i := 7) (d := some 72) (v := ?_) rfl (by kernel_rfl) (by kernel_rfl) (by kernel_rfl) (by kernel_rfl) (by kernel_rfl) (fun _ _ _ h => h) (Or.inl ⟨by kernel_rfl, ?_⟩) hS ?_
              rotate_left
              · intro w' hS
                obtain ⟨s0, s1, s2, s3, s4⟩ := hS
                go_simp
                try with_reducible rfl
              refine AnyJ.takeD (i := 8) (d := some 80) (v := ?_) rfl (by kernel_rfl) (by kernel_rfl) (by kernel_rfl) (by kernel_rfl) (by kernel_rfl) (fun _ _ _ h => h) (Or.inl ⟨by kernel_rfl, ?_⟩) hS ?_
              rotate_left
              · intro w' hS
                obtain ⟨s0, s1, s2, s3, s4⟩ := hS
                go_simp
                try with_reducible rfl
              refine AnyJ.takeD (i := 9) (d := some 81) (v := ?_) rfl (by kernel_rfl) (by kernel_rfl) (by kernel_rfl) (by kernel_rfl) (by kernel_rfl) (fun _ _ _ h => h) (Or.inl ⟨by kernel_rfl, ?_⟩) hS ?_
              rotate_left
              · intro w' hS
                obtain ⟨s0, s1, s2, s3, s4⟩ := hS
                go_simp
                try with_reducible rfl
              refine AnyJ.takeD (i := 10) (d := some 16) (v := ?_) rfl (by kernel_rfl) (by kernel_rfl) (by kernel_rfl) (by kernel_rfl) (by kernel_rfl) (fun _ _ _ h => h) (Or.inl ⟨by kernel_rfl, ?_⟩) hS ?_
              rotate_left
              · intro w' hS
                obtain ⟨s0, s1, s2, s3, s4⟩ := hS
                go_simp
                try with_reducible rfl
              refine AnyJ.takeD (i := 11) (d := some 17) (v := ?_) rfl (by kernel_rfl) (by kernel_rfl) (by kernel_rfl) (by kernel_rfl) (by kernel_rfl) (fun _ _ _ h => h) (Or.inl ⟨by kernel_rfl, ?_⟩) hS ?_
              rotate_left
              · intro w' hS
                obtain ⟨s0, s1, s2, s3, s4⟩ := hS
                go_simp
                try with_reducible rfl
              refine AnyJ.done (by kernel_rfl) ?_ _
              try simp only [Act.put, List.setIfInBounds_toArray, List.set_cons_zero, List.set_cons_succ]
              clear hS
              have hsz4 : wr.heap.size ≤ w4.heap.size := hbr.size
              obtain ⟨x0, x1, x2⟩ := HCX.out _ hbr
              have HB4 : Hid (Below w3.heap.size w3 w4) := hC.out.trans (hbr.mono hsC)
              clear hbr
              cases BX with
              | false =>
                have hib : ((i : Int) == (B : Int)) = false := by
                  have h : i ≠ B := fun e => by have := HIB.out e; cases this
                  simpa using (show (i : Int) ≠ (B : Int) by omega)
                go_upto_region 21 with fail
                go_quiet (fail)
                go_wp2_with fail
                go_roundw
                case rel => exact ⟨i + 1, by omega, by go_num, rfl, (below_drewN HB4.out _ : Below _ _ _)⟩
                case measure => simp [intOf]; omega
              | true =>
                have h7 := HT7.out rfl
                have g1 : decide (r'.lv < x.lv) = false := by simpa using h7.1
                by_cases hlv : x.lv = r'.lv
                · have g2 : (x.lv == r'.lv) = true := by simpa using hlv
                  have g3 : decide (x.id < I) = false := by
                    have h8 : ¬ x.id < I := fun e => h7.2 ⟨hlv, e⟩
                    simpa using h8
                  clear hlv h7
                  by_cases hbi : i = B
                  · have hib : ((i : Int) == (B : Int)) = true := by simpa using (show (i : Int) = (B : Int) by omega)
                    clear hbi
                    go_upto_region 21 with fail
                    go_quiet (fail)
                    go_wp2_with fail
                    go_roundw
                    case rel => exact ⟨i + 1, by omega, by go_num, rfl, (below_drewN HB4.out _ : Below _ _ _)⟩
                    case measure => simp [intOf]; omega
                  · have hib : ((i : Int) == (B : Int)) = false := by simpa using (show (i : Int) ≠ (B : Int) by omega)
                    clear hbi
                    go_upto_region 21 with fail
                    go_quiet (fail)
                    go_wp2_with fail
                    go_roundw
                    case rel => exact ⟨i + 1, by omega, by go_num, rfl, (below_drewN HB4.out _ : Below _ _ _)⟩
                    case measure => simp [intOf]; omega
                · have g2 : (x.lv == r'.lv) = false := by simpa using hlv
                  clear hlv h7
                  by_cases hbi : i = B
                  · have hib : ((i : Int) == (B : Int)) = true := by simpa using (show (i : Int) = (B : Int) by omega)
                    clear hbi
                    go_upto_region 21 with fail
                    go_quiet (fail)
                    go_wp2_with fail
                    go_roundw
                    case rel => exact ⟨i + 1, by omega, by go_num, rfl, (below_drewN HB4.out _ : Below _ _ _)⟩
                    case measure => simp [intOf]; omega
                  · have hib : ((i : Int) == (B : Int)) = false := by simpa using (show (i : Int) ≠ (B : Int) by omega)
                    clear hbi
                    go_upto_region 21 with fail
                    go_quiet (fail)
                    go_wp2_with fail
                    go_roundw
                    case rel => exact ⟨i + 1, by omega, by go_num, rfl, (below_drewN HB4.out _ : Below _ _ _)⟩
                    case measure => simp [intOf]; omega
            · obtain rfl : n = i := by omega
              obtain ⟨kk, hkk1, hkk2⟩ : ∃ kk : Nat, q.tmod n = (kk : Int) ∧ kk < n := ⟨(q.tmod n).toNat, by rw [Int.tmod_eq_emod_of_nonneg q0]; have := Int.emod_nonneg q (show (n : Int) ≠ 0 by omega); omega, by rw [Int.tmod_eq_emod_of_nonneg q0]; have := Int.emod_lt_of_pos q (show (0 : Int) < n by omega); omega⟩
              have hnz : ((n : Int) == 0) = false := by simpa using (show n ≠ 0 by omega)
              have HC := Lib.hid hC.out
              by_cases hkb : kk = B
              · have hkb' : ((kk : Int) == (B : Int)) = true := by simpa using (show (kk : Int) = (B : Int) by omega)
                clear hkb
                go_wp2_with fail
                go_ret
                refine ⟨rfl, ?_⟩
                exact HBw.out
              · have hkb' : ((kk : Int) == (B : Int)) = false := by simpa using (show (kk : Int) ≠ (B : Int) by omega)
                have HT8 := Lib.hid (T8.out kk hkb)
                clear hkb
                obtain ⟨b0, off0, ha⟩ : ∃ b0 off0, a = some ⟨b0, off0, none⟩ := by
                  obtain ⟨_, b0, off0, _, e, _⟩ := HL.out.get (i := kk) hkk2
                  exact ⟨b0, off0, e⟩
                subst ha
                obtain ⟨m1, hm1⟩ : ∃ m1, kk + 1 = m1 := ⟨_, rfl⟩
                have HW : Hid (IntKind.i64.wrap ((kk : Int) + 1) = (m1 : Int)) := by show _ = _; rw [IntWalk.i64_in _ (by omega)]; omega
                have HM1 := Lib.hid hm1
                have k1 : (0 : Int) ≤ (kk : Int) := by omega
                have k2 : (kk : Int) ≤ (cap : Int) := by omega
                have k3 : (0 : Int) ≤ (m1 : Int) := by omega
                have k4 : (m1 : Int) ≤ (n : Int) := by omega
                have hm1n : m1 ≤ n := by omega
                obtain ⟨off1, hof, hsd⟩ : ∃ off1, (if cap = m1 then some (⟨b0, off0, none⟩ : Addr) else some ⟨b0, off0 + m1 * 16, none⟩) = some ⟨b0, off1, none⟩ ∧ ∀ W, SlR W (some ⟨b0, off0, none⟩) n l → SlR W (some ⟨b0, off1, none⟩) (n - m1) (l.drop m1) := by
                  by_cases hc : cap = m1
                  · refine ⟨off0, by rw [if_pos hc], fun W _ => ?_⟩
                    have e1 : n - m1 = 0 := by omega
                    have e2 : l.drop m1 = [] := List.drop_of_length_le (by rw [HLN.out]; omega)
                    rw [e1, e2]
                    exact SlR.nil _ _
                  · exact ⟨off0 + m1 * 16, by rw [if_neg hc], fun W h => slr_drop h hm1n⟩
                have HOF := Lib.hid hof
                have HSD := Lib.hid hsd
                clear hm1 hof hsd
                go_upto_region 26 with fail
                obtain ⟨w5, hw5⟩ : ∃ X, wr = X := ⟨_, rfl⟩
                rw [hw5] at HBw ⊢
                have hc5 : Below w3.heap.size w3 w5 := by rw [← hw5]; exact HC.out
                have HL5 : Hid (SlR w5 (some ⟨b0, off0, none⟩) n l) := HL.out.step HBw.out
                have HSY : Hid (∀ W, Below w5.heap.size w5 W → W.cell? ⟨w.heap.size, 0, none⟩ = some (.int .i64 k) ∧ W.cell? ⟨w.heap.size, 1, none⟩ = some (.int .i64 fr) ∧ W.cell? ⟨w.heap.size, 2, none⟩ = some (.int .i64 un) ∧ W.cell? ⟨w.heap.size, 3, none⟩ = some (.int .i64 ps)) := fun W h => by
                  have RA := (HRA.out.step hc5).step h
                  exact ⟨RA.cell 0 rfl, RA.cell 1 rfl, RA.cell 2 rfl, RA.cell 3 rfl⟩
                clear hw5 hc5
                refine AnyJ.beginP (fun W => W.cell? ⟨w.heap.size, 0, none⟩ = some (.int .i64 k) ∧ W.cell? ⟨w.heap.size, 1, none⟩ = some (.int .i64 fr) ∧ W.cell? ⟨w.heap.size, 2, none⟩ = some (.int .i64 un) ∧ W.cell? ⟨w.heap.size, 3, none⟩ = some (.int .i64 ps)) (fun _ => true) (by kernel_rfl) (HSY.out _ (Below.refl _ _).drew) (fun hS => ?_)
                obtain ⟨v5, hv5⟩ : ∃ X, World.drew w5 = X := ⟨_, rfl⟩
                have hbv5 : Below w5.heap.size w5 v5 := by rw [← hv5]; exact (Below.refl _ _).drew
                rw [hv5] at hS ⊢
                clear hv5
                refine AnyJ.takeD (i := 1) (d := some 140) (v := ?_) rfl (by kernel_rfl) (by kernel_rfl) (by kernel_rfl) (by kernel_rfl) (by kernel_rfl) (fun _ _ _ h => h) (Or.inl ⟨by kernel_rfl, ?_⟩) hS ?_
                rotate_left
                · intro w' hS
                  obtain ⟨s1, s2, s3, s4⟩ := hS
                  go_simp
                  try with_reducible rfl
                refine AnyJ.takeD (i := 2) (d := some 141) (v := ?_) rfl (by kernel_rfl) (by kernel_rfl) (by kernel_rfl) (by kernel_rfl) (by kernel_rfl) (fun _ _ _ h => h) (Or.inl ⟨by kernel_rfl, ?_⟩) hS ?_
                rotate_left
                · intro w' hS
                  obtain ⟨s1, s2, s3, s4⟩ := hS
                  go_simp
                  try with_reducible rfl
                refine AnyJ.takeD (i := 3) (d := some 142) (v := ?_) rfl (by kernel_rfl) (by kernel_rfl) (by kernel_rfl) (by kernel_rfl) (by kernel_rfl) (fun _ _ _ h => h) (Or.inl ⟨by kernel_rfl, ?_⟩) hS ?_
                rotate_left
                · intro w' hS
                  obtain ⟨s1, s2, s3, s4⟩ := hS
                  go_simp
                  try with_reducible rfl
                refine AnyJ.takeD (i := 5) (d := some 144) (v := ?_) rfl (by kernel_rfl) (by kernel_rfl) (by kernel_rfl) (by kernel_rfl) (by kernel_rfl) (fun _ _ _ h => h) (Or.inl ⟨by kernel_rfl, ?_⟩) hS ?_
                rotate_left
                · intro w' hS
                  obtain ⟨s1, s2, s3, s4⟩ := hS
                  go_simp
                  try with_reducible rfl
                refine AnyJ.takeD (i := 6) (d := some 145) (v := ?_) rfl (by kernel_rfl) (by kernel_rfl) (by kernel_rfl) (by kernel_rfl) (by kernel_rfl) (fun _ _ _ h => h) (Or.inl ⟨by kernel_rfl, ?_⟩) hS ?_
                rotate_left
                · intro w' hS
                  obtain ⟨s1, s2, s3, s4⟩ := hS
                  go_simp
                  try with_reducible rfl
                refine AnyJ.takeD (i := 7) (d := some 146) (v := ?_) rfl (by kernel_rfl) (by kernel_rfl) (by kernel_rfl) (by kernel_rfl) (by kernel_rfl) (fun _ _ _ h => h) (Or.inl ⟨by kernel_rfl, ?_⟩) hS ?_
                rotate_left
                · intro w' hS
                  obtain ⟨s1, s2, s3, s4⟩ := hS
                  go_simp
                  simp only [HW.out]
                  try with_reducible rfl
                refine AnyJ.takeD (i := 8) (d := some 147) (v := ?_) rfl (by kernel_rfl) (by kernel_rfl) (by kernel_rfl) (by kernel_rfl) (by kernel_rfl) (fun _ _ _ h => h) (Or.inl ⟨by kernel_rfl, ?_⟩) hS ?_
                rotate_left
                · intro w' hS
                  obtain ⟨s1, s2, s3, s4⟩ := hS
                  go_simp
                  rw [HOF.out]
                  try with_reducible rfl
                refine AnyJ.takeD (i := 10) (d := some 149) (v := ?_) rfl (by kernel_rfl) (by kernel_rfl) (by kernel_rfl) (by kernel_rfl) (by kernel_rfl) (fun _ _ _ h => h) (Or.inl ⟨by kernel_rfl, ?_⟩) hS ?_
                rotate_left
                · intro w' hS
                  obtain ⟨s1, s2, s3, s4⟩ := hS
                  go_simp
                  try with_reducible rfl
                refine AnyJ.takeD (i := 11) (d := some 150) (v := ?_) rfl (by kernel_rfl) (by kernel_rfl) (by kernel_rfl) (by kernel_rfl) (by kernel_rfl) (fun _ _ _ h => h) (Or.inl ⟨by kernel_rfl, ?_⟩) hS ?_
                rotate_left
                · intro w' hS
                  obtain ⟨s1, s2, s3, s4⟩ := hS
                  go_simp
                  try with_reducible rfl
                refine AnyJ.one (i := 0) (by kernel_rfl) rfl (fun Kz hKz => ?_)
                go_simp
                have hb6 : Below w5.heap.size w5 (v5.alloc (.cells #[] 30)) := hbv5.alloc hbv5.size _
                have hmade := OwnR.made v5 w5.heap.size hbv5.size
                obtain ⟨v6, hv6⟩ : ∃ X, v5.alloc (.cells #[] 30) = X := ⟨_, rfl⟩
                rw [hv6] at hb6 hmade ⊢
                have hS6 := HSY.out _ hb6
                refine hKz _ _ (fun _ => hS6) ?_
                clear hKz Kz hS hv6
                refine AnyJ.one (i := 4) (by kernel_rfl) rfl (fun Kz hKz => ?_)
                refine step_app_Rs rfl (.tmp 139) (.tmp 142) _ rfl Try.underlying31 w5.heap.size _ [] rfl hmade b0 off0 kk cap (l.take kk) rfl (slr_take (HL5.out.step hb6) (by omega)) (by rw [List.length_nil]; omega) hb6.size ?_
                intro v1 v7 hown1 hgr1 hor1 hbl1
                rw [List.nil_append] at hown1
                have hb7 := hbl1 w5 hb6
                have hS7 := HSY.out _ hb7
                refine hKz _ _ (fun _ => hS7) ?_
                clear hKz Kz hS6 hmade hgr1 hor1 hbl1
                refine AnyJ.one (i := 9) (by kernel_rfl) rfl (fun Kz hKz => ?_)
                refine step_app_Rs rfl (.tmp 143) (.tmp 147) _ rfl Try.underlying31 w5.heap.size _ (l.take kk) rfl hown1 b0 off1 (n - m1) (cap - m1) (l.drop m1) rfl (HSD.out _ (HL5.out.step hb7)) (by rw [List.length_take]; omega) hb7.size ?_
                intro v2 v8 hown2 hgr2 hor2 hbl2
                have hb8 := hbl2 w5 hb7
                have herase : l.take kk ++ l.drop m1 = l.eraseIdx kk := by rw [List.eraseIdx_eq_take_drop_succ, HM1.out]
                rw [herase] at hown2
                obtain ⟨n1, hn1⟩ : ∃ n1, (l.eraseIdx kk).length = n1 := ⟨_, rfl⟩
                obtain ⟨ad3, cp3, rfl, _, h31, h32⟩ := hown2.shape n1 hn1
                have hsl : SlR v8 ad3 n1 (l.eraseIdx kk) := hown2.sl hn1 (fun x hx => by
                  obtain ⟨j, hj⟩ := List.mem_iff_getElem?.1 (List.mem_of_mem_eraseIdx hx)
                  exact ((HL5.out.step hb8).2 j x hj).1)
                have hn1m : n1 ≤ 9223372036854775807 := by unfold maxLen at h32; omega
                have hS8 := HSY.out _ hb8
                refine hKz _ _ (fun _ => hS8) ?_
                clear hKz Kz hS7 hown1 hgr2 hor2 hbl2 hown2 hb7 hb6 hbv5
                refine AnyJ.one (i := 12) (by kernel_rfl) rfl (fun Kz hKz => ?_)
                go_simp
                refine (Night_any ad3 n1 cp3 (l.eraseIdx kk) k fr un ps nt v8 hsl hn1m N I 0 HT8.out).mono ?_
                rintro e v9 ⟨rfl, hb9⟩
                have hb59 : Below w5.heap.size w5 v9 := hb8.trans (hb9.mono hb8.size)
                have hS := HSY.out _ hb59
                refine hKz _ _ (fun _ => hS) ?_
                clear hKz Kz hS8 hb9
                refine AnyJ.takeD (i := 13) (d := some 138) (v := ?_) rfl (by kernel_rfl) (by kernel_rfl) (by kernel_rfl) (by kernel_rfl) (by kernel_rfl) (fun _ _ _ h => h) (Or.inl ⟨by kernel_rfl, ?_⟩) hS ?_
                rotate_left
                · intro w' hS
                  obtain ⟨s1, s2, s3, s4⟩ := hS
                  go_simp
                  try with_reducible rfl
                refine AnyJ.takeD (i := 14) (d := some 152) (v := ?_) rfl (by kernel_rfl) (by kernel_rfl) (by kernel_rfl) (by kernel_rfl) (by kernel_rfl) (fun _ _ _ h => h) (Or.inl ⟨by kernel_rfl, ?_⟩) hS ?_
                rotate_left
                · intro w' hS
                  obtain ⟨s1, s2, s3, s4⟩ := hS
                  go_simp
                  try with_reducible rfl
                refine AnyJ.takeD (i := 15) (d := some 153) (v := ?_) rfl (by kernel_rfl) (by kernel_rfl) (by kernel_rfl) (by kernel_rfl) (by kernel_rfl) (fun _ _ _ h => h) (Or.inl ⟨by kernel_rfl, ?_⟩) hS ?_
                rotate_left
                · intro w' hS
                  obtain ⟨s1, s2, s3, s4⟩ := hS
                  go_simp
                  try with_reducible rfl
                refine AnyJ.takeD (i := 16) (d := some 154) (v := ?_) rfl (by kernel_rfl) (by kernel_rfl) (by kernel_rfl) (by kernel_rfl) (by kernel_rfl) (fun _ _ _ h => h) (Or.inl ⟨by kernel_rfl, ?_⟩) hS ?_
                rotate_left
                · intro w' hS
                  obtain ⟨s1, s2, s3, s4⟩ := hS
                  go_simp
                  try with_reducible rfl
                refine AnyJ.takeD (i := 17) (d := some 19) (v := ?_) rfl (by kernel_rfl) (by kernel_rfl) (by kernel_rfl) (by kernel_rfl) (by kernel_rfl) (fun _ _ _ h => h) (Or.inl ⟨by kernel_rfl, ?_⟩) hS ?_
                rotate_left
                · intro w' hS
                  obtain ⟨s1, s2, s3, s4⟩ := hS
                  go_simp
                  try with_reducible rfl
                refine AnyJ.takeD (i := 18) (d := some 20) (v := ?_) rfl (by kernel_rfl) (by kernel_rfl) (by kernel_rfl) (by kernel_rfl) (by kernel_rfl) (fun _ _ _ h => h) (Or.inl ⟨by kernel_rfl, ?_⟩) hS ?_
                rotate_left
                · intro w' hS
                  obtain ⟨s1, s2, s3, s4⟩ := hS
                  go_simp
                  try with_reducible rfl
                refine AnyJ.takeD (i := 19) (d := some 21) (v := ?_) rfl (by kernel_rfl) (by kernel_rfl) (by kernel_rfl) (by kernel_rfl) (by kernel_rfl) (fun _ _ _ h => h) (Or.inl ⟨by kernel_rfl, ?_⟩) hS ?_
                rotate_left
                · intro w' hS
                  obtain ⟨s1, s2, s3, s4⟩ := hS
                  go_simp
                  try with_reducible rfl
                refine AnyJ.done (by kernel_rfl) ?_ _
                try simp only [Act.put, List.setIfInBounds_toArray, List.set_cons_zero, List.set_cons_succ]
                clear hS
                go_wp2_with fail
                go_ret
                refine ⟨rfl, ?_⟩
                exact HBw.out.trans (hb59.mono HBw.out.size)
    · have hE' : (E != 0) = true := by simpa using hE
      obtain ⟨rfl, rfl⟩ := nightV_bad HPV.out hE
      clear hE
      go_wp2_with fail
      go_ret
      refine ⟨(by first | rfl | exact ret_bool (by first | rfl | (simp; done) | (simp; omega))), ?_⟩
      (repeat' (first | (with_reducible exact Below.refl _ _) | (with_reducible assumption) | (with_reducible exact Bw.out (by with_reducible assumption)) | (with_reducible refine bw_alloc ?_ _) | (with_reducible refine bw_step ?_ (by with_reducible assumption)) | (with_reducible refine Below.alloc ?_ ?_ _) | (with_reducible refine Below.drew ?_) | (with_reducible refine below_drewN ?_ _) | (with_reducible refine Below.setCell ?_ ?_ _) | (with_reducible refine below_step ?_ (by with_reducible assumption) ?_) | (with_reducible exact Nat.le_refl _) | omega | (simp; omega) | (simp; done)))


set_option maxRecDepth 100000 in
theorem rateWinner_lifted (os : Os) (started : os.Started) (H : Type) (enc : TypeId × Value → H) :
    ReturnsInHanded {} Try.checked os 9 .any (Rows.rateWinnerSpec.pre6 enc Try.prog Try.f9 Rows.rateWinnerRow.domain false) (Rows.rateWinnerSpec.post enc Try.prog Try.f9 false true false false) := by
  refine returnsInHanded_of_change (C := Try.checked) own started (by kernel_rfl) Try.func9
    (ChangeSpec.witness6 (enc := enc) (C := Try.checked) false ⟨#[], #[.slice none 0 0, .agg #[.int .i64 0, .int .i64 0, .int .i64 0, .int .i64 0], .int .i64 0, .int .u8 0], []⟩ 8 (by kernel_rfl) (by kernel_rfl) (by kernel_rfl) (by kernel_rfl)) ?_
  intro W base args ds gs before hval0 hW _ _
  have hval : ∀ (j : Nat) t v, Try.f9.params[j]? = some t → args[j]? = some v → Value.okWide Try.prog W .any base t v := hval0
  have hW' := hW
  obtain ⟨p, q, hA0, hV, rfl, hfz, hnd⟩ := hW
  obtain ⟨rfl, rfl⟩ := trodVars_none hV
  have hA : DataW.TrodAll enc Try.prog W 0 (fun _ => true) true Try.f9.params.toList args.toList ds p := hA0
  rw [Try.params9] at hA hval
  obtain ⟨v0, vs0, d0, ds0, p0, q0, hargs, rfl, rfl, h0, r0⟩ := trodAll_cons hA
  obtain ⟨v1, vs1, d1, ds1, p1, q1, rfl, rfl, rfl, h1, r1⟩ := trodAll_cons r0
  obtain ⟨v2, vs2, d2, ds2, p2, q2, rfl, rfl, rfl, h2, r2⟩ := trodAll_cons r1
  obtain ⟨v3, vs3, d3, ds3, p3, q3, rfl, rfl, rfl, h3, r3⟩ := trodAll_cons r2
  obtain ⟨rfl, rfl, rfl⟩ := trodAll_nil r3
  obtain rfl : args = #[v0, v1, v2, v3] := by cases args; simp_all
  obtain ⟨a0_l, n0_l, c0_l, rfl⟩ := okWide_slice Try.underlying31 (hval 0 31 v0 rfl rfl)
  obtain ⟨fu_l, hf_l⟩ := h0
  obtain ⟨a_l, n_l, c_l, l_l, e_l, g1_l, g2_l, hs_l, wf_l⟩ := slr_of_rates (by simpa [Value.cells] using hf_l)
  cases e_l
  obtain ⟨a1_a, a2_a, a3_a, a4_a, rfl, wf_a⟩ := ask_arg (hval 1 49 v1 rfl rfl) h1
  obtain ⟨nt, rfl, rfl, rfl, wnt⟩ := open_int Try.underlying3 (hval 2 3 v2 rfl rfl) h2
  obtain ⟨q, rfl, rfl, rfl, wq⟩ := open_int Try.underlying5 (hval 3 5 v3 rfl rfl) h3
  clear hA0 hval0
  refine (winner_walk _ _ _ l_l a1_a a2_a a3_a a4_a nt q wf_l wf_a wnt wq W ⟨hs_l, g1_l, g2_l⟩).mono fun e W' ⟨he, hb⟩ => ?_
  subst he
  exact ⟨_, rfl, law_post (B := 4) laidOut (by rw [Try.params9]; simp only [List.mem_cons, List.not_mem_nil, or_false, forall_eq_or_imp, forall_eq]; first | exact readable_rateWinner | (repeat' apply And.intro) <;> first | exact of_decide_eq_true (by kernel_rfl) | kernel_rfl) rfl Try.underlying4 rfl rfl hW' hb⟩

theorem rateWinner_over : Rows.rateWinnerRow.holds Try.pinned (OpenSpec.ofChange Rows.rateWinnerSpec) :=
  OpenClaim.holds_of_wide 9 Try.f9 rfl rfl rfl rfl rfl rfl rfl ⟨rfl, rfl, rfl, rfl, rfl⟩ rfl rfl rfl rfl rfl (by kernel_rfl) Try.func9 (by kernel_rfl)
    (of_decide_eq_true (by kernel_rfl)) (by unfold Func.isWrapper; first | (rw [if_pos (by decide +kernel)]; kernel_rfl) | (rw [if_neg (by decide +kernel)]; exact ⟨rfl, rfl⟩))
    (fun os started H enc _ => rateWinner_lifted os started H enc)

theorem rateWinner_holds : Rows.RateWinnerSaid := rateWinner_over
#print axioms rateWinner_holds

end Go.Proofs.Ytcmodmchnokmgaa
