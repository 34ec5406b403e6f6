/-
  The walk of group.Fee.
-/
import Derived.Test.YtjmlkdopbiedaaaGrpF
namespace Go.Proofs.Ytjmlkdopbiedaaa
set_option linter.unusedSimpArgs false
set_option linter.unusedVariables false
open Go.RowKit Go.IntWalk

/-- How many room nights are pledged. -/
def pledI (B : Blk) : Int := rnd 2 (B.rooms * B.picked.length * B.pn) B.pd
/-- .. and not used. -/
def openI (B : Blk) : Int := pledI B - B.picked.sum
/-- What the fee comes to. -/
def feeI (B : Blk) : Int := B.fee * max 0 (openI B)
def feE (B : Blk) : Int := if blkB B = true then (if feeI B ≤ 1000000000 then 0 else 3) else 1
def feV (B : Blk) : Int := if feE B = 0 then feeI B else 0

theorem sum_take {l : List Int} {k : Nat} (h : k < l.length) : (l.take (k + 1)).sum = (l.take k).sum + l.getD k 0 := by
  rw [List.take_succ_eq_append_getElem h, List.sum_append]; simp [List.getD, h]
theorem sum_in {l : List Int} {m : Int} (h : ∀ z ∈ l, 0 ≤ z ∧ z ≤ m) : 0 ≤ l.sum ∧ l.sum ≤ m * l.length := by
  induction l with
  | nil => simp
  | cons x r ih =>
    have h1 := h x (by simp)
    have h2 := ih (fun z hz => h z (by simp [hz]))
    rw [List.sum_cons, List.length_cons]
    have e : m * ((r.length + 1 : Nat) : Int) = m * r.length + m := by rw [Int.natCast_add, Int.mul_add]; simp
    omega
theorem pled_in {B : Blk} (h : B.Ok) : 0 ≤ pledI B ∧ pledI B ≤ B.rooms * B.picked.length ∧ 0 ≤ B.rooms * B.picked.length ∧ B.rooms * B.picked.length ≤ 146400 := by
  obtain ⟨_, p1, p2, p3, _⟩ := partB_in h.part
  have hl : (B.picked.length : Int) ≤ 366 := by have := h.len; have := h.un; have := h.fr; omega
  have h0 : 0 ≤ B.rooms * B.picked.length := Int.mul_nonneg (by have := h.rooms; omega) (by omega)
  have h1 : B.rooms * B.picked.length ≤ 400 * 366 := Int.mul_le_mul h.rooms.2 hl (by omega) (by omega)
  have := rnd_part 2 p3 h0 p1 p2
  unfold pledI
  omega
theorem fee_bound {a b : Int} (h1 : 0 ≤ a) (h2 : a ≤ 1000000000) (h3 : 0 ≤ b) (h4 : b ≤ 146400) : 0 ≤ a * b ∧ a * b ≤ 146400000000000 := by
  have := Int.mul_le_mul h2 h4 h3 (by omega)
  have := Int.mul_nonneg h1 h3
  omega

theorem ret2_i {k : IntKind} {a b : Int} {u v : Value} (h : a = b) (h2 : u = v) : Ending.returned (.tuple #[.int k a, u]) = .returned (.tuple #[.int k b, v]) := by rw [h, h2]
set_option maxRecDepth 100000 in
set_option maxHeartbeats 6400000 in
theorem g_Fee_any (B : Blk) (ca : Option Addr) (cn cc : Nat) (pa : Option Addr) (pm pc : Nat) (w : World) (hin : BlkIn w B ca cn cc pa pm pc) (V E : Int) (hV : feV B = V) (hE : feE B = E) :
    Calls Try.prog 18 #[.agg #[.int .i64 B.id, .int .i64 B.kind, .int .i64 B.rooms, .int .i64 B.fr, .int .i64 B.un, .slice ca cn cc, .int .i64 B.pn, .int .i64 B.pd, .int .i64 B.fee, .slice pa pm pc]] w fun e w' => e = .returned (.tuple #[.int .i64 V, .int .i64 E]) ∧ Below w.heap.size w w' := by
  have HIN := Lib.hid hin
  have HLP : Hid (B.picked.length = pm) := hin.picked.1
  have HE := Lib.hid hE
  have HVV := Lib.hid hV
  clear hin hV hE
  cases hv : blkB B with
  | false =>
    have HV := Lib.hid hv
    obtain rfl : E = 1 := by rw [← HE.out]; simp [feE, hv]
    obtain rfl : V = 0 := by rw [← HVV.out]; unfold feV; rw [HE.out]; rfl
    clear hv
    go_enter Try.func18, Try.ntmps18
    go_wp2_with fail
    refine (g_valid_any B ca cn cc pa pm pc _ (HIN.out.below (by (repeat' (first | (with_reducible exact Below.refl _ _) | (with_reducible assumption) | (with_reducible exact Bw.out (by with_reducible assumption)) | (with_reducible refine bw_alloc ?_ _) | (with_reducible refine bw_step ?_ (by with_reducible assumption)) | (with_reducible refine Below.alloc ?_ ?_ _) | (with_reducible refine Below.drew ?_) | (with_reducible refine below_drewN ?_ _) | (with_reducible refine Below.setCell ?_ ?_ _) | (with_reducible refine below_step ?_ (by with_reducible assumption) ?_) | (with_reducible exact Nat.le_refl _) | omega | (simp; omega) | (simp; done))))) false HV.out).mono ?_
    rintro e w1 ⟨rfl, hb1⟩
    have R_b_1 : Row w1 (w.heap.size) [.int .i64 B.id, .int .i64 B.kind, .int .i64 B.rooms, .int .i64 B.fr, .int .i64 B.un, .slice ca cn cc, .int .i64 B.pn, .int .i64 B.pd, .int .i64 B.fee, .slice pa pm pc] := by (repeat' (first | (with_reducible assumption) | (with_reducible refine Row.new' _ _ _ (by first | rfl | (simp; done) | omega)) | (with_reducible refine Row.alloc ?_ _) | (with_reducible refine Row.drew ?_) | (with_reducible refine Row.drewN ?_ _) | (with_reducible refine Row.step ?_ (by with_reducible assumption)) | (with_reducible refine Row.set2' ?_ _ _; first | exact ⟨_, _, by with_reducible assumption⟩ | exact ⟨_, _, Row.alloc (by with_reducible assumption) _⟩ | exact ⟨_, _, Row.alloc (Row.alloc (by with_reducible assumption) _) _⟩) | (with_reducible refine Row.other ?_ (by first | omega | (simp; done) | (simp; omega)) _)))
    have c_b_0_1 := R_b_1.cell 0 rfl
    have c_b_1_1 := R_b_1.cell 1 rfl
    have c_b_2_1 := R_b_1.cell 2 rfl
    have c_b_3_1 := R_b_1.cell 3 rfl
    have c_b_4_1 := R_b_1.cell 4 rfl
    have c_b_5_1 := R_b_1.cell 5 rfl
    have c_b_6_1 := R_b_1.cell 6 rfl
    have c_b_7_1 := R_b_1.cell 7 rfl
    have c_b_8_1 := R_b_1.cell 8 rfl
    have c_b_9_1 := R_b_1.cell 9 rfl
    have l_b_1 := R_b_1.lt
    have HB1 : Below w.heap.size w w1 := by (repeat' (first | (with_reducible exact Below.refl _ _) | (with_reducible assumption) | (with_reducible exact Bw.out (by with_reducible assumption)) | (with_reducible refine bw_alloc ?_ _) | (with_reducible refine bw_step ?_ (by with_reducible assumption)) | (with_reducible refine Below.alloc ?_ ?_ _) | (with_reducible refine Below.drew ?_) | (with_reducible refine below_drewN ?_ _) | (with_reducible refine Below.setCell ?_ ?_ _) | (with_reducible refine below_step ?_ (by with_reducible assumption) ?_) | (with_reducible exact Nat.le_refl _) | omega | (simp; omega) | (simp; done)))
    go_wp2_with fail
    go_ret2
    refine ⟨rfl, ?_⟩
    (repeat' (first | (with_reducible exact Below.refl _ _) | (with_reducible assumption) | (with_reducible exact Bw.out (by with_reducible assumption)) | (with_reducible refine bw_alloc ?_ _) | (with_reducible refine bw_step ?_ (by with_reducible assumption)) | (with_reducible refine Below.alloc ?_ ?_ _) | (with_reducible refine Below.drew ?_) | (with_reducible refine below_drewN ?_ _) | (with_reducible refine Below.setCell ?_ ?_ _) | (with_reducible refine below_step ?_ (by with_reducible assumption) ?_) | (with_reducible exact Nat.le_refl _) | omega | (simp; omega) | (simp; done)))
  | true =>
    have HV := Lib.hid hv
    have ok := blkB_ok hv
    obtain ⟨u1, u2, u3, u4⟩ := pled_in ok
    obtain ⟨P, hP⟩ : ∃ P, pledI B = P := ⟨_, rfl⟩
    rw [hP] at u1 u2
    rw [HLP.out] at u2 u3 u4
    have HPN : Hid (rnd 2 (B.rooms * (pm : Int) * B.pn) B.pd = P) := by show _ = _; rw [← hP]; unfold pledI; rw [HLP.out]
    have HP := Lib.hid hP
    have HPART := Lib.hid ok.part
    have hpm : pm ≤ 366 := by have := ok.len; have := ok.un; have := ok.fr; have := HLP.out; omega
    have hr1 := ok.rooms.1
    have hr2 := ok.rooms.2
    have hf1 := ok.fee.1
    have hf2 := ok.fee.2
    have HPK := Lib.hid ok.picks
    have hP2 : P ≤ 146400 := by omega
    clear hv ok hP u2
    go_enter Try.func18, Try.ntmps18
    go_wp2_with fail
    refine (g_valid_any B ca cn cc pa pm pc _ (HIN.out.below (by (repeat' (first | (with_reducible exact Below.refl _ _) | (with_reducible assumption) | (with_reducible exact Bw.out (by with_reducible assumption)) | (with_reducible refine bw_alloc ?_ _) | (with_reducible refine bw_step ?_ (by with_reducible assumption)) | (with_reducible refine Below.alloc ?_ ?_ _) | (with_reducible refine Below.drew ?_) | (with_reducible refine below_drewN ?_ _) | (with_reducible refine Below.setCell ?_ ?_ _) | (with_reducible refine below_step ?_ (by with_reducible assumption) ?_) | (with_reducible exact Nat.le_refl _) | omega | (simp; omega) | (simp; done))))) true HV.out).mono ?_
    rintro e w1 ⟨rfl, hb1⟩
    have R_b_1 : Row w1 (w.heap.size) [.int .i64 B.id, .int .i64 B.kind, .int .i64 B.rooms, .int .i64 B.fr, .int .i64 B.un, .slice ca cn cc, .int .i64 B.pn, .int .i64 B.pd, .int .i64 B.fee, .slice pa pm pc] := by (repeat' (first | (with_reducible assumption) | (with_reducible refine Row.new' _ _ _ (by first | rfl | (simp; done) | omega)) | (with_reducible refine Row.alloc ?_ _) | (with_reducible refine Row.drew ?_) | (with_reducible refine Row.drewN ?_ _) | (with_reducible refine Row.step ?_ (by with_reducible assumption)) | (with_reducible refine Row.set2' ?_ _ _; first | exact ⟨_, _, by with_reducible assumption⟩ | exact ⟨_, _, Row.alloc (by with_reducible assumption) _⟩ | exact ⟨_, _, Row.alloc (Row.alloc (by with_reducible assumption) _) _⟩) | (with_reducible refine Row.other ?_ (by first | omega | (simp; done) | (simp; omega)) _)))
    have c_b_0_1 := R_b_1.cell 0 rfl
    have c_b_1_1 := R_b_1.cell 1 rfl
    have c_b_2_1 := R_b_1.cell 2 rfl
    have c_b_3_1 := R_b_1.cell 3 rfl
    have c_b_4_1 := R_b_1.cell 4 rfl
    have c_b_5_1 := R_b_1.cell 5 rfl
    have c_b_6_1 := R_b_1.cell 6 rfl
    have c_b_7_1 := R_b_1.cell 7 rfl
    have c_b_8_1 := R_b_1.cell 8 rfl
    have c_b_9_1 := R_b_1.cell 9 rfl
    have l_b_1 := R_b_1.lt
    have HB1 : Below w.heap.size w w1 := by (repeat' (first | (with_reducible exact Below.refl _ _) | (with_reducible assumption) | (with_reducible exact Bw.out (by with_reducible assumption)) | (with_reducible refine bw_alloc ?_ _) | (with_reducible refine bw_step ?_ (by with_reducible assumption)) | (with_reducible refine Below.alloc ?_ ?_ _) | (with_reducible refine Below.drew ?_) | (with_reducible refine below_drewN ?_ _) | (with_reducible refine Below.setCell ?_ ?_ _) | (with_reducible refine below_step ?_ (by with_reducible assumption) ?_) | (with_reducible exact Nat.le_refl _) | omega | (simp; omega) | (simp; done)))
    go_wp2_with fail
    refine (Part_ok (B.rooms * (pm : Int)) B.pn B.pd _ HPART.out u3 (by omega)).mono ?_
    rintro e w2 ⟨rfl, hb2⟩
    have R_b_2 : Row w2 (w.heap.size) [.int .i64 B.id, .int .i64 B.kind, .int .i64 B.rooms, .int .i64 B.fr, .int .i64 B.un, .slice ca cn cc, .int .i64 B.pn, .int .i64 B.pd, .int .i64 B.fee, .slice pa pm pc] := by (repeat' (first | (with_reducible assumption) | (with_reducible refine Row.new' _ _ _ (by first | rfl | (simp; done) | omega)) | (with_reducible refine Row.alloc ?_ _) | (with_reducible refine Row.drew ?_) | (with_reducible refine Row.drewN ?_ _) | (with_reducible refine Row.step ?_ (by with_reducible assumption)) | (with_reducible refine Row.set2' ?_ _ _; first | exact ⟨_, _, by with_reducible assumption⟩ | exact ⟨_, _, Row.alloc (by with_reducible assumption) _⟩ | exact ⟨_, _, Row.alloc (Row.alloc (by with_reducible assumption) _) _⟩) | (with_reducible refine Row.other ?_ (by first | omega | (simp; done) | (simp; omega)) _)))
    have c_b_0_2 := R_b_2.cell 0 rfl
    have c_b_1_2 := R_b_2.cell 1 rfl
    have c_b_2_2 := R_b_2.cell 2 rfl
    have c_b_3_2 := R_b_2.cell 3 rfl
    have c_b_4_2 := R_b_2.cell 4 rfl
    have c_b_5_2 := R_b_2.cell 5 rfl
    have c_b_6_2 := R_b_2.cell 6 rfl
    have c_b_7_2 := R_b_2.cell 7 rfl
    have c_b_8_2 := R_b_2.cell 8 rfl
    have c_b_9_2 := R_b_2.cell 9 rfl
    have l_b_2 := R_b_2.lt
    have HB2 : Below w.heap.size w w2 := by (repeat' (first | (with_reducible exact Below.refl _ _) | (with_reducible assumption) | (with_reducible exact Bw.out (by with_reducible assumption)) | (with_reducible refine bw_alloc ?_ _) | (with_reducible refine bw_step ?_ (by with_reducible assumption)) | (with_reducible refine Below.alloc ?_ ?_ _) | (with_reducible refine Below.drew ?_) | (with_reducible refine below_drewN ?_ _) | (with_reducible refine Below.setCell ?_ ?_ _) | (with_reducible refine below_step ?_ (by with_reducible assumption) ?_) | (with_reducible exact Nat.le_refl _) | omega | (simp; omega) | (simp; done)))
    clear R_b_1 c_b_0_1 c_b_1_1 c_b_2_1 c_b_3_1 c_b_4_1 c_b_5_1 c_b_6_1 c_b_7_1 c_b_8_1 c_b_9_1 hb1 HB1
    rw [HPN.out]
    go_wp2_with fail
    go_loop [4, 27] (fun n i => ∃ (k : Nat) (N : Int), k ≤ pm ∧ i = .int .i64 k ∧ n = .int .i64 N ∧ -146400 ≤ N ∧ N ≤ 146400 ∧ Hid (N = P - (B.picked.take k).sum)) (fun _ i => pm - (intOf i).toNat)
    case atStart => exact ⟨0, P, Nat.zero_le _, rfl, rfl, by omega, hP2, by show _ = _; simp⟩
    case round =>
      obtain ⟨k, N, hk, rfl, rfl, hN1, hN2, hN⟩ := hrel
      by_cases hlt : k < pm
      · obtain ⟨b, off, z, hpa, hbl, cz, gz, _, gm⟩ := (HIN.out.picked.below HB2).get hlt
        subst hpa
        have hzb := HPK.out z gm.out
        obtain ⟨hz0, hz1⟩ := hzb
        have HN2 : Hid (N - z = P - (B.picked.take (k + 1)).sum) := by
          show _ = _
          rw [sum_take (by rw [HLP.out]; exact hlt), gz.out]
          have := hN.out; omega
        have hsum := sum_in (l := B.picked.take (k + 1)) (m := B.rooms) (fun y hy => HPK.out y (List.mem_of_mem_take hy))
        have hlen : (B.picked.take (k + 1)).length ≤ 366 := by rw [List.length_take, HLP.out]; omega
        have hNb : -146400 ≤ N - z := by
          have h1 : B.rooms * ((B.picked.take (k + 1)).length : Int) ≤ 400 * 366 := Int.mul_le_mul hr2 (by omega) (by omega) (by omega)
          have := HN2.out
          omega
        clear hsum hlen
        go_wp2_with fail
        go_round
        case rel => exact ⟨k + 1, N - z, by omega, by go_num, rfl, hNb, by omega, HN2⟩
        case measure => simp [intOf]; omega
      · obtain rfl : k = pm := by omega
        have HO : Hid (openI B = N) := by
          have h := hN.out
          rw [List.take_of_length_le (by rw [HLP.out]; omega)] at h
          show _ = _
          unfold openI
          rw [HP.out, h]
        clear hN
        by_cases hN0 : 0 < N
        · have HF : Hid (feeI B = B.fee * N) := by show _ = _; unfold feeI; rw [HO.out, show max 0 N = N by omega]
          obtain ⟨m1, m2⟩ := fee_bound hf1 hf2 (show 0 ≤ N by omega) hN2
          by_cases hle : B.fee * N ≤ 1000000000
          · obtain rfl : E = 0 := by rw [← HE.out]; unfold feE; rw [if_pos HV.out, if_pos (by rw [HF.out]; exact hle)]
            obtain rfl : V = B.fee * N := by rw [← HVV.out]; unfold feV; rw [if_pos HE.out, HF.out]
            have hw : wrap64 (B.fee * N) = B.fee * N := wrap64_in _ ⟨by omega, by omega⟩
            go_wp2_with fail
            all_goals
              go_ret2
              refine ⟨(by first | rfl | exact ret2_i (a := wrap64 0) (show wrap64 0 = 0 by rfl) rfl), ?_⟩
              (repeat' (first | (with_reducible exact Below.refl _ _) | (with_reducible assumption) | (with_reducible exact Bw.out (by with_reducible assumption)) | (with_reducible refine bw_alloc ?_ _) | (with_reducible refine bw_step ?_ (by with_reducible assumption)) | (with_reducible refine Below.alloc ?_ ?_ _) | (with_reducible refine Below.drew ?_) | (with_reducible refine below_drewN ?_ _) | (with_reducible refine Below.setCell ?_ ?_ _) | (with_reducible refine below_step ?_ (by with_reducible assumption) ?_) | (with_reducible exact Nat.le_refl _) | omega | (simp; omega) | (simp; done)))
          · obtain rfl : E = 3 := by rw [← HE.out]; unfold feE; rw [if_pos HV.out, if_neg (by rw [HF.out]; exact hle)]
            obtain rfl : V = 0 := by rw [← HVV.out]; unfold feV; rw [if_neg (by rw [HE.out]; omega)]
            have hgt : 1000000000 < B.fee * N := by omega
            have hw : wrap64 (B.fee * N) = B.fee * N := wrap64_in _ ⟨by omega, by omega⟩
            clear hle
            go_wp2_with fail
            all_goals
              go_ret2
              refine ⟨(by first | rfl | exact ret2_i (a := wrap64 0) (show wrap64 0 = 0 by rfl) rfl), ?_⟩
              (repeat' (first | (with_reducible exact Below.refl _ _) | (with_reducible assumption) | (with_reducible exact Bw.out (by with_reducible assumption)) | (with_reducible refine bw_alloc ?_ _) | (with_reducible refine bw_step ?_ (by with_reducible assumption)) | (with_reducible refine Below.alloc ?_ ?_ _) | (with_reducible refine Below.drew ?_) | (with_reducible refine below_drewN ?_ _) | (with_reducible refine Below.setCell ?_ ?_ _) | (with_reducible refine below_step ?_ (by with_reducible assumption) ?_) | (with_reducible exact Nat.le_refl _) | omega | (simp; omega) | (simp; done)))
        · have HF : Hid (feeI B = 0) := by show _ = _; unfold feeI; rw [HO.out, show max 0 N = 0 by omega]; simp
          obtain rfl : E = 0 := by rw [← HE.out]; unfold feE; rw [if_pos HV.out, if_pos (by rw [HF.out]; omega)]
          obtain rfl : V = 0 := by rw [← HVV.out]; unfold feV; rw [if_pos HE.out, HF.out]
          have hN3 : N ≤ 0 := by omega
          clear hN0
          go_wp2_with fail
          all_goals
            go_ret2
            refine ⟨(by first | rfl | exact ret2_i (a := wrap64 0) (show wrap64 0 = 0 by rfl) rfl), ?_⟩
            (repeat' (first | (with_reducible exact Below.refl _ _) | (with_reducible assumption) | (with_reducible exact Bw.out (by with_reducible assumption)) | (with_reducible refine bw_alloc ?_ _) | (with_reducible refine bw_step ?_ (by with_reducible assumption)) | (with_reducible refine Below.alloc ?_ ?_ _) | (with_reducible refine Below.drew ?_) | (with_reducible refine below_drewN ?_ _) | (with_reducible refine Below.setCell ?_ ?_ _) | (with_reducible refine below_step ?_ (by with_reducible assumption) ?_) | (with_reducible exact Nat.le_refl _) | omega | (simp; omega) | (simp; done)))

end Go.Proofs.Ytjmlkdopbiedaaa
