/-
  Plain law of GroupFees: the fee of a block with other nights.
-/
import Derived.Test.YtjmlkdopbiedaaaGrpS
import Derived.Test.YtjmlkdopbiedaaaGrpP
namespace Go.Proofs.Ytjmlkdopbiedaaa
set_option linter.unusedSimpArgs false
set_option linter.unusedVariables false
open Go.RowKit

/-- The block with other numbers of rooms picked up. -/
def withB (B : Blk) (zs : List Int) : Blk := { B with picked := zs }
theorem withB_self (B : Blk) : withB B B.picked = B := rfl
theorem withB_ok {B : Blk} {zs : List Int} (h : blkB B = true) (hl : zs.length = B.picked.length) (hz : ∀ z ∈ zs, 0 ≤ z ∧ z ≤ B.rooms) : blkB (withB B zs) = true := by
  unfold blkB at h ⊢
  rw [Bool.and_eq_true, Bool.and_eq_true, Bool.and_eq_true] at h ⊢
  refine ⟨⟨h.1.1, ?_⟩, h.2.1, picksB_iff.2 hz⟩
  have := h.1.2
  rw [spanB_iff] at this ⊢
  obtain ⟨a, b, c, d, e⟩ := this
  exact ⟨a, b, c, by show (zs.length : Int) = _; rw [hl]; exact d, e⟩
theorem pledI_with (B : Blk) {zs : List Int} (hl : zs.length = B.picked.length) : pledI (withB B zs) = pledI B := by
  show rnd 2 (B.rooms * zs.length * B.pn) B.pd = _
  rw [hl]; rfl
theorem feE_or {B : Blk} (h : blkB B = true) : feE B = 0 ∨ feE B = 3 := by
  unfold feE
  rw [if_pos h]
  split
  · exact Or.inl rfl
  · exact Or.inr rfl
theorem feE_zero {B : Blk} (h : blkB B = true) (hf : feeI B ≤ 1000000000) : feE B = 0 ∧ feV B = feeI B := by
  have e : feE B = 0 := by unfold feE; rw [if_pos h, if_pos hf]
  exact ⟨e, by unfold feV; rw [if_pos e]⟩
theorem feE_zero' {B : Blk} (h : blkB B = true) (hf : feE B = 0) : feeI B ≤ 1000000000 ∧ feV B = feeI B := by
  refine ⟨?_, by unfold feV; rw [if_pos hf]⟩
  unfold feE at hf
  rw [if_pos h] at hf
  split at hf
  · assumption
  · cases hf
theorem sum_replicate (n : Nat) (m : Int) : (List.replicate n m).sum = m * n := by
  induction n with
  | zero => simp
  | succ n ih => rw [List.replicate_succ, List.sum_cons, ih, Int.natCast_add, Int.mul_add]; simp; omega
/-- If all rooms are picked up there is no fee. -/
theorem fee_all {B : Blk} (h : blkB B = true) : feE (withB B (List.replicate B.picked.length B.rooms)) = 0 ∧ feV (withB B (List.replicate B.picked.length B.rooms)) = 0 := by
  have ok := blkB_ok h
  have hp := pled_in ok
  have hb := withB_ok (zs := List.replicate B.picked.length B.rooms) h (by simp) (fun z hz => by rw [List.eq_of_mem_replicate hz]; have := ok.rooms; omega)
  have ho : openI (withB B (List.replicate B.picked.length B.rooms)) ≤ 0 := by
    unfold openI
    rw [pledI_with B (by simp)]
    show pledI B - (List.replicate B.picked.length B.rooms).sum ≤ 0
    rw [sum_replicate]
    omega
  have hf : feeI (withB B (List.replicate B.picked.length B.rooms)) = 0 := by
    unfold feeI
    rw [show max 0 (openI (withB B (List.replicate B.picked.length B.rooms))) = 0 by omega, Int.mul_zero]
  obtain ⟨a, b⟩ := feE_zero hb (by omega)
  exact ⟨a, b.trans hf⟩
theorem sum_set {l : List Int} : ∀ {k : Nat} (_ : k < l.length) (x : Int), (l.set k x).sum = l.sum - l.getD k 0 + x := by
  induction l with
  | nil => intro k h; simp at h
  | cons y r ih =>
    intro k h x
    cases k with
    | zero => simp; omega
    | succ k =>
      rw [List.set_cons_succ, List.sum_cons, List.sum_cons, ih (by simpa using h)]
      simp; omega
theorem fee_more {B : Blk} {k : Nat} {z : Int} (h : blkB B = true) (hk : k < B.picked.length) (hz : B.picked.getD k 0 = z) (hr : z < B.rooms) :
    (feE (withB B (B.picked.set k (z + 1))) = 0 ∨ feE (withB B (B.picked.set k (z + 1))) = 3) ∧
    (feE B = 0 → feE (withB B (B.picked.set k (z + 1))) = 0 ∧ (feV B = feV (withB B (B.picked.set k (z + 1))) + B.fee ∨ feV B = 0 ∧ feV (withB B (B.picked.set k (z + 1))) = 0)) := by
  have ok := blkB_ok h
  have hb := withB_ok (zs := B.picked.set k (z + 1)) h (by simp) (fun y hy => by
    rcases List.mem_or_eq_of_mem_set hy with g | g
    · exact ok.picks y g
    · have := ok.picks z (by rw [← hz]; exact getD_mem 0 hk); omega)
  refine ⟨feE_or hb, fun he => ?_⟩
  obtain ⟨f1, f2⟩ := feE_zero' h he
  have hO : openI (withB B (B.picked.set k (z + 1))) = openI B - 1 := by
    unfold openI
    rw [pledI_with B (by simp)]
    show pledI B - (B.picked.set k (z + 1)).sum = _
    rw [sum_set hk, hz]; omega
  have hf0 := ok.fee.1
  have hm : feeI (withB B (B.picked.set k (z + 1))) = B.fee * max 0 (openI B - 1) := by
    unfold feeI; rw [hO]; rfl
  rcases Int.lt_or_le 0 (openI B) with hp | hp
  · have e1 : feeI B = B.fee * max 0 (openI B - 1) + B.fee := by
      unfold feeI
      rw [show max 0 (openI B) = max 0 (openI B - 1) + 1 by omega, Int.mul_add, Int.mul_one]
    obtain ⟨a, b⟩ := feE_zero hb (by omega)
    exact ⟨a, Or.inl (by rw [f2, b]; omega)⟩
  · have e1 : feeI B = 0 := by unfold feeI; rw [show max 0 (openI B) = 0 by omega, Int.mul_zero]
    have e2 : feeI (withB B (B.picked.set k (z + 1))) = 0 := by rw [hm, show max 0 (openI B - 1) = 0 by omega, Int.mul_zero]
    obtain ⟨a, b⟩ := feE_zero hb (by omega)
    exact ⟨a, Or.inr ⟨by rw [f2, e1], by rw [b, e2]⟩⟩
/-- A fee that is more than 0. -/
theorem fee_pos {B : Blk} {X : Int} (h : blkB B = true) (he : feE B = 0) (hX : feV B = X) (hf : 0 < B.fee) (hx : 0 < X) :
    ∃ O P : Int, X.tdiv B.fee = O ∧ X.tmod B.fee = 0 ∧ O + B.picked.sum = P ∧ 0 ≤ O ∧ 0 ≤ P ∧ P ≤ 146400 ∧ B.rooms * B.picked.length * B.pn ≤ P * B.pd ∧ (P - 1) * B.pd < B.rooms * B.picked.length * B.pn := by
  have ok := blkB_ok h
  obtain ⟨f1, f2⟩ := feE_zero' h he
  have hp := pled_in ok
  have ho : 0 < openI B := by
    rcases Int.lt_or_le 0 (openI B) with g | g
    · exact g
    · have e1 : feeI B = 0 := by unfold feeI; rw [show max 0 (openI B) = 0 by omega, Int.mul_zero]
      omega
  have e : X = B.fee * openI B := by rw [← hX, f2]; unfold feeI; rw [show max 0 (openI B) = openI B by omega]
  have hs := rnd_up_spec (B.rooms * B.picked.length * B.pn) (d := B.pd) (by obtain ⟨_, _, _, p, _⟩ := partB_in ok.part; exact p)
  refine ⟨openI B, pledI B, ?_, ?_, by unfold openI; omega, by omega, hp.1, by omega, hs.1, hs.2⟩
  · rw [e]; exact Int.mul_tdiv_cancel_left _ (by omega)
  · rw [e]; exact Int.mul_tmod_right _ _
/-- The fee lies within its bounds. -/
theorem feV_in {B : Blk} (h : blkB B = true) : 0 ≤ feV B ∧ feV B ≤ 1000000000 := by
  have ok := blkB_ok h
  have h0 : 0 ≤ feeI B := by unfold feeI; exact Int.mul_nonneg ok.fee.1 (by omega)
  rcases feE_or h with e | e
  · obtain ⟨a, b⟩ := feE_zero' h e
    omega
  · unfold feV; rw [e]; simp
theorem more_ok {B : Blk} {k : Nat} {z : Int} (h : blkB B = true) (hk : k < B.picked.length) (hz : B.picked.getD k 0 = z) (hr : z < B.rooms) : blkB (withB B (B.picked.set k (z + 1))) = true := by
  have ok := blkB_ok h
  exact withB_ok (zs := B.picked.set k (z + 1)) h (by simp) (fun y hy => by
    rcases List.mem_or_eq_of_mem_set hy with g | g
    · exact ok.picks y g
    · have := ok.picks z (by rw [← hz]; exact getD_mem 0 hk); omega)

end Go.Proofs.Ytjmlkdopbiedaaa
