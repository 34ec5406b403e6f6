/-
  Two picks in either order: the same errors, the same block.
-/
import Derived.Test.YtjmlkdopbiedaaaGrpY
namespace Go.Proofs.Ytjmlkdopbiedaaa
set_option linter.unusedSimpArgs false
set_option linter.unusedVariables false
open Go.RowKit

theorem incR_comm (a c d e : Nat) (zs : List Int) : incR a c (incR d e zs) = incR d e (incR a c zs) :=
  list_ext_getD (by simp [incR_length]) (fun i hi => by
    rw [incR_length, incR_length] at hi
    rw [incR_getD (by rw [incR_length]; exact hi), incR_getD hi, incR_getD (by rw [incR_length]; exact hi), incR_getD hi]
    omega)
theorem pickB_comm (B : Blk) (s0 s1 t0 t1 : Int) : pickB (pickB B t0 t1) s0 s1 = pickB (pickB B s0 s1) t0 t1 := by
  show ({ B with picked := _ } : Blk) = { B with picked := _ }
  rw [show incR (ixA (pickB B t0 t1) s0) (ixA (pickB B t0 t1) s1) (pickB B t0 t1).picked = incR (ixA (pickB B s0 s1) t0) (ixA (pickB B s0 s1) t1) (pickB B s0 s1).picked from incR_comm _ _ _ _ _]
theorem full_comm {L : Int} {a c d e : Nat} {zs : List Int} (h1 : fullB L a c zs = false) (h2 : fullB L d e zs = false) (h : fullB L d e (incR a c zs) = true) : fullB L a c (incR d e zs) = true := by
  obtain ⟨i, hi, i1, i2, i3⟩ := fullB_iff.1 h
  rw [incR_length] at hi
  have f2 := fullB_false h2 hi i1 i2
  rw [incR_getD hi] at i3
  have hac : a ≤ i ∧ i < c := by
    by_cases g : a ≤ i ∧ i < c
    · exact g
    · rw [if_neg g] at i3; omega
  refine fullB_iff.2 ⟨i, by rw [incR_length]; exact hi, hac.1, hac.2, ?_⟩
  rw [incR_getD hi, if_pos ⟨i1, i2⟩]
  rw [if_pos hac] at i3
  exact i3
theorem full_same {L : Int} {a c d e : Nat} {zs : List Int} (h1 : fullB L a c zs = false) (h2 : fullB L d e zs = false) : fullB L d e (incR a c zs) = fullB L a c (incR d e zs) := by
  cases h : fullB L d e (incR a c zs) with
  | true => exact (full_comm h1 h2 h).symm
  | false =>
    cases h' : fullB L a c (incR d e zs) with
    | false => rfl
    | true => rw [full_comm h2 h1 h'] at h; cases h
/-- A block behind a pick is well-formed. -/
theorem pickB_ok {B : Blk} {day s0 s1 : Int} (h : peE B day s0 s1 = 0) : blkB (pickB B s0 s1) = true := by
  obtain ⟨hv, _, _, _, _, hf⟩ := peE_zero h
  have ok := blkB_ok hv
  have hL := limI_in ok day
  unfold blkB at hv ⊢
  rw [Bool.and_eq_true, Bool.and_eq_true, Bool.and_eq_true] at hv ⊢
  refine ⟨⟨hv.1.1, ?_⟩, hv.2.1, ?_⟩
  · have := hv.1.2
    rw [spanB_iff] at this ⊢
    obtain ⟨a, b, c, d, e⟩ := this
    exact ⟨a, b, c, by rw [show (pickB B s0 s1).picked.length = B.picked.length from incR_length _ _ _]; exact d, e⟩
  · rw [picksB_iff]
    intro z hz
    obtain ⟨i, hi, rfl⟩ := List.getElem_of_mem hz
    have hi' : i < B.picked.length := by rw [show (pickB B s0 s1).picked.length = B.picked.length from incR_length _ _ _] at hi; exact hi
    have e : (pickB B s0 s1).picked[i] = B.picked.getD i 0 + (if ixA B s0 ≤ i ∧ i < ixA B s1 then 1 else 0) := by
      rw [← incR_getD hi', List.getD_eq_getElem?_getD, List.getElem?_eq_getElem (by rw [incR_length]; exact hi')]; rfl
    rw [e]
    have hp := ok.picks (B.picked.getD i 0) (getD_mem 0 hi')
    show _ ∧ _ ≤ B.rooms
    split
    · rename_i g
      have := fullB_false hf hi' g.1 g.2
      omega
    · omega
theorem peE_comm {B : Blk} {day s0 s1 t0 t1 : Int} (h1 : peE B day s0 s1 = 0) (h2 : peE B day t0 t1 = 0) : peE (pickB B s0 s1) day t0 t1 = peE (pickB B t0 t1) day s0 s1 := by
  obtain ⟨hv, hd, a1, a2, a3, hf⟩ := peE_zero h1
  obtain ⟨_, _, b1, b2, b3, hg⟩ := peE_zero h2
  have p1 := pickB_ok h1
  have p2 := pickB_ok h2
  unfold peE
  rw [p1, p2, hd, decide_eq_true a1, decide_eq_true b1]
  simp only [Bool.and_self, if_true]
  rw [if_pos (show (pickB B s0 s1).fr ≤ t0 ∧ t1 ≤ (pickB B s0 s1).un from ⟨b2, b3⟩), if_pos (show (pickB B t0 t1).fr ≤ s0 ∧ s1 ≤ (pickB B t0 t1).un from ⟨a2, a3⟩)]
  rw [show fullB (limI (pickB B s0 s1) day) (ixA (pickB B s0 s1) t0) (ixA (pickB B s0 s1) t1) (pickB B s0 s1).picked = fullB (limI (pickB B t0 t1) day) (ixA (pickB B t0 t1) s0) (ixA (pickB B t0 t1) s1) (pickB B t0 t1).picked from full_same hf hg]

end Go.Proofs.Ytjmlkdopbiedaaa
