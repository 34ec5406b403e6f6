/-
  What Pick and the reference's Pick return, in two cases: an error and no block; the block behind the pick.
-/
import Derived.Test.YtjmlkdopbiedaaaGrpX
import Derived.Test.YtjmlkdopbiedaaaGrpH
namespace Go.Proofs.Ytjmlkdopbiedaaa
set_option linter.unusedSimpArgs false
set_option linter.unusedVariables false
open Go.RowKit

/-- No block. -/
abbrev zeroV : Value := .agg #[.int .i64 0, .int .i64 0, .int .i64 0, .int .i64 0, .int .i64 0, .slice none 0 0, .int .i64 0, .int .i64 0, .int .i64 0, .slice none 0 0]
theorem peE_or (B : Blk) (day s0 s1 : Int) : peE B day s0 s1 = 1 ∨ peE B day s0 s1 = 4 ∨
    ((blkB B = true ∧ inR day 0 366 = true ∧ s0 < s1 ∧ B.fr ≤ s0 ∧ s1 ≤ B.un) ∧ ((fullB (limI B day) (ixA B s0) (ixA B s1) B.picked = true ∧ peE B day s0 s1 = 31) ∨ (fullB (limI B day) (ixA B s0) (ixA B s1) B.picked = false ∧ peE B day s0 s1 = 0))) := by
  unfold peE
  split
  · rename_i h
    rw [Bool.and_eq_true, Bool.and_eq_true, decide_eq_true_iff] at h
    split
    · rename_i h2
      refine Or.inr (Or.inr ⟨⟨h.1.1, h.1.2, h.2, h2⟩, ?_⟩)
      cases fullB (limI B day) (ixA B s0) (ixA B s1) B.picked with
      | true => exact Or.inl ⟨rfl, rfl⟩
      | false => exact Or.inr ⟨rfl, by simp⟩
    · exact Or.inr (Or.inl rfl)
  · exact Or.inl rfl
theorem peE_zero {B : Blk} {day s0 s1 : Int} (h : peE B day s0 s1 = 0) : blkB B = true ∧ inR day 0 366 = true ∧ s0 < s1 ∧ B.fr ≤ s0 ∧ s1 ≤ B.un ∧ fullB (limI B day) (ixA B s0) (ixA B s1) B.picked = false := by
  rcases peE_or B day s0 s1 with e | e | ⟨⟨a, b, c, d, f⟩, ⟨_, e⟩ | ⟨g, _⟩⟩
  · omega
  · omega
  · omega
  · exact ⟨a, b, c, d, f, g⟩

theorem g_Pick_none (B : Blk) (day s0 s1 : Int) (ca : Option Addr) (cn cc : Nat) (pa : Option Addr) (pm pc : Nat) (w : World) (hin : BlkIn w B ca cn cc pa pm pc) (E : Int) (hE : peE B day s0 s1 = E) (h : E ≠ 0) (w0 : (Lit.int .i64 s0).wf = true) (w1 : (Lit.int .i64 s1).wf = true) :
    Calls Try.prog 15 #[.agg #[.int .i64 B.id, .int .i64 B.kind, .int .i64 B.rooms, .int .i64 B.fr, .int .i64 B.un, .slice ca cn cc, .int .i64 B.pn, .int .i64 B.pd, .int .i64 B.fee, .slice pa pm pc], .int .i64 day, .agg #[.int .i64 s0, .int .i64 s1]] w fun e w' =>
      e = .returned (.tuple #[.agg #[.int .i64 0, .int .i64 0, .int .i64 0, .int .i64 0, .int .i64 0, .slice none 0 0, .int .i64 0, .int .i64 0, .int .i64 0, .slice none 0 0], .int .i64 E]) ∧ Below w.heap.size w w' := by
  rcases peE_or B day s0 s1 with e | e | ⟨⟨a, b, c, d, f⟩, ⟨g, e⟩ | ⟨_, e⟩⟩
  · exact g_Pick_err B day s0 s1 ca cn cc pa pm pc w hin E hE (Or.inl (by omega)) w0 w1
  · exact g_Pick_err B day s0 s1 ca cn cc pa pm pc w hin E hE (Or.inr (by omega)) w0 w1
  · obtain rfl : E = 31 := by omega
    refine (g_Pick_in B day s0 s1 _ ca cn cc pa pm pc w hin a b c d f rfl).mono ?_
    rintro e' w' ⟨hb, ⟨_, rfl⟩ | ⟨hf, _⟩⟩
    · exact ⟨rfl, hb⟩
    · rw [g] at hf; cases hf
  · omega
theorem r_Pick_none (B : Blk) (day s0 s1 : Int) (ca : Option Addr) (cn cc : Nat) (pa : Option Addr) (pm pc : Nat) (w : World) (hin : BlkIn w B ca cn cc pa pm pc) (E : Int) (hE : peE B day s0 s1 = E) (h : E ≠ 0) :
    Calls Try.prog 16 #[.agg #[.int .i64 B.id, .int .i64 B.kind, .int .i64 B.rooms, .int .i64 B.fr, .int .i64 B.un, .slice ca cn cc, .int .i64 B.pn, .int .i64 B.pd, .int .i64 B.fee, .slice pa pm pc], .int .i64 day, .agg #[.int .i64 s0, .int .i64 s1]] w fun e w' =>
      e = .returned (.tuple #[.agg #[.int .i64 0, .int .i64 0, .int .i64 0, .int .i64 0, .int .i64 0, .slice none 0 0, .int .i64 0, .int .i64 0, .int .i64 0, .slice none 0 0], .int .i64 E]) ∧ Below w.heap.size w w' := by
  rcases peE_or B day s0 s1 with e | e | ⟨⟨a, b, c, d, f⟩, ⟨g, e⟩ | ⟨_, e⟩⟩
  · exact r_Pick_err B day s0 s1 ca cn cc pa pm pc w hin E hE (Or.inl (by omega))
  · exact r_Pick_err B day s0 s1 ca cn cc pa pm pc w hin E hE (Or.inr (by omega))
  · obtain rfl : E = 31 := by omega
    refine (r_Pick_in B day s0 s1 _ ca cn cc pa pm pc w hin a b c d f rfl).mono ?_
    rintro e' w' ⟨hb, ⟨_, rfl⟩ | ⟨hf, _⟩⟩
    · exact ⟨rfl, hb⟩
    · rw [g] at hf; cases hf
  · omega
theorem g_Pick_some (B : Blk) (day s0 s1 : Int) (ca : Option Addr) (cn cc : Nat) (pa : Option Addr) (pm pc : Nat) (w : World) (hin : BlkIn w B ca cn cc pa pm pc) (hE : peE B day s0 s1 = 0) :
    Calls Try.prog 15 #[.agg #[.int .i64 B.id, .int .i64 B.kind, .int .i64 B.rooms, .int .i64 B.fr, .int .i64 B.un, .slice ca cn cc, .int .i64 B.pn, .int .i64 B.pd, .int .i64 B.fee, .slice pa pm pc], .int .i64 day, .agg #[.int .i64 s0, .int .i64 s1]] w fun e w' => ∃ g : Nat,
      e = .returned (.tuple #[.agg #[.int .i64 B.id, .int .i64 B.kind, .int .i64 B.rooms, .int .i64 B.fr, .int .i64 B.un, .slice ca cn cc, .int .i64 B.pn, .int .i64 B.pd, .int .i64 B.fee, .slice (some ⟨g, 0, none⟩) pm pm], .int .i64 0]) ∧ BlkIn w' (pickB B s0 s1) ca cn cc (some ⟨g, 0, none⟩) pm pm ∧ w.heap.size ≤ g ∧ Below w.heap.size w w' := by
  obtain ⟨a, b, c, d, f, g0⟩ := peE_zero hE
  refine (g_Pick_in B day s0 s1 _ ca cn cc pa pm pc w hin a b c d f rfl).mono ?_
  rintro e' w' ⟨hb, ⟨hf, _⟩ | ⟨_, g, hg, ho, rfl⟩⟩
  · rw [g0] at hf; cases hf
  · have hl := hin.picked.1
    refine ⟨g, rfl, ⟨hin.cuts.below hb, ho.sl (by rw [incR_length]; exact hl), hin.ccap, by omega, ?_⟩, hg, hb⟩
    have := hin.pcap; omega
theorem r_Pick_some (B : Blk) (day s0 s1 : Int) (ca : Option Addr) (cn cc : Nat) (pa : Option Addr) (pm pc : Nat) (w : World) (hin : BlkIn w B ca cn cc pa pm pc) (hE : peE B day s0 s1 = 0) :
    Calls Try.prog 16 #[.agg #[.int .i64 B.id, .int .i64 B.kind, .int .i64 B.rooms, .int .i64 B.fr, .int .i64 B.un, .slice ca cn cc, .int .i64 B.pn, .int .i64 B.pd, .int .i64 B.fee, .slice pa pm pc], .int .i64 day, .agg #[.int .i64 s0, .int .i64 s1]] w fun e w' => ∃ g cp : Nat,
      e = .returned (.tuple #[.agg #[.int .i64 B.id, .int .i64 B.kind, .int .i64 B.rooms, .int .i64 B.fr, .int .i64 B.un, .slice ca cn cc, .int .i64 B.pn, .int .i64 B.pd, .int .i64 B.fee, .slice (some ⟨g, 0, none⟩) pm cp], .int .i64 0]) ∧ BlkIn w' (pickB B s0 s1) ca cn cc (some ⟨g, 0, none⟩) pm cp ∧ w.heap.size ≤ g ∧ Below w.heap.size w w' := by
  obtain ⟨a, b, c, d, f, g0⟩ := peE_zero hE
  refine (r_Pick_in B day s0 s1 _ ca cn cc pa pm pc w hin a b c d f rfl).mono ?_
  rintro e' w' ⟨hb, ⟨hf, _⟩ | ⟨_, g, cp, hg, hc1, hc2, ho, rfl⟩⟩
  · rw [g0] at hf; cases hf
  · have hl := hin.picked.1
    exact ⟨g, cp, rfl, ⟨hin.cuts.below hb, ho.sl (by rw [incR_length]; exact hl), hin.ccap, hc1, by unfold maxLen at hc2; omega⟩, hg, hb⟩

end Go.Proofs.Ytjmlkdopbiedaaa
