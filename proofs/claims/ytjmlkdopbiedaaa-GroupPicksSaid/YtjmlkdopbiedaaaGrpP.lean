/-
  The walk of group.Pick.
-/
import Derived.Test.YtjmlkdopbiedaaaGrpG
import Derived.Laws.CopyOwn
namespace Go.Proofs.Ytjmlkdopbiedaaa
set_option linter.unusedSimpArgs false
set_option linter.unusedVariables false
open Go.RowKit

/-- The numbers of lo to before hi greater by 1. -/
def incR (lo hi : Nat) (zs : List Int) : List Int := (List.range zs.length).map fun i => zs.getD i 0 + (if lo ≤ i ∧ i < hi then 1 else 0)
theorem incR_length (lo hi : Nat) (zs : List Int) : (incR lo hi zs).length = zs.length := by simp [incR]
theorem incR_getD {lo hi i : Nat} {zs : List Int} (h : i < zs.length) : (incR lo hi zs).getD i 0 = zs.getD i 0 + (if lo ≤ i ∧ i < hi then 1 else 0) := by
  simp [incR, List.getD, h]
theorem list_ext_getD {xs ys : List Int} (hl : xs.length = ys.length) (h : ∀ i, i < xs.length → xs.getD i 0 = ys.getD i 0) : xs = ys := by
  refine List.ext_getElem hl (fun i h1 h2 => ?_)
  have := h i h1
  simpa [List.getD, h1, h2] using this
theorem incR_none (lo : Nat) (zs : List Int) : incR lo lo zs = zs :=
  list_ext_getD (incR_length _ _ _) (fun i hi => by rw [incR_length] at hi; rw [incR_getD hi, if_neg (by omega)]; omega)
theorem getD_set' {zs : List Int} {c : Nat} {x : Int} (i : Nat) (hc : c < zs.length) : (zs.set c x).getD i 0 = if i = c then x else zs.getD i 0 := by
  simp only [List.getD_eq_getElem?_getD, List.getElem?_set]
  by_cases h : c = i
  · subst h; simp [hc]
  · simp [h, Ne.symm h]
theorem incR_set {lo j : Nat} {zs : List Int} (h1 : lo ≤ j) (h2 : j < zs.length) : (incR lo j zs).set j (zs.getD j 0 + 1) = incR lo (j + 1) zs := by
  refine list_ext_getD (by simp [incR_length]) (fun i hi => ?_)
  rw [List.length_set, incR_length] at hi
  rw [getD_set' i (by rw [incR_length]; exact h2), incR_getD hi, incR_getD hi]
  by_cases e : i = j
  · subst e; rw [if_pos rfl, if_pos ⟨h1, by omega⟩]
  · rw [if_neg e]
    by_cases h : lo ≤ i ∧ i < j
    · rw [if_pos h, if_pos (by omega)]
    · rw [if_neg h, if_neg (by omega)]

/-- The span as indexes. -/
def ixA (B : Blk) (s0 : Int) : Nat := (s0 - B.fr).toNat
/-- Is there a night of the span for which nothing is left of the limit? -/
def fullB (L : Int) (lo hi : Nat) (zs : List Int) : Bool := (List.range zs.length).any fun i => decide (lo ≤ i) && decide (i < hi) && decide (L ≤ zs.getD i 0)
theorem fullB_iff {L : Int} {lo hi : Nat} {zs : List Int} : fullB L lo hi zs = true ↔ ∃ i, i < zs.length ∧ lo ≤ i ∧ i < hi ∧ L ≤ zs.getD i 0 := by
  simp [fullB, List.any_eq_true, and_assoc]
theorem fullB_false {L : Int} {lo hi : Nat} {zs : List Int} (h : fullB L lo hi zs = false) {i : Nat} (h1 : i < zs.length) (h2 : lo ≤ i) (h3 : i < hi) : zs.getD i 0 < L := by
  rcases Int.lt_or_le (zs.getD i 0) L with g | g
  · exact g
  · rw [fullB_iff.2 ⟨i, h1, h2, h3, g⟩] at h; cases h
/-- The error of Pick. -/
def peE (B : Blk) (day s0 s1 : Int) : Int :=
  if (blkB B && inR day 0 366 && decide (s0 < s1)) = true then (if B.fr ≤ s0 ∧ s1 ≤ B.un then (if fullB (limI B day) (ixA B s0) (ixA B s1) B.picked = true then 31 else 0) else 4) else 1
/-- The block behind a pick. -/
def pickB (B : Blk) (s0 s1 : Int) : Blk := { B with picked := incR (ixA B s0) (ixA B s1) B.picked }

set_option maxRecDepth 100000 in
set_option maxHeartbeats 6400000 in
theorem g_Pick_err (B : Blk) (day s0 s1 : Int) (ca : Option Addr) (cn cc : Nat) (pa : Option Addr) (pm pc : Nat) (w : World) (hin : BlkIn w B ca cn cc pa pm pc) (E : Int) (hE : peE B day s0 s1 = E) (h : E = 1 ∨ E = 4) (w0 : (Lit.int .i64 s0).wf = true) (w1 : (Lit.int .i64 s1).wf = true) :
    Calls Try.prog 15 #[.agg #[.int .i64 B.id, .int .i64 B.kind, .int .i64 B.rooms, .int .i64 B.fr, .int .i64 B.un, .slice ca cn cc, .int .i64 B.pn, .int .i64 B.pd, .int .i64 B.fee, .slice pa pm pc], .int .i64 day, .agg #[.int .i64 s0, .int .i64 s1]] w fun e w' =>
      e = .returned (.tuple #[.agg #[.int .i64 0, .int .i64 0, .int .i64 0, .int .i64 0, .int .i64 0, .slice none 0 0, .int .i64 0, .int .i64 0, .int .i64 0, .slice none 0 0], .int .i64 E]) ∧ Below w.heap.size w w' := by
  have HIN := Lib.hid hin
  have HE := Lib.hid hE
  clear hin hE
  cases hv : blkB B with
  | false =>
    have HV := Lib.hid hv
    obtain rfl : E = 1 := by rw [← HE.out]; simp [peE, hv]
    clear hv h
    go_enter Try.func15, Try.ntmps15
    go_wp2_with fail
    refine (g_valid_any B ca cn cc pa pm pc _ (HIN.out.below (by (repeat' (first | (with_reducible exact Below.refl _ _) | (with_reducible assumption) | (with_reducible exact Bw.out (by with_reducible assumption)) | (with_reducible refine bw_alloc ?_ _) | (with_reducible refine bw_step ?_ (by with_reducible assumption)) | (with_reducible refine Below.alloc ?_ ?_ _) | (with_reducible refine Below.drew ?_) | (with_reducible refine below_drewN ?_ _) | (with_reducible refine Below.setCell ?_ ?_ _) | (with_reducible refine below_step ?_ (by with_reducible assumption) ?_) | (with_reducible exact Nat.le_refl _) | omega | (simp; omega) | (simp; done))))) false HV.out).mono ?_
    rintro e w1 ⟨rfl, hb1⟩
    have R_b_1 : Row w1 (w.heap.size) [.int .i64 B.id, .int .i64 B.kind, .int .i64 B.rooms, .int .i64 B.fr, .int .i64 B.un, .slice ca cn cc, .int .i64 B.pn, .int .i64 B.pd, .int .i64 B.fee, .slice pa pm pc] := by (repeat' (first | (with_reducible assumption) | (with_reducible refine Row.new' _ _ _ (by first | rfl | (simp; done) | omega)) | (with_reducible refine Row.alloc ?_ _) | (with_reducible refine Row.drew ?_) | (with_reducible refine Row.drewN ?_ _) | (with_reducible refine Row.step ?_ (by with_reducible assumption)) | (with_reducible refine Row.set2' ?_ _ _; first | exact ⟨_, _, by with_reducible assumption⟩ | exact ⟨_, _, Row.alloc (by with_reducible assumption) _⟩ | exact ⟨_, _, Row.alloc (Row.alloc (by with_reducible assumption) _) _⟩) | (with_reducible refine Row.other ?_ (by first | omega | (simp; done) | (simp; omega)) _)))
    have c_b_0_1 := R_b_1.cell 0 rfl
    have c_b_1_1 := R_b_1.cell 1 rfl
    have c_b_2_1 := R_b_1.cell 2 rfl
    have c_b_3_1 := R_b_1.cell 3 rfl
    have c_b_4_1 := R_b_1.cell 4 rfl
    have c_b_5_1 := R_b_1.cell 5 rfl
    have c_b_6_1 := R_b_1.cell 6 rfl
    have c_b_7_1 := R_b_1.cell 7 rfl
    have c_b_8_1 := R_b_1.cell 8 rfl
    have c_b_9_1 := R_b_1.cell 9 rfl
    have l_b_1 := R_b_1.lt
    have R_s_1 : Row w1 (w.heap.size + 1) [.int .i64 (s0), .int .i64 (s1)] := by (repeat' (first | (with_reducible assumption) | (with_reducible refine Row.new' _ _ _ (by first | rfl | (simp; done) | omega)) | (with_reducible refine Row.alloc ?_ _) | (with_reducible refine Row.drew ?_) | (with_reducible refine Row.drewN ?_ _) | (with_reducible refine Row.step ?_ (by with_reducible assumption)) | (with_reducible refine Row.set2' ?_ _ _; first | exact ⟨_, _, by with_reducible assumption⟩ | exact ⟨_, _, Row.alloc (by with_reducible assumption) _⟩ | exact ⟨_, _, Row.alloc (Row.alloc (by with_reducible assumption) _) _⟩) | (with_reducible refine Row.other ?_ (by first | omega | (simp; done) | (simp; omega)) _)))
    have c_s_0_1 := R_s_1.cell 0 rfl
    have c_s_1_1 := R_s_1.cell 1 rfl
    have l_s_1 := R_s_1.lt
    have R_r_1 : Row w1 (w.heap.size + 2) [.int .i64 (0), .int .i64 (0), .int .i64 (0), .int .i64 (0), .int .i64 (0), .slice none 0 0, .int .i64 (0), .int .i64 (0), .int .i64 (0), .slice none 0 0] := by (repeat' (first | (with_reducible assumption) | (with_reducible refine Row.new' _ _ _ (by first | rfl | (simp; done) | omega)) | (with_reducible refine Row.alloc ?_ _) | (with_reducible refine Row.drew ?_) | (with_reducible refine Row.drewN ?_ _) | (with_reducible refine Row.step ?_ (by with_reducible assumption)) | (with_reducible refine Row.set2' ?_ _ _; first | exact ⟨_, _, by with_reducible assumption⟩ | exact ⟨_, _, Row.alloc (by with_reducible assumption) _⟩ | exact ⟨_, _, Row.alloc (Row.alloc (by with_reducible assumption) _) _⟩) | (with_reducible refine Row.other ?_ (by first | omega | (simp; done) | (simp; omega)) _)))
    have c_r_0_1 := R_r_1.cell 0 rfl
    have c_r_1_1 := R_r_1.cell 1 rfl
    have c_r_2_1 := R_r_1.cell 2 rfl
    have c_r_3_1 := R_r_1.cell 3 rfl
    have c_r_4_1 := R_r_1.cell 4 rfl
    have c_r_5_1 := R_r_1.cell 5 rfl
    have c_r_6_1 := R_r_1.cell 6 rfl
    have c_r_7_1 := R_r_1.cell 7 rfl
    have c_r_8_1 := R_r_1.cell 8 rfl
    have c_r_9_1 := R_r_1.cell 9 rfl
    have z_r_0_1 := R_r_1.frozen 0
    have z_r_1_1 := R_r_1.frozen 1
    have z_r_2_1 := R_r_1.frozen 2
    have z_r_3_1 := R_r_1.frozen 3
    have z_r_4_1 := R_r_1.frozen 4
    have z_r_5_1 := R_r_1.frozen 5
    have z_r_6_1 := R_r_1.frozen 6
    have z_r_7_1 := R_r_1.frozen 7
    have z_r_8_1 := R_r_1.frozen 8
    have z_r_9_1 := R_r_1.frozen 9
    have l_r_1 := R_r_1.lt
    have R_c_1 : Row w1 (w.heap.size + 3) [.int .i64 B.id, .int .i64 B.kind, .int .i64 B.rooms, .int .i64 B.fr, .int .i64 B.un, .slice ca cn cc, .int .i64 B.pn, .int .i64 B.pd, .int .i64 B.fee, .slice pa pm pc] := by (repeat' (first | (with_reducible assumption) | (with_reducible refine Row.new' _ _ _ (by first | rfl | (simp; done) | omega)) | (with_reducible refine Row.alloc ?_ _) | (with_reducible refine Row.drew ?_) | (with_reducible refine Row.drewN ?_ _) | (with_reducible refine Row.step ?_ (by with_reducible assumption)) | (with_reducible refine Row.set2' ?_ _ _; first | exact ⟨_, _, by with_reducible assumption⟩ | exact ⟨_, _, Row.alloc (by with_reducible assumption) _⟩ | exact ⟨_, _, Row.alloc (Row.alloc (by with_reducible assumption) _) _⟩) | (with_reducible refine Row.other ?_ (by first | omega | (simp; done) | (simp; omega)) _)))
    have c_c_0_1 := R_c_1.cell 0 rfl
    have c_c_1_1 := R_c_1.cell 1 rfl
    have c_c_2_1 := R_c_1.cell 2 rfl
    have c_c_3_1 := R_c_1.cell 3 rfl
    have c_c_4_1 := R_c_1.cell 4 rfl
    have c_c_5_1 := R_c_1.cell 5 rfl
    have c_c_6_1 := R_c_1.cell 6 rfl
    have c_c_7_1 := R_c_1.cell 7 rfl
    have c_c_8_1 := R_c_1.cell 8 rfl
    have c_c_9_1 := R_c_1.cell 9 rfl
    have l_c_1 := R_c_1.lt
    have HB1 : Below w.heap.size w w1 := by (repeat' (first | (with_reducible exact Below.refl _ _) | (with_reducible assumption) | (with_reducible exact Bw.out (by with_reducible assumption)) | (with_reducible refine bw_alloc ?_ _) | (with_reducible refine bw_step ?_ (by with_reducible assumption)) | (with_reducible refine Below.alloc ?_ ?_ _) | (with_reducible refine Below.drew ?_) | (with_reducible refine below_drewN ?_ _) | (with_reducible refine Below.setCell ?_ ?_ _) | (with_reducible refine below_step ?_ (by with_reducible assumption) ?_) | (with_reducible exact Nat.le_refl _) | omega | (simp; omega) | (simp; done)))
    go_wp2_with fail
    refine bodyPost_ret (v := .tuple #[.agg #[.int .i64 0, .int .i64 0, .int .i64 0, .int .i64 0, .int .i64 0, .slice none 0 0, .int .i64 0, .int .i64 0, .int .i64 0, .slice none 0 0], .int .i64 1]) (by simp [results, Try.results15, go_sem, c_r_0_1, c_r_1_1, c_r_2_1, c_r_3_1, c_r_4_1, c_r_5_1, c_r_6_1, c_r_7_1, c_r_8_1, c_r_9_1, l_r_1]) rfl ⟨rfl, ?_⟩
    (repeat' (first | (with_reducible exact Below.refl _ _) | (with_reducible assumption) | (with_reducible exact Bw.out (by with_reducible assumption)) | (with_reducible refine bw_alloc ?_ _) | (with_reducible refine bw_step ?_ (by with_reducible assumption)) | (with_reducible refine Below.alloc ?_ ?_ _) | (with_reducible refine Below.drew ?_) | (with_reducible refine below_drewN ?_ _) | (with_reducible refine Below.setCell ?_ ?_ _) | (with_reducible refine below_step ?_ (by with_reducible assumption) ?_) | (with_reducible exact Nat.le_refl _) | omega | (simp; omega) | (simp; done)))
  | true =>
    have HV := Lib.hid hv
    cases hd : inR day 0 366 with
    | false =>
      obtain rfl : E = 1 := by rw [← HE.out]; simp [peE, hd]
      clear hv h
      go_enter Try.func15, Try.ntmps15
      go_wp2_with fail
      refine (g_valid_any B ca cn cc pa pm pc _ (HIN.out.below (by (repeat' (first | (with_reducible exact Below.refl _ _) | (with_reducible assumption) | (with_reducible exact Bw.out (by with_reducible assumption)) | (with_reducible refine bw_alloc ?_ _) | (with_reducible refine bw_step ?_ (by with_reducible assumption)) | (with_reducible refine Below.alloc ?_ ?_ _) | (with_reducible refine Below.drew ?_) | (with_reducible refine below_drewN ?_ _) | (with_reducible refine Below.setCell ?_ ?_ _) | (with_reducible refine below_step ?_ (by with_reducible assumption) ?_) | (with_reducible exact Nat.le_refl _) | omega | (simp; omega) | (simp; done))))) true HV.out).mono ?_
      rintro e w1 ⟨rfl, hb1⟩
      have R_b_1 : Row w1 (w.heap.size) [.int .i64 B.id, .int .i64 B.kind, .int .i64 B.rooms, .int .i64 B.fr, .int .i64 B.un, .slice ca cn cc, .int .i64 B.pn, .int .i64 B.pd, .int .i64 B.fee, .slice pa pm pc] := by (repeat' (first | (with_reducible assumption) | (with_reducible refine Row.new' _ _ _ (by first | rfl | (simp; done) | omega)) | (with_reducible refine Row.alloc ?_ _) | (with_reducible refine Row.drew ?_) | (with_reducible refine Row.drewN ?_ _) | (with_reducible refine Row.step ?_ (by with_reducible assumption)) | (with_reducible refine Row.set2' ?_ _ _; first | exact ⟨_, _, by with_reducible assumption⟩ | exact ⟨_, _, Row.alloc (by with_reducible assumption) _⟩ | exact ⟨_, _, Row.alloc (Row.alloc (by with_reducible assumption) _) _⟩) | (with_reducible refine Row.other ?_ (by first | omega | (simp; done) | (simp; omega)) _)))
      have c_b_0_1 := R_b_1.cell 0 rfl
      have c_b_1_1 := R_b_1.cell 1 rfl
      have c_b_2_1 := R_b_1.cell 2 rfl
      have c_b_3_1 := R_b_1.cell 3 rfl
      have c_b_4_1 := R_b_1.cell 4 rfl
      have c_b_5_1 := R_b_1.cell 5 rfl
      have c_b_6_1 := R_b_1.cell 6 rfl
      have c_b_7_1 := R_b_1.cell 7 rfl
      have c_b_8_1 := R_b_1.cell 8 rfl
      have c_b_9_1 := R_b_1.cell 9 rfl
      have l_b_1 := R_b_1.lt
      have R_s_1 : Row w1 (w.heap.size + 1) [.int .i64 (s0), .int .i64 (s1)] := by (repeat' (first | (with_reducible assumption) | (with_reducible refine Row.new' _ _ _ (by first | rfl | (simp; done) | omega)) | (with_reducible refine Row.alloc ?_ _) | (with_reducible refine Row.drew ?_) | (with_reducible refine Row.drewN ?_ _) | (with_reducible refine Row.step ?_ (by with_reducible assumption)) | (with_reducible refine Row.set2' ?_ _ _; first | exact ⟨_, _, by with_reducible assumption⟩ | exact ⟨_, _, Row.alloc (by with_reducible assumption) _⟩ | exact ⟨_, _, Row.alloc (Row.alloc (by with_reducible assumption) _) _⟩) | (with_reducible refine Row.other ?_ (by first | omega | (simp; done) | (simp; omega)) _)))
      have c_s_0_1 := R_s_1.cell 0 rfl
      have c_s_1_1 := R_s_1.cell 1 rfl
      have l_s_1 := R_s_1.lt
      have R_r_1 : Row w1 (w.heap.size + 2) [.int .i64 (0), .int .i64 (0), .int .i64 (0), .int .i64 (0), .int .i64 (0), .slice none 0 0, .int .i64 (0), .int .i64 (0), .int .i64 (0), .slice none 0 0] := by (repeat' (first | (with_reducible assumption) | (with_reducible refine Row.new' _ _ _ (by first | rfl | (simp; done) | omega)) | (with_reducible refine Row.alloc ?_ _) | (with_reducible refine Row.drew ?_) | (with_reducible refine Row.drewN ?_ _) | (with_reducible refine Row.step ?_ (by with_reducible assumption)) | (with_reducible refine Row.set2' ?_ _ _; first | exact ⟨_, _, by with_reducible assumption⟩ | exact ⟨_, _, Row.alloc (by with_reducible assumption) _⟩ | exact ⟨_, _, Row.alloc (Row.alloc (by with_reducible assumption) _) _⟩) | (with_reducible refine Row.other ?_ (by first | omega | (simp; done) | (simp; omega)) _)))
      have c_r_0_1 := R_r_1.cell 0 rfl
      have c_r_1_1 := R_r_1.cell 1 rfl
      have c_r_2_1 := R_r_1.cell 2 rfl
      have c_r_3_1 := R_r_1.cell 3 rfl
      have c_r_4_1 := R_r_1.cell 4 rfl
      have c_r_5_1 := R_r_1.cell 5 rfl
      have c_r_6_1 := R_r_1.cell 6 rfl
      have c_r_7_1 := R_r_1.cell 7 rfl
      have c_r_8_1 := R_r_1.cell 8 rfl
      have c_r_9_1 := R_r_1.cell 9 rfl
      have z_r_0_1 := R_r_1.frozen 0
      have z_r_1_1 := R_r_1.frozen 1
      have z_r_2_1 := R_r_1.frozen 2
      have z_r_3_1 := R_r_1.frozen 3
      have z_r_4_1 := R_r_1.frozen 4
      have z_r_5_1 := R_r_1.frozen 5
      have z_r_6_1 := R_r_1.frozen 6
      have z_r_7_1 := R_r_1.frozen 7
      have z_r_8_1 := R_r_1.frozen 8
      have z_r_9_1 := R_r_1.frozen 9
      have l_r_1 := R_r_1.lt
      have R_c_1 : Row w1 (w.heap.size + 3) [.int .i64 B.id, .int .i64 B.kind, .int .i64 B.rooms, .int .i64 B.fr, .int .i64 B.un, .slice ca cn cc, .int .i64 B.pn, .int .i64 B.pd, .int .i64 B.fee, .slice pa pm pc] := by (repeat' (first | (with_reducible assumption) | (with_reducible refine Row.new' _ _ _ (by first | rfl | (simp; done) | omega)) | (with_reducible refine Row.alloc ?_ _) | (with_reducible refine Row.drew ?_) | (with_reducible refine Row.drewN ?_ _) | (with_reducible refine Row.step ?_ (by with_reducible assumption)) | (with_reducible refine Row.set2' ?_ _ _; first | exact ⟨_, _, by with_reducible assumption⟩ | exact ⟨_, _, Row.alloc (by with_reducible assumption) _⟩ | exact ⟨_, _, Row.alloc (Row.alloc (by with_reducible assumption) _) _⟩) | (with_reducible refine Row.other ?_ (by first | omega | (simp; done) | (simp; omega)) _)))
      have c_c_0_1 := R_c_1.cell 0 rfl
      have c_c_1_1 := R_c_1.cell 1 rfl
      have c_c_2_1 := R_c_1.cell 2 rfl
      have c_c_3_1 := R_c_1.cell 3 rfl
      have c_c_4_1 := R_c_1.cell 4 rfl
      have c_c_5_1 := R_c_1.cell 5 rfl
      have c_c_6_1 := R_c_1.cell 6 rfl
      have c_c_7_1 := R_c_1.cell 7 rfl
      have c_c_8_1 := R_c_1.cell 8 rfl
      have c_c_9_1 := R_c_1.cell 9 rfl
      have l_c_1 := R_c_1.lt
      have HB1 : Below w.heap.size w w1 := by (repeat' (first | (with_reducible exact Below.refl _ _) | (with_reducible assumption) | (with_reducible exact Bw.out (by with_reducible assumption)) | (with_reducible refine bw_alloc ?_ _) | (with_reducible refine bw_step ?_ (by with_reducible assumption)) | (with_reducible refine Below.alloc ?_ ?_ _) | (with_reducible refine Below.drew ?_) | (with_reducible refine below_drewN ?_ _) | (with_reducible refine Below.setCell ?_ ?_ _) | (with_reducible refine below_step ?_ (by with_reducible assumption) ?_) | (with_reducible exact Nat.le_refl _) | omega | (simp; omega) | (simp; done)))
      go_wp2_with fail
      refine (g_isDay day _).mono ?_
      rintro e w' ⟨rfl, rfl⟩
      rw [hd]
      go_wp2_with fail
      refine bodyPost_ret (v := .tuple #[.agg #[.int .i64 0, .int .i64 0, .int .i64 0, .int .i64 0, .int .i64 0, .slice none 0 0, .int .i64 0, .int .i64 0, .int .i64 0, .slice none 0 0], .int .i64 1]) (by simp [results, Try.results15, go_sem, c_r_0_1, c_r_1_1, c_r_2_1, c_r_3_1, c_r_4_1, c_r_5_1, c_r_6_1, c_r_7_1, c_r_8_1, c_r_9_1, l_r_1]) rfl ⟨rfl, ?_⟩
      (repeat' (first | (with_reducible exact Below.refl _ _) | (with_reducible assumption) | (with_reducible exact Bw.out (by with_reducible assumption)) | (with_reducible refine bw_alloc ?_ _) | (with_reducible refine bw_step ?_ (by with_reducible assumption)) | (with_reducible refine Below.alloc ?_ ?_ _) | (with_reducible refine Below.drew ?_) | (with_reducible refine below_drewN ?_ _) | (with_reducible refine Below.setCell ?_ ?_ _) | (with_reducible refine below_step ?_ (by with_reducible assumption) ?_) | (with_reducible exact Nat.le_refl _) | omega | (simp; omega) | (simp; done)))
    | true =>
      by_cases hs : s0 < s1
      · have hE4 : E = 4 := by
          rcases h with rfl | rfl
          · have := HE.out; unfold peE at this; rw [hv, hd, decide_eq_true hs] at this; simp at this; split at this <;> (try split at this) <;> omega
          · rfl
        subst hE4
        have hns : ¬ (B.fr ≤ s0 ∧ s1 ≤ B.un) := by
          intro hh; have := HE.out; unfold peE at this; rw [hv, hd, decide_eq_true hs] at this; simp only [Bool.and_self, if_true] at this; rw [if_pos hh] at this; split at this <;> omega
        have ok := blkB_ok hv
        have o1 := ok.fr
        have o2 := ok.lt
        have o3 := ok.un
        obtain ⟨u1, u2⟩ : -9223372036854775808 ≤ s1 ∧ s1 ≤ 9223372036854775807 := by simpa [Lit.wf, IntKind.min, IntKind.max, IntKind.signed, IntKind.bits] using w1
        obtain ⟨u3, u4⟩ : -9223372036854775808 ≤ s0 ∧ s0 ≤ 9223372036854775807 := by simpa [Lit.wf, IntKind.min, IntKind.max, IntKind.signed, IntKind.bits] using w0
        clear hv h ok w0 w1
        cases h1 : hasB B.fr B.un s0 with
        | false =>
          go_enter Try.func15, Try.ntmps15
          go_wp2_with fail
          refine (g_valid_any B ca cn cc pa pm pc _ (HIN.out.below (by (repeat' (first | (with_reducible exact Below.refl _ _) | (with_reducible assumption) | (with_reducible exact Bw.out (by with_reducible assumption)) | (with_reducible refine bw_alloc ?_ _) | (with_reducible refine bw_step ?_ (by with_reducible assumption)) | (with_reducible refine Below.alloc ?_ ?_ _) | (with_reducible refine Below.drew ?_) | (with_reducible refine below_drewN ?_ _) | (with_reducible refine Below.setCell ?_ ?_ _) | (with_reducible refine below_step ?_ (by with_reducible assumption) ?_) | (with_reducible exact Nat.le_refl _) | omega | (simp; omega) | (simp; done))))) true HV.out).mono ?_
          rintro e w1 ⟨rfl, hb1⟩
          have R_b_1 : Row w1 (w.heap.size) [.int .i64 B.id, .int .i64 B.kind, .int .i64 B.rooms, .int .i64 B.fr, .int .i64 B.un, .slice ca cn cc, .int .i64 B.pn, .int .i64 B.pd, .int .i64 B.fee, .slice pa pm pc] := by (repeat' (first | (with_reducible assumption) | (with_reducible refine Row.new' _ _ _ (by first | rfl | (simp; done) | omega)) | (with_reducible refine Row.alloc ?_ _) | (with_reducible refine Row.drew ?_) | (with_reducible refine Row.drewN ?_ _) | (with_reducible refine Row.step ?_ (by with_reducible assumption)) | (with_reducible refine Row.set2' ?_ _ _; first | exact ⟨_, _, by with_reducible assumption⟩ | exact ⟨_, _, Row.alloc (by with_reducible assumption) _⟩ | exact ⟨_, _, Row.alloc (Row.alloc (by with_reducible assumption) _) _⟩) | (with_reducible refine Row.other ?_ (by first | omega | (simp; done) | (simp; omega)) _)))
          have c_b_0_1 := R_b_1.cell 0 rfl
          have c_b_1_1 := R_b_1.cell 1 rfl
          have c_b_2_1 := R_b_1.cell 2 rfl
          have c_b_3_1 := R_b_1.cell 3 rfl
          have c_b_4_1 := R_b_1.cell 4 rfl
          have c_b_5_1 := R_b_1.cell 5 rfl
          have c_b_6_1 := R_b_1.cell 6 rfl
          have c_b_7_1 := R_b_1.cell 7 rfl
          have c_b_8_1 := R_b_1.cell 8 rfl
          have c_b_9_1 := R_b_1.cell 9 rfl
          have l_b_1 := R_b_1.lt
          have R_s_1 : Row w1 (w.heap.size + 1) [.int .i64 (s0), .int .i64 (s1)] := by (repeat' (first | (with_reducible assumption) | (with_reducible refine Row.new' _ _ _ (by first | rfl | (simp; done) | omega)) | (with_reducible refine Row.alloc ?_ _) | (with_reducible refine Row.drew ?_) | (with_reducible refine Row.drewN ?_ _) | (with_reducible refine Row.step ?_ (by with_reducible assumption)) | (with_reducible refine Row.set2' ?_ _ _; first | exact ⟨_, _, by with_reducible assumption⟩ | exact ⟨_, _, Row.alloc (by with_reducible assumption) _⟩ | exact ⟨_, _, Row.alloc (Row.alloc (by with_reducible assumption) _) _⟩) | (with_reducible refine Row.other ?_ (by first | omega | (simp; done) | (simp; omega)) _)))
          have c_s_0_1 := R_s_1.cell 0 rfl
          have c_s_1_1 := R_s_1.cell 1 rfl
          have l_s_1 := R_s_1.lt
          have R_r_1 : Row w1 (w.heap.size + 2) [.int .i64 (0), .int .i64 (0), .int .i64 (0), .int .i64 (0), .int .i64 (0), .slice none 0 0, .int .i64 (0), .int .i64 (0), .int .i64 (0), .slice none 0 0] := by (repeat' (first | (with_reducible assumption) | (with_reducible refine Row.new' _ _ _ (by first | rfl | (simp; done) | omega)) | (with_reducible refine Row.alloc ?_ _) | (with_reducible refine Row.drew ?_) | (with_reducible refine Row.drewN ?_ _) | (with_reducible refine Row.step ?_ (by with_reducible assumption)) | (with_reducible refine Row.set2' ?_ _ _; first | exact ⟨_, _, by with_reducible assumption⟩ | exact ⟨_, _, Row.alloc (by with_reducible assumption) _⟩ | exact ⟨_, _, Row.alloc (Row.alloc (by with_reducible assumption) _) _⟩) | (with_reducible refine Row.other ?_ (by first | omega | (simp; done) | (simp; omega)) _)))
          have c_r_0_1 := R_r_1.cell 0 rfl
          have c_r_1_1 := R_r_1.cell 1 rfl
          have c_r_2_1 := R_r_1.cell 2 rfl
          have c_r_3_1 := R_r_1.cell 3 rfl
          have c_r_4_1 := R_r_1.cell 4 rfl
          have c_r_5_1 := R_r_1.cell 5 rfl
          have c_r_6_1 := R_r_1.cell 6 rfl
          have c_r_7_1 := R_r_1.cell 7 rfl
          have c_r_8_1 := R_r_1.cell 8 rfl
          have c_r_9_1 := R_r_1.cell 9 rfl
          have z_r_0_1 := R_r_1.frozen 0
          have z_r_1_1 := R_r_1.frozen 1
          have z_r_2_1 := R_r_1.frozen 2
          have z_r_3_1 := R_r_1.frozen 3
          have z_r_4_1 := R_r_1.frozen 4
          have z_r_5_1 := R_r_1.frozen 5
          have z_r_6_1 := R_r_1.frozen 6
          have z_r_7_1 := R_r_1.frozen 7
          have z_r_8_1 := R_r_1.frozen 8
          have z_r_9_1 := R_r_1.frozen 9
          have l_r_1 := R_r_1.lt
          have R_c_1 : Row w1 (w.heap.size + 3) [.int .i64 B.id, .int .i64 B.kind, .int .i64 B.rooms, .int .i64 B.fr, .int .i64 B.un, .slice ca cn cc, .int .i64 B.pn, .int .i64 B.pd, .int .i64 B.fee, .slice pa pm pc] := by (repeat' (first | (with_reducible assumption) | (with_reducible refine Row.new' _ _ _ (by first | rfl | (simp; done) | omega)) | (with_reducible refine Row.alloc ?_ _) | (with_reducible refine Row.drew ?_) | (with_reducible refine Row.drewN ?_ _) | (with_reducible refine Row.step ?_ (by with_reducible assumption)) | (with_reducible refine Row.set2' ?_ _ _; first | exact ⟨_, _, by with_reducible assumption⟩ | exact ⟨_, _, Row.alloc (by with_reducible assumption) _⟩ | exact ⟨_, _, Row.alloc (Row.alloc (by with_reducible assumption) _) _⟩) | (with_reducible refine Row.other ?_ (by first | omega | (simp; done) | (simp; omega)) _)))
          have c_c_0_1 := R_c_1.cell 0 rfl
          have c_c_1_1 := R_c_1.cell 1 rfl
          have c_c_2_1 := R_c_1.cell 2 rfl
          have c_c_3_1 := R_c_1.cell 3 rfl
          have c_c_4_1 := R_c_1.cell 4 rfl
          have c_c_5_1 := R_c_1.cell 5 rfl
          have c_c_6_1 := R_c_1.cell 6 rfl
          have c_c_7_1 := R_c_1.cell 7 rfl
          have c_c_8_1 := R_c_1.cell 8 rfl
          have c_c_9_1 := R_c_1.cell 9 rfl
          have l_c_1 := R_c_1.lt
          have HB1 : Below w.heap.size w w1 := by (repeat' (first | (with_reducible exact Below.refl _ _) | (with_reducible assumption) | (with_reducible exact Bw.out (by with_reducible assumption)) | (with_reducible refine bw_alloc ?_ _) | (with_reducible refine bw_step ?_ (by with_reducible assumption)) | (with_reducible refine Below.alloc ?_ ?_ _) | (with_reducible refine Below.drew ?_) | (with_reducible refine below_drewN ?_ _) | (with_reducible refine Below.setCell ?_ ?_ _) | (with_reducible refine below_step ?_ (by with_reducible assumption) ?_) | (with_reducible exact Nat.le_refl _) | omega | (simp; omega) | (simp; done)))
          go_wp2_with fail
          refine (g_isDay day _).mono ?_
          rintro e w' ⟨rfl, rfl⟩
          rw [hd]
          go_wp2_with fail
          refine (g_has B s0 ca cn cc pa pm pc _ false h1).mono ?_
          rintro e w2 ⟨rfl, hb2⟩
          have R_b_2 : Row w2 (w.heap.size) [.int .i64 B.id, .int .i64 B.kind, .int .i64 B.rooms, .int .i64 B.fr, .int .i64 B.un, .slice ca cn cc, .int .i64 B.pn, .int .i64 B.pd, .int .i64 B.fee, .slice pa pm pc] := by (repeat' (first | (with_reducible assumption) | (with_reducible refine Row.new' _ _ _ (by first | rfl | (simp; done) | omega)) | (with_reducible refine Row.alloc ?_ _) | (with_reducible refine Row.drew ?_) | (with_reducible refine Row.drewN ?_ _) | (with_reducible refine Row.step ?_ (by with_reducible assumption)) | (with_reducible refine Row.set2' ?_ _ _; first | exact ⟨_, _, by with_reducible assumption⟩ | exact ⟨_, _, Row.alloc (by with_reducible assumption) _⟩ | exact ⟨_, _, Row.alloc (Row.alloc (by with_reducible assumption) _) _⟩) | (with_reducible refine Row.other ?_ (by first | omega | (simp; done) | (simp; omega)) _)))
          have c_b_0_2 := R_b_2.cell 0 rfl
          have c_b_1_2 := R_b_2.cell 1 rfl
          have c_b_2_2 := R_b_2.cell 2 rfl
          have c_b_3_2 := R_b_2.cell 3 rfl
          have c_b_4_2 := R_b_2.cell 4 rfl
          have c_b_5_2 := R_b_2.cell 5 rfl
          have c_b_6_2 := R_b_2.cell 6 rfl
          have c_b_7_2 := R_b_2.cell 7 rfl
          have c_b_8_2 := R_b_2.cell 8 rfl
          have c_b_9_2 := R_b_2.cell 9 rfl
          have l_b_2 := R_b_2.lt
          have R_s_2 : Row w2 (w.heap.size + 1) [.int .i64 (s0), .int .i64 (s1)] := by (repeat' (first | (with_reducible assumption) | (with_reducible refine Row.new' _ _ _ (by first | rfl | (simp; done) | omega)) | (with_reducible refine Row.alloc ?_ _) | (with_reducible refine Row.drew ?_) | (with_reducible refine Row.drewN ?_ _) | (with_reducible refine Row.step ?_ (by with_reducible assumption)) | (with_reducible refine Row.set2' ?_ _ _; first | exact ⟨_, _, by with_reducible assumption⟩ | exact ⟨_, _, Row.alloc (by with_reducible assumption) _⟩ | exact ⟨_, _, Row.alloc (Row.alloc (by with_reducible assumption) _) _⟩) | (with_reducible refine Row.other ?_ (by first | omega | (simp; done) | (simp; omega)) _)))
          have c_s_0_2 := R_s_2.cell 0 rfl
          have c_s_1_2 := R_s_2.cell 1 rfl
          have l_s_2 := R_s_2.lt
          have R_r_2 : Row w2 (w.heap.size + 2) [.int .i64 (0), .int .i64 (0), .int .i64 (0), .int .i64 (0), .int .i64 (0), .slice none 0 0, .int .i64 (0), .int .i64 (0), .int .i64 (0), .slice none 0 0] := by (repeat' (first | (with_reducible assumption) | (with_reducible refine Row.new' _ _ _ (by first | rfl | (simp; done) | omega)) | (with_reducible refine Row.alloc ?_ _) | (with_reducible refine Row.drew ?_) | (with_reducible refine Row.drewN ?_ _) | (with_reducible refine Row.step ?_ (by with_reducible assumption)) | (with_reducible refine Row.set2' ?_ _ _; first | exact ⟨_, _, by with_reducible assumption⟩ | exact ⟨_, _, Row.alloc (by with_reducible assumption) _⟩ | exact ⟨_, _, Row.alloc (Row.alloc (by with_reducible assumption) _) _⟩) | (with_reducible refine Row.other ?_ (by first | omega | (simp; done) | (simp; omega)) _)))
          have c_r_0_2 := R_r_2.cell 0 rfl
          have c_r_1_2 := R_r_2.cell 1 rfl
          have c_r_2_2 := R_r_2.cell 2 rfl
          have c_r_3_2 := R_r_2.cell 3 rfl
          have c_r_4_2 := R_r_2.cell 4 rfl
          have c_r_5_2 := R_r_2.cell 5 rfl
          have c_r_6_2 := R_r_2.cell 6 rfl
          have c_r_7_2 := R_r_2.cell 7 rfl
          have c_r_8_2 := R_r_2.cell 8 rfl
          have c_r_9_2 := R_r_2.cell 9 rfl
          have z_r_0_2 := R_r_2.frozen 0
          have z_r_1_2 := R_r_2.frozen 1
          have z_r_2_2 := R_r_2.frozen 2
          have z_r_3_2 := R_r_2.frozen 3
          have z_r_4_2 := R_r_2.frozen 4
          have z_r_5_2 := R_r_2.frozen 5
          have z_r_6_2 := R_r_2.frozen 6
          have z_r_7_2 := R_r_2.frozen 7
          have z_r_8_2 := R_r_2.frozen 8
          have z_r_9_2 := R_r_2.frozen 9
          have l_r_2 := R_r_2.lt
          have R_c_2 : Row w2 (w.heap.size + 3) [.int .i64 B.id, .int .i64 B.kind, .int .i64 B.rooms, .int .i64 B.fr, .int .i64 B.un, .slice ca cn cc, .int .i64 B.pn, .int .i64 B.pd, .int .i64 B.fee, .slice pa pm pc] := by (repeat' (first | (with_reducible assumption) | (with_reducible refine Row.new' _ _ _ (by first | rfl | (simp; done) | omega)) | (with_reducible refine Row.alloc ?_ _) | (with_reducible refine Row.drew ?_) | (with_reducible refine Row.drewN ?_ _) | (with_reducible refine Row.step ?_ (by with_reducible assumption)) | (with_reducible refine Row.set2' ?_ _ _; first | exact ⟨_, _, by with_reducible assumption⟩ | exact ⟨_, _, Row.alloc (by with_reducible assumption) _⟩ | exact ⟨_, _, Row.alloc (Row.alloc (by with_reducible assumption) _) _⟩) | (with_reducible refine Row.other ?_ (by first | omega | (simp; done) | (simp; omega)) _)))
          have c_c_0_2 := R_c_2.cell 0 rfl
          have c_c_1_2 := R_c_2.cell 1 rfl
          have c_c_2_2 := R_c_2.cell 2 rfl
          have c_c_3_2 := R_c_2.cell 3 rfl
          have c_c_4_2 := R_c_2.cell 4 rfl
          have c_c_5_2 := R_c_2.cell 5 rfl
          have c_c_6_2 := R_c_2.cell 6 rfl
          have c_c_7_2 := R_c_2.cell 7 rfl
          have c_c_8_2 := R_c_2.cell 8 rfl
          have c_c_9_2 := R_c_2.cell 9 rfl
          have l_c_2 := R_c_2.lt
          have HB2 : Below w.heap.size w w2 := by (repeat' (first | (with_reducible exact Below.refl _ _) | (with_reducible assumption) | (with_reducible exact Bw.out (by with_reducible assumption)) | (with_reducible refine bw_alloc ?_ _) | (with_reducible refine bw_step ?_ (by with_reducible assumption)) | (with_reducible refine Below.alloc ?_ ?_ _) | (with_reducible refine Below.drew ?_) | (with_reducible refine below_drewN ?_ _) | (with_reducible refine Below.setCell ?_ ?_ _) | (with_reducible refine below_step ?_ (by with_reducible assumption) ?_) | (with_reducible exact Nat.le_refl _) | omega | (simp; omega) | (simp; done)))
          clear R_b_1 c_b_0_1 c_b_1_1 c_b_2_1 c_b_3_1 c_b_4_1 c_b_5_1 c_b_6_1 c_b_7_1 c_b_8_1 c_b_9_1 R_s_1 c_s_0_1 c_s_1_1 R_r_1 c_r_0_1 c_r_1_1 c_r_2_1 c_r_3_1 c_r_4_1 c_r_5_1 c_r_6_1 c_r_7_1 c_r_8_1 c_r_9_1 z_r_0_1 z_r_1_1 z_r_2_1 z_r_3_1 z_r_4_1 z_r_5_1 z_r_6_1 z_r_7_1 z_r_8_1 z_r_9_1 R_c_1 c_c_0_1 c_c_1_1 c_c_2_1 c_c_3_1 c_c_4_1 c_c_5_1 c_c_6_1 c_c_7_1 c_c_8_1 c_c_9_1 hb1 HB1
          go_wp2_with fail
          refine bodyPost_ret (v := .tuple #[.agg #[.int .i64 0, .int .i64 0, .int .i64 0, .int .i64 0, .int .i64 0, .slice none 0 0, .int .i64 0, .int .i64 0, .int .i64 0, .slice none 0 0], .int .i64 4]) (by simp [results, Try.results15, go_sem, c_r_0_2, c_r_1_2, c_r_2_2, c_r_3_2, c_r_4_2, c_r_5_2, c_r_6_2, c_r_7_2, c_r_8_2, c_r_9_2, l_r_2]) rfl ⟨rfl, ?_⟩
          (repeat' (first | (with_reducible exact Below.refl _ _) | (with_reducible assumption) | (with_reducible exact Bw.out (by with_reducible assumption)) | (with_reducible refine bw_alloc ?_ _) | (with_reducible refine bw_step ?_ (by with_reducible assumption)) | (with_reducible refine Below.alloc ?_ ?_ _) | (with_reducible refine Below.drew ?_) | (with_reducible refine below_drewN ?_ _) | (with_reducible refine Below.setCell ?_ ?_ _) | (with_reducible refine below_step ?_ (by with_reducible assumption) ?_) | (with_reducible exact Nat.le_refl _) | omega | (simp; omega) | (simp; done)))
        | true =>
          obtain ⟨v1, v2⟩ := hasB_iff.1 h1
          have h2 : hasB B.fr B.un (s1 - 1) = false := by rw [hasB_not]; omega
          go_enter Try.func15, Try.ntmps15
          go_wp2_with fail
          refine (g_valid_any B ca cn cc pa pm pc _ (HIN.out.below (by (repeat' (first | (with_reducible exact Below.refl _ _) | (with_reducible assumption) | (with_reducible exact Bw.out (by with_reducible assumption)) | (with_reducible refine bw_alloc ?_ _) | (with_reducible refine bw_step ?_ (by with_reducible assumption)) | (with_reducible refine Below.alloc ?_ ?_ _) | (with_reducible refine Below.drew ?_) | (with_reducible refine below_drewN ?_ _) | (with_reducible refine Below.setCell ?_ ?_ _) | (with_reducible refine below_step ?_ (by with_reducible assumption) ?_) | (with_reducible exact Nat.le_refl _) | omega | (simp; omega) | (simp; done))))) true HV.out).mono ?_
          rintro e w1 ⟨rfl, hb1⟩
          have R_b_1 : Row w1 (w.heap.size) [.int .i64 B.id, .int .i64 B.kind, .int .i64 B.rooms, .int .i64 B.fr, .int .i64 B.un, .slice ca cn cc, .int .i64 B.pn, .int .i64 B.pd, .int .i64 B.fee, .slice pa pm pc] := by (repeat' (first | (with_reducible assumption) | (with_reducible refine Row.new' _ _ _ (by first | rfl | (simp; done) | omega)) | (with_reducible refine Row.alloc ?_ _) | (with_reducible refine Row.drew ?_) | (with_reducible refine Row.drewN ?_ _) | (with_reducible refine Row.step ?_ (by with_reducible assumption)) | (with_reducible refine Row.set2' ?_ _ _; first | exact ⟨_, _, by with_reducible assumption⟩ | exact ⟨_, _, Row.alloc (by with_reducible assumption) _⟩ | exact ⟨_, _, Row.alloc (Row.alloc (by with_reducible assumption) _) _⟩) | (with_reducible refine Row.other ?_ (by first | omega | (simp; done) | (simp; omega)) _)))
          have c_b_0_1 := R_b_1.cell 0 rfl
          have c_b_1_1 := R_b_1.cell 1 rfl
          have c_b_2_1 := R_b_1.cell 2 rfl
          have c_b_3_1 := R_b_1.cell 3 rfl
          have c_b_4_1 := R_b_1.cell 4 rfl
          have c_b_5_1 := R_b_1.cell 5 rfl
          have c_b_6_1 := R_b_1.cell 6 rfl
          have c_b_7_1 := R_b_1.cell 7 rfl
          have c_b_8_1 := R_b_1.cell 8 rfl
          have c_b_9_1 := R_b_1.cell 9 rfl
          have l_b_1 := R_b_1.lt
          have R_s_1 : Row w1 (w.heap.size + 1) [.int .i64 (s0), .int .i64 (s1)] := by (repeat' (first | (with_reducible assumption) | (with_reducible refine Row.new' _ _ _ (by first | rfl | (simp; done) | omega)) | (with_reducible refine Row.alloc ?_ _) | (with_reducible refine Row.drew ?_) | (with_reducible refine Row.drewN ?_ _) | (with_reducible refine Row.step ?_ (by with_reducible assumption)) | (with_reducible refine Row.set2' ?_ _ _; first | exact ⟨_, _, by with_reducible assumption⟩ | exact ⟨_, _, Row.alloc (by with_reducible assumption) _⟩ | exact ⟨_, _, Row.alloc (Row.alloc (by with_reducible assumption) _) _⟩) | (with_reducible refine Row.other ?_ (by first | omega | (simp; done) | (simp; omega)) _)))
          have c_s_0_1 := R_s_1.cell 0 rfl
          have c_s_1_1 := R_s_1.cell 1 rfl
          have l_s_1 := R_s_1.lt
          have R_r_1 : Row w1 (w.heap.size + 2) [.int .i64 (0), .int .i64 (0), .int .i64 (0), .int .i64 (0), .int .i64 (0), .slice none 0 0, .int .i64 (0), .int .i64 (0), .int .i64 (0), .slice none 0 0] := by (repeat' (first | (with_reducible assumption) | (with_reducible refine Row.new' _ _ _ (by first | rfl | (simp; done) | omega)) | (with_reducible refine Row.alloc ?_ _) | (with_reducible refine Row.drew ?_) | (with_reducible refine Row.drewN ?_ _) | (with_reducible refine Row.step ?_ (by with_reducible assumption)) | (with_reducible refine Row.set2' ?_ _ _; first | exact ⟨_, _, by with_reducible assumption⟩ | exact ⟨_, _, Row.alloc (by with_reducible assumption) _⟩ | exact ⟨_, _, Row.alloc (Row.alloc (by with_reducible assumption) _) _⟩) | (with_reducible refine Row.other ?_ (by first | omega | (simp; done) | (simp; omega)) _)))
          have c_r_0_1 := R_r_1.cell 0 rfl
          have c_r_1_1 := R_r_1.cell 1 rfl
          have c_r_2_1 := R_r_1.cell 2 rfl
          have c_r_3_1 := R_r_1.cell 3 rfl
          have c_r_4_1 := R_r_1.cell 4 rfl
          have c_r_5_1 := R_r_1.cell 5 rfl
          have c_r_6_1 := R_r_1.cell 6 rfl
          have c_r_7_1 := R_r_1.cell 7 rfl
          have c_r_8_1 := R_r_1.cell 8 rfl
          have c_r_9_1 := R_r_1.cell 9 rfl
          have z_r_0_1 := R_r_1.frozen 0
          have z_r_1_1 := R_r_1.frozen 1
          have z_r_2_1 := R_r_1.frozen 2
          have z_r_3_1 := R_r_1.frozen 3
          have z_r_4_1 := R_r_1.frozen 4
          have z_r_5_1 := R_r_1.frozen 5
          have z_r_6_1 := R_r_1.frozen 6
          have z_r_7_1 := R_r_1.frozen 7
          have z_r_8_1 := R_r_1.frozen 8
          have z_r_9_1 := R_r_1.frozen 9
          have l_r_1 := R_r_1.lt
          have R_c_1 : Row w1 (w.heap.size + 3) [.int .i64 B.id, .int .i64 B.kind, .int .i64 B.rooms, .int .i64 B.fr, .int .i64 B.un, .slice ca cn cc, .int .i64 B.pn, .int .i64 B.pd, .int .i64 B.fee, .slice pa pm pc] := by (repeat' (first | (with_reducible assumption) | (with_reducible refine Row.new' _ _ _ (by first | rfl | (simp; done) | omega)) | (with_reducible refine Row.alloc ?_ _) | (with_reducible refine Row.drew ?_) | (with_reducible refine Row.drewN ?_ _) | (with_reducible refine Row.step ?_ (by with_reducible assumption)) | (with_reducible refine Row.set2' ?_ _ _; first | exact ⟨_, _, by with_reducible assumption⟩ | exact ⟨_, _, Row.alloc (by with_reducible assumption) _⟩ | exact ⟨_, _, Row.alloc (Row.alloc (by with_reducible assumption) _) _⟩) | (with_reducible refine Row.other ?_ (by first | omega | (simp; done) | (simp; omega)) _)))
          have c_c_0_1 := R_c_1.cell 0 rfl
          have c_c_1_1 := R_c_1.cell 1 rfl
          have c_c_2_1 := R_c_1.cell 2 rfl
          have c_c_3_1 := R_c_1.cell 3 rfl
          have c_c_4_1 := R_c_1.cell 4 rfl
          have c_c_5_1 := R_c_1.cell 5 rfl
          have c_c_6_1 := R_c_1.cell 6 rfl
          have c_c_7_1 := R_c_1.cell 7 rfl
          have c_c_8_1 := R_c_1.cell 8 rfl
          have c_c_9_1 := R_c_1.cell 9 rfl
          have l_c_1 := R_c_1.lt
          have HB1 : Below w.heap.size w w1 := by (repeat' (first | (with_reducible exact Below.refl _ _) | (with_reducible assumption) | (with_reducible exact Bw.out (by with_reducible assumption)) | (with_reducible refine bw_alloc ?_ _) | (with_reducible refine bw_step ?_ (by with_reducible assumption)) | (with_reducible refine Below.alloc ?_ ?_ _) | (with_reducible refine Below.drew ?_) | (with_reducible refine below_drewN ?_ _) | (with_reducible refine Below.setCell ?_ ?_ _) | (with_reducible refine below_step ?_ (by with_reducible assumption) ?_) | (with_reducible exact Nat.le_refl _) | omega | (simp; omega) | (simp; done)))
          go_wp2_with fail
          refine (g_isDay day _).mono ?_
          rintro e w' ⟨rfl, rfl⟩
          rw [hd]
          go_wp2_with fail
          refine (g_has B s0 ca cn cc pa pm pc _ true h1).mono ?_
          rintro e w2 ⟨rfl, hb2⟩
          have R_b_2 : Row w2 (w.heap.size) [.int .i64 B.id, .int .i64 B.kind, .int .i64 B.rooms, .int .i64 B.fr, .int .i64 B.un, .slice ca cn cc, .int .i64 B.pn, .int .i64 B.pd, .int .i64 B.fee, .slice pa pm pc] := by (repeat' (first | (with_reducible assumption) | (with_reducible refine Row.new' _ _ _ (by first | rfl | (simp; done) | omega)) | (with_reducible refine Row.alloc ?_ _) | (with_reducible refine Row.drew ?_) | (with_reducible refine Row.drewN ?_ _) | (with_reducible refine Row.step ?_ (by with_reducible assumption)) | (with_reducible refine Row.set2' ?_ _ _; first | exact ⟨_, _, by with_reducible assumption⟩ | exact ⟨_, _, Row.alloc (by with_reducible assumption) _⟩ | exact ⟨_, _, Row.alloc (Row.alloc (by with_reducible assumption) _) _⟩) | (with_reducible refine Row.other ?_ (by first | omega | (simp; done) | (simp; omega)) _)))
          have c_b_0_2 := R_b_2.cell 0 rfl
          have c_b_1_2 := R_b_2.cell 1 rfl
          have c_b_2_2 := R_b_2.cell 2 rfl
          have c_b_3_2 := R_b_2.cell 3 rfl
          have c_b_4_2 := R_b_2.cell 4 rfl
          have c_b_5_2 := R_b_2.cell 5 rfl
          have c_b_6_2 := R_b_2.cell 6 rfl
          have c_b_7_2 := R_b_2.cell 7 rfl
          have c_b_8_2 := R_b_2.cell 8 rfl
          have c_b_9_2 := R_b_2.cell 9 rfl
          have l_b_2 := R_b_2.lt
          have R_s_2 : Row w2 (w.heap.size + 1) [.int .i64 (s0), .int .i64 (s1)] := by (repeat' (first | (with_reducible assumption) | (with_reducible refine Row.new' _ _ _ (by first | rfl | (simp; done) | omega)) | (with_reducible refine Row.alloc ?_ _) | (with_reducible refine Row.drew ?_) | (with_reducible refine Row.drewN ?_ _) | (with_reducible refine Row.step ?_ (by with_reducible assumption)) | (with_reducible refine Row.set2' ?_ _ _; first | exact ⟨_, _, by with_reducible assumption⟩ | exact ⟨_, _, Row.alloc (by with_reducible assumption) _⟩ | exact ⟨_, _, Row.alloc (Row.alloc (by with_reducible assumption) _) _⟩) | (with_reducible refine Row.other ?_ (by first | omega | (simp; done) | (simp; omega)) _)))
          have c_s_0_2 := R_s_2.cell 0 rfl
          have c_s_1_2 := R_s_2.cell 1 rfl
          have l_s_2 := R_s_2.lt
          have R_r_2 : Row w2 (w.heap.size + 2) [.int .i64 (0), .int .i64 (0), .int .i64 (0), .int .i64 (0), .int .i64 (0), .slice none 0 0, .int .i64 (0), .int .i64 (0), .int .i64 (0), .slice none 0 0] := by (repeat' (first | (with_reducible assumption) | (with_reducible refine Row.new' _ _ _ (by first | rfl | (simp; done) | omega)) | (with_reducible refine Row.alloc ?_ _) | (with_reducible refine Row.drew ?_) | (with_reducible refine Row.drewN ?_ _) | (with_reducible refine Row.step ?_ (by with_reducible assumption)) | (with_reducible refine Row.set2' ?_ _ _; first | exact ⟨_, _, by with_reducible assumption⟩ | exact ⟨_, _, Row.alloc (by with_reducible assumption) _⟩ | exact ⟨_, _, Row.alloc (Row.alloc (by with_reducible assumption) _) _⟩) | (with_reducible refine Row.other ?_ (by first | omega | (simp; done) | (simp; omega)) _)))
          have c_r_0_2 := R_r_2.cell 0 rfl
          have c_r_1_2 := R_r_2.cell 1 rfl
          have c_r_2_2 := R_r_2.cell 2 rfl
          have c_r_3_2 := R_r_2.cell 3 rfl
          have c_r_4_2 := R_r_2.cell 4 rfl
          have c_r_5_2 := R_r_2.cell 5 rfl
          have c_r_6_2 := R_r_2.cell 6 rfl
          have c_r_7_2 := R_r_2.cell 7 rfl
          have c_r_8_2 := R_r_2.cell 8 rfl
          have c_r_9_2 := R_r_2.cell 9 rfl
          have z_r_0_2 := R_r_2.frozen 0
          have z_r_1_2 := R_r_2.frozen 1
          have z_r_2_2 := R_r_2.frozen 2
          have z_r_3_2 := R_r_2.frozen 3
          have z_r_4_2 := R_r_2.frozen 4
          have z_r_5_2 := R_r_2.frozen 5
          have z_r_6_2 := R_r_2.frozen 6
          have z_r_7_2 := R_r_2.frozen 7
          have z_r_8_2 := R_r_2.frozen 8
          have z_r_9_2 := R_r_2.frozen 9
          have l_r_2 := R_r_2.lt
          have R_c_2 : Row w2 (w.heap.size + 3) [.int .i64 B.id, .int .i64 B.kind, .int .i64 B.rooms, .int .i64 B.fr, .int .i64 B.un, .slice ca cn cc, .int .i64 B.pn, .int .i64 B.pd, .int .i64 B.fee, .slice pa pm pc] := by (repeat' (first | (with_reducible assumption) | (with_reducible refine Row.new' _ _ _ (by first | rfl | (simp; done) | omega)) | (with_reducible refine Row.alloc ?_ _) | (with_reducible refine Row.drew ?_) | (with_reducible refine Row.drewN ?_ _) | (with_reducible refine Row.step ?_ (by with_reducible assumption)) | (with_reducible refine Row.set2' ?_ _ _; first | exact ⟨_, _, by with_reducible assumption⟩ | exact ⟨_, _, Row.alloc (by with_reducible assumption) _⟩ | exact ⟨_, _, Row.alloc (Row.alloc (by with_reducible assumption) _) _⟩) | (with_reducible refine Row.other ?_ (by first | omega | (simp; done) | (simp; omega)) _)))
          have c_c_0_2 := R_c_2.cell 0 rfl
          have c_c_1_2 := R_c_2.cell 1 rfl
          have c_c_2_2 := R_c_2.cell 2 rfl
          have c_c_3_2 := R_c_2.cell 3 rfl
          have c_c_4_2 := R_c_2.cell 4 rfl
          have c_c_5_2 := R_c_2.cell 5 rfl
          have c_c_6_2 := R_c_2.cell 6 rfl
          have c_c_7_2 := R_c_2.cell 7 rfl
          have c_c_8_2 := R_c_2.cell 8 rfl
          have c_c_9_2 := R_c_2.cell 9 rfl
          have l_c_2 := R_c_2.lt
          have HB2 : Below w.heap.size w w2 := by (repeat' (first | (with_reducible exact Below.refl _ _) | (with_reducible assumption) | (with_reducible exact Bw.out (by with_reducible assumption)) | (with_reducible refine bw_alloc ?_ _) | (with_reducible refine bw_step ?_ (by with_reducible assumption)) | (with_reducible refine Below.alloc ?_ ?_ _) | (with_reducible refine Below.drew ?_) | (with_reducible refine below_drewN ?_ _) | (with_reducible refine Below.setCell ?_ ?_ _) | (with_reducible refine below_step ?_ (by with_reducible assumption) ?_) | (with_reducible exact Nat.le_refl _) | omega | (simp; omega) | (simp; done)))
          clear R_b_1 c_b_0_1 c_b_1_1 c_b_2_1 c_b_3_1 c_b_4_1 c_b_5_1 c_b_6_1 c_b_7_1 c_b_8_1 c_b_9_1 R_s_1 c_s_0_1 c_s_1_1 R_r_1 c_r_0_1 c_r_1_1 c_r_2_1 c_r_3_1 c_r_4_1 c_r_5_1 c_r_6_1 c_r_7_1 c_r_8_1 c_r_9_1 z_r_0_1 z_r_1_1 z_r_2_1 z_r_3_1 z_r_4_1 z_r_5_1 z_r_6_1 z_r_7_1 z_r_8_1 z_r_9_1 R_c_1 c_c_0_1 c_c_1_1 c_c_2_1 c_c_3_1 c_c_4_1 c_c_5_1 c_c_6_1 c_c_7_1 c_c_8_1 c_c_9_1 hb1 HB1
          go_wp2_with fail
          refine (g_has B (s1 - 1) ca cn cc pa pm pc _ false h2).mono ?_
          rintro e w3 ⟨rfl, hb3⟩
          have R_b_3 : Row w3 (w.heap.size) [.int .i64 B.id, .int .i64 B.kind, .int .i64 B.rooms, .int .i64 B.fr, .int .i64 B.un, .slice ca cn cc, .int .i64 B.pn, .int .i64 B.pd, .int .i64 B.fee, .slice pa pm pc] := by (repeat' (first | (with_reducible assumption) | (with_reducible refine Row.new' _ _ _ (by first | rfl | (simp; done) | omega)) | (with_reducible refine Row.alloc ?_ _) | (with_reducible refine Row.drew ?_) | (with_reducible refine Row.drewN ?_ _) | (with_reducible refine Row.step ?_ (by with_reducible assumption)) | (with_reducible refine Row.set2' ?_ _ _; first | exact ⟨_, _, by with_reducible assumption⟩ | exact ⟨_, _, Row.alloc (by with_reducible assumption) _⟩ | exact ⟨_, _, Row.alloc (Row.alloc (by with_reducible assumption) _) _⟩) | (with_reducible refine Row.other ?_ (by first | omega | (simp; done) | (simp; omega)) _)))
          have c_b_0_3 := R_b_3.cell 0 rfl
          have c_b_1_3 := R_b_3.cell 1 rfl
          have c_b_2_3 := R_b_3.cell 2 rfl
          have c_b_3_3 := R_b_3.cell 3 rfl
          have c_b_4_3 := R_b_3.cell 4 rfl
          have c_b_5_3 := R_b_3.cell 5 rfl
          have c_b_6_3 := R_b_3.cell 6 rfl
          have c_b_7_3 := R_b_3.cell 7 rfl
          have c_b_8_3 := R_b_3.cell 8 rfl
          have c_b_9_3 := R_b_3.cell 9 rfl
          have l_b_3 := R_b_3.lt
          have R_s_3 : Row w3 (w.heap.size + 1) [.int .i64 (s0), .int .i64 (s1)] := by (repeat' (first | (with_reducible assumption) | (with_reducible refine Row.new' _ _ _ (by first | rfl | (simp; done) | omega)) | (with_reducible refine Row.alloc ?_ _) | (with_reducible refine Row.drew ?_) | (with_reducible refine Row.drewN ?_ _) | (with_reducible refine Row.step ?_ (by with_reducible assumption)) | (with_reducible refine Row.set2' ?_ _ _; first | exact ⟨_, _, by with_reducible assumption⟩ | exact ⟨_, _, Row.alloc (by with_reducible assumption) _⟩ | exact ⟨_, _, Row.alloc (Row.alloc (by with_reducible assumption) _) _⟩) | (with_reducible refine Row.other ?_ (by first | omega | (simp; done) | (simp; omega)) _)))
          have c_s_0_3 := R_s_3.cell 0 rfl
          have c_s_1_3 := R_s_3.cell 1 rfl
          have l_s_3 := R_s_3.lt
          have R_r_3 : Row w3 (w.heap.size + 2) [.int .i64 (0), .int .i64 (0), .int .i64 (0), .int .i64 (0), .int .i64 (0), .slice none 0 0, .int .i64 (0), .int .i64 (0), .int .i64 (0), .slice none 0 0] := by (repeat' (first | (with_reducible assumption) | (with_reducible refine Row.new' _ _ _ (by first | rfl | (simp; done) | omega)) | (with_reducible refine Row.alloc ?_ _) | (with_reducible refine Row.drew ?_) | (with_reducible refine Row.drewN ?_ _) | (with_reducible refine Row.step ?_ (by with_reducible assumption)) | (with_reducible refine Row.set2' ?_ _ _; first | exact ⟨_, _, by with_reducible assumption⟩ | exact ⟨_, _, Row.alloc (by with_reducible assumption) _⟩ | exact ⟨_, _, Row.alloc (Row.alloc (by with_reducible assumption) _) _⟩) | (with_reducible refine Row.other ?_ (by first | omega | (simp; done) | (simp; omega)) _)))
          have c_r_0_3 := R_r_3.cell 0 rfl
          have c_r_1_3 := R_r_3.cell 1 rfl
          have c_r_2_3 := R_r_3.cell 2 rfl
          have c_r_3_3 := R_r_3.cell 3 rfl
          have c_r_4_3 := R_r_3.cell 4 rfl
          have c_r_5_3 := R_r_3.cell 5 rfl
          have c_r_6_3 := R_r_3.cell 6 rfl
          have c_r_7_3 := R_r_3.cell 7 rfl
          have c_r_8_3 := R_r_3.cell 8 rfl
          have c_r_9_3 := R_r_3.cell 9 rfl
          have z_r_0_3 := R_r_3.frozen 0
          have z_r_1_3 := R_r_3.frozen 1
          have z_r_2_3 := R_r_3.frozen 2
          have z_r_3_3 := R_r_3.frozen 3
          have z_r_4_3 := R_r_3.frozen 4
          have z_r_5_3 := R_r_3.frozen 5
          have z_r_6_3 := R_r_3.frozen 6
          have z_r_7_3 := R_r_3.frozen 7
          have z_r_8_3 := R_r_3.frozen 8
          have z_r_9_3 := R_r_3.frozen 9
          have l_r_3 := R_r_3.lt
          have R_c_3 : Row w3 (w.heap.size + 3) [.int .i64 B.id, .int .i64 B.kind, .int .i64 B.rooms, .int .i64 B.fr, .int .i64 B.un, .slice ca cn cc, .int .i64 B.pn, .int .i64 B.pd, .int .i64 B.fee, .slice pa pm pc] := by (repeat' (first | (with_reducible assumption) | (with_reducible refine Row.new' _ _ _ (by first | rfl | (simp; done) | omega)) | (with_reducible refine Row.alloc ?_ _) | (with_reducible refine Row.drew ?_) | (with_reducible refine Row.drewN ?_ _) | (with_reducible refine Row.step ?_ (by with_reducible assumption)) | (with_reducible refine Row.set2' ?_ _ _; first | exact ⟨_, _, by with_reducible assumption⟩ | exact ⟨_, _, Row.alloc (by with_reducible assumption) _⟩ | exact ⟨_, _, Row.alloc (Row.alloc (by with_reducible assumption) _) _⟩) | (with_reducible refine Row.other ?_ (by first | omega | (simp; done) | (simp; omega)) _)))
          have c_c_0_3 := R_c_3.cell 0 rfl
          have c_c_1_3 := R_c_3.cell 1 rfl
          have c_c_2_3 := R_c_3.cell 2 rfl
          have c_c_3_3 := R_c_3.cell 3 rfl
          have c_c_4_3 := R_c_3.cell 4 rfl
          have c_c_5_3 := R_c_3.cell 5 rfl
          have c_c_6_3 := R_c_3.cell 6 rfl
          have c_c_7_3 := R_c_3.cell 7 rfl
          have c_c_8_3 := R_c_3.cell 8 rfl
          have c_c_9_3 := R_c_3.cell 9 rfl
          have l_c_3 := R_c_3.lt
          have HB3 : Below w.heap.size w w3 := by (repeat' (first | (with_reducible exact Below.refl _ _) | (with_reducible assumption) | (with_reducible exact Bw.out (by with_reducible assumption)) | (with_reducible refine bw_alloc ?_ _) | (with_reducible refine bw_step ?_ (by with_reducible assumption)) | (with_reducible refine Below.alloc ?_ ?_ _) | (with_reducible refine Below.drew ?_) | (with_reducible refine below_drewN ?_ _) | (with_reducible refine Below.setCell ?_ ?_ _) | (with_reducible refine below_step ?_ (by with_reducible assumption) ?_) | (with_reducible exact Nat.le_refl _) | omega | (simp; omega) | (simp; done)))
          clear R_b_2 c_b_0_2 c_b_1_2 c_b_2_2 c_b_3_2 c_b_4_2 c_b_5_2 c_b_6_2 c_b_7_2 c_b_8_2 c_b_9_2 R_s_2 c_s_0_2 c_s_1_2 R_r_2 c_r_0_2 c_r_1_2 c_r_2_2 c_r_3_2 c_r_4_2 c_r_5_2 c_r_6_2 c_r_7_2 c_r_8_2 c_r_9_2 z_r_0_2 z_r_1_2 z_r_2_2 z_r_3_2 z_r_4_2 z_r_5_2 z_r_6_2 z_r_7_2 z_r_8_2 z_r_9_2 R_c_2 c_c_0_2 c_c_1_2 c_c_2_2 c_c_3_2 c_c_4_2 c_c_5_2 c_c_6_2 c_c_7_2 c_c_8_2 c_c_9_2 hb2 HB2
          go_wp2_with fail
          refine bodyPost_ret (v := .tuple #[.agg #[.int .i64 0, .int .i64 0, .int .i64 0, .int .i64 0, .int .i64 0, .slice none 0 0, .int .i64 0, .int .i64 0, .int .i64 0, .slice none 0 0], .int .i64 4]) (by simp [results, Try.results15, go_sem, c_r_0_3, c_r_1_3, c_r_2_3, c_r_3_3, c_r_4_3, c_r_5_3, c_r_6_3, c_r_7_3, c_r_8_3, c_r_9_3, l_r_3]) rfl ⟨rfl, ?_⟩
          (repeat' (first | (with_reducible exact Below.refl _ _) | (with_reducible assumption) | (with_reducible exact Bw.out (by with_reducible assumption)) | (with_reducible refine bw_alloc ?_ _) | (with_reducible refine bw_step ?_ (by with_reducible assumption)) | (with_reducible refine Below.alloc ?_ ?_ _) | (with_reducible refine Below.drew ?_) | (with_reducible refine below_drewN ?_ _) | (with_reducible refine Below.setCell ?_ ?_ _) | (with_reducible refine below_step ?_ (by with_reducible assumption) ?_) | (with_reducible exact Nat.le_refl _) | omega | (simp; omega) | (simp; done)))
      · obtain rfl : E = 1 := by rw [← HE.out]; unfold peE; rw [decide_eq_false hs]; simp
        have hs2 : s1 ≤ s0 := by omega
        clear hv h hs
        go_enter Try.func15, Try.ntmps15
        go_wp2_with fail
        refine (g_valid_any B ca cn cc pa pm pc _ (HIN.out.below (by (repeat' (first | (with_reducible exact Below.refl _ _) | (with_reducible assumption) | (with_reducible exact Bw.out (by with_reducible assumption)) | (with_reducible refine bw_alloc ?_ _) | (with_reducible refine bw_step ?_ (by with_reducible assumption)) | (with_reducible refine Below.alloc ?_ ?_ _) | (with_reducible refine Below.drew ?_) | (with_reducible refine below_drewN ?_ _) | (with_reducible refine Below.setCell ?_ ?_ _) | (with_reducible refine below_step ?_ (by with_reducible assumption) ?_) | (with_reducible exact Nat.le_refl _) | omega | (simp; omega) | (simp; done))))) true HV.out).mono ?_
        rintro e w1 ⟨rfl, hb1⟩
        have R_b_1 : Row w1 (w.heap.size) [.int .i64 B.id, .int .i64 B.kind, .int .i64 B.rooms, .int .i64 B.fr, .int .i64 B.un, .slice ca cn cc, .int .i64 B.pn, .int .i64 B.pd, .int .i64 B.fee, .slice pa pm pc] := by (repeat' (first | (with_reducible assumption) | (with_reducible refine Row.new' _ _ _ (by first | rfl | (simp; done) | omega)) | (with_reducible refine Row.alloc ?_ _) | (with_reducible refine Row.drew ?_) | (with_reducible refine Row.drewN ?_ _) | (with_reducible refine Row.step ?_ (by with_reducible assumption)) | (with_reducible refine Row.set2' ?_ _ _; first | exact ⟨_, _, by with_reducible assumption⟩ | exact ⟨_, _, Row.alloc (by with_reducible assumption) _⟩ | exact ⟨_, _, Row.alloc (Row.alloc (by with_reducible assumption) _) _⟩) | (with_reducible refine Row.other ?_ (by first | omega | (simp; done) | (simp; omega)) _)))
        have c_b_0_1 := R_b_1.cell 0 rfl
        have c_b_1_1 := R_b_1.cell 1 rfl
        have c_b_2_1 := R_b_1.cell 2 rfl
        have c_b_3_1 := R_b_1.cell 3 rfl
        have c_b_4_1 := R_b_1.cell 4 rfl
        have c_b_5_1 := R_b_1.cell 5 rfl
        have c_b_6_1 := R_b_1.cell 6 rfl
        have c_b_7_1 := R_b_1.cell 7 rfl
        have c_b_8_1 := R_b_1.cell 8 rfl
        have c_b_9_1 := R_b_1.cell 9 rfl
        have l_b_1 := R_b_1.lt
        have R_s_1 : Row w1 (w.heap.size + 1) [.int .i64 (s0), .int .i64 (s1)] := by (repeat' (first | (with_reducible assumption) | (with_reducible refine Row.new' _ _ _ (by first | rfl | (simp; done) | omega)) | (with_reducible refine Row.alloc ?_ _) | (with_reducible refine Row.drew ?_) | (with_reducible refine Row.drewN ?_ _) | (with_reducible refine Row.step ?_ (by with_reducible assumption)) | (with_reducible refine Row.set2' ?_ _ _; first | exact ⟨_, _, by with_reducible assumption⟩ | exact ⟨_, _, Row.alloc (by with_reducible assumption) _⟩ | exact ⟨_, _, Row.alloc (Row.alloc (by with_reducible assumption) _) _⟩) | (with_reducible refine Row.other ?_ (by first | omega | (simp; done) | (simp; omega)) _)))
        have c_s_0_1 := R_s_1.cell 0 rfl
        have c_s_1_1 := R_s_1.cell 1 rfl
        have l_s_1 := R_s_1.lt
        have R_r_1 : Row w1 (w.heap.size + 2) [.int .i64 (0), .int .i64 (0), .int .i64 (0), .int .i64 (0), .int .i64 (0), .slice none 0 0, .int .i64 (0), .int .i64 (0), .int .i64 (0), .slice none 0 0] := by (repeat' (first | (with_reducible assumption) | (with_reducible refine Row.new' _ _ _ (by first | rfl | (simp; done) | omega)) | (with_reducible refine Row.alloc ?_ _) | (with_reducible refine Row.drew ?_) | (with_reducible refine Row.drewN ?_ _) | (with_reducible refine Row.step ?_ (by with_reducible assumption)) | (with_reducible refine Row.set2' ?_ _ _; first | exact ⟨_, _, by with_reducible assumption⟩ | exact ⟨_, _, Row.alloc (by with_reducible assumption) _⟩ | exact ⟨_, _, Row.alloc (Row.alloc (by with_reducible assumption) _) _⟩) | (with_reducible refine Row.other ?_ (by first | omega | (simp; done) | (simp; omega)) _)))
        have c_r_0_1 := R_r_1.cell 0 rfl
        have c_r_1_1 := R_r_1.cell 1 rfl
        have c_r_2_1 := R_r_1.cell 2 rfl
        have c_r_3_1 := R_r_1.cell 3 rfl
        have c_r_4_1 := R_r_1.cell 4 rfl
        have c_r_5_1 := R_r_1.cell 5 rfl
        have c_r_6_1 := R_r_1.cell 6 rfl
        have c_r_7_1 := R_r_1.cell 7 rfl
        have c_r_8_1 := R_r_1.cell 8 rfl
        have c_r_9_1 := R_r_1.cell 9 rfl
        have z_r_0_1 := R_r_1.frozen 0
        have z_r_1_1 := R_r_1.frozen 1
        have z_r_2_1 := R_r_1.frozen 2
        have z_r_3_1 := R_r_1.frozen 3
        have z_r_4_1 := R_r_1.frozen 4
        have z_r_5_1 := R_r_1.frozen 5
        have z_r_6_1 := R_r_1.frozen 6
        have z_r_7_1 := R_r_1.frozen 7
        have z_r_8_1 := R_r_1.frozen 8
        have z_r_9_1 := R_r_1.frozen 9
        have l_r_1 := R_r_1.lt
        have R_c_1 : Row w1 (w.heap.size + 3) [.int .i64 B.id, .int .i64 B.kind, .int .i64 B.rooms, .int .i64 B.fr, .int .i64 B.un, .slice ca cn cc, .int .i64 B.pn, .int .i64 B.pd, .int .i64 B.fee, .slice pa pm pc] := by (repeat' (first | (with_reducible assumption) | (with_reducible refine Row.new' _ _ _ (by first | rfl | (simp; done) | omega)) | (with_reducible refine Row.alloc ?_ _) | (with_reducible refine Row.drew ?_) | (with_reducible refine Row.drewN ?_ _) | (with_reducible refine Row.step ?_ (by with_reducible assumption)) | (with_reducible refine Row.set2' ?_ _ _; first | exact ⟨_, _, by with_reducible assumption⟩ | exact ⟨_, _, Row.alloc (by with_reducible assumption) _⟩ | exact ⟨_, _, Row.alloc (Row.alloc (by with_reducible assumption) _) _⟩) | (with_reducible refine Row.other ?_ (by first | omega | (simp; done) | (simp; omega)) _)))
        have c_c_0_1 := R_c_1.cell 0 rfl
        have c_c_1_1 := R_c_1.cell 1 rfl
        have c_c_2_1 := R_c_1.cell 2 rfl
        have c_c_3_1 := R_c_1.cell 3 rfl
        have c_c_4_1 := R_c_1.cell 4 rfl
        have c_c_5_1 := R_c_1.cell 5 rfl
        have c_c_6_1 := R_c_1.cell 6 rfl
        have c_c_7_1 := R_c_1.cell 7 rfl
        have c_c_8_1 := R_c_1.cell 8 rfl
        have c_c_9_1 := R_c_1.cell 9 rfl
        have l_c_1 := R_c_1.lt
        have HB1 : Below w.heap.size w w1 := by (repeat' (first | (with_reducible exact Below.refl _ _) | (with_reducible assumption) | (with_reducible exact Bw.out (by with_reducible assumption)) | (with_reducible refine bw_alloc ?_ _) | (with_reducible refine bw_step ?_ (by with_reducible assumption)) | (with_reducible refine Below.alloc ?_ ?_ _) | (with_reducible refine Below.drew ?_) | (with_reducible refine below_drewN ?_ _) | (with_reducible refine Below.setCell ?_ ?_ _) | (with_reducible refine below_step ?_ (by with_reducible assumption) ?_) | (with_reducible exact Nat.le_refl _) | omega | (simp; omega) | (simp; done)))
        go_wp2_with fail
        refine (g_isDay day _).mono ?_
        rintro e w' ⟨rfl, rfl⟩
        rw [hd]
        go_wp2_with fail
        refine bodyPost_ret (v := .tuple #[.agg #[.int .i64 0, .int .i64 0, .int .i64 0, .int .i64 0, .int .i64 0, .slice none 0 0, .int .i64 0, .int .i64 0, .int .i64 0, .slice none 0 0], .int .i64 1]) (by simp [results, Try.results15, go_sem, c_r_0_1, c_r_1_1, c_r_2_1, c_r_3_1, c_r_4_1, c_r_5_1, c_r_6_1, c_r_7_1, c_r_8_1, c_r_9_1, l_r_1]) rfl ⟨rfl, ?_⟩
        (repeat' (first | (with_reducible exact Below.refl _ _) | (with_reducible assumption) | (with_reducible exact Bw.out (by with_reducible assumption)) | (with_reducible refine bw_alloc ?_ _) | (with_reducible refine bw_step ?_ (by with_reducible assumption)) | (with_reducible refine Below.alloc ?_ ?_ _) | (with_reducible refine Below.drew ?_) | (with_reducible refine below_drewN ?_ _) | (with_reducible refine Below.setCell ?_ ?_ _) | (with_reducible refine below_step ?_ (by with_reducible assumption) ?_) | (with_reducible exact Nat.le_refl _) | omega | (simp; omega) | (simp; done)))

end Go.Proofs.Ytjmlkdopbiedaaa
