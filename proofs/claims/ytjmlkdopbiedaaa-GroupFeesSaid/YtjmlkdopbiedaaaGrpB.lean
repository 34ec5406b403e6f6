/-
  The walks of package group, first part: slices of cuts; within, isPart, isDay, has, picked.
-/
import Derived.Test.YtjmlkdopbiedaaaRatPt
import Derived.Test.YtjmlkdopbiedaaaGrpA
import Derived.Test.YtjmlkdopbiedaaaSlice
import Derived.Test.YtjmlkdopbiedaaaBase2
namespace Go.Proofs.Ytjmlkdopbiedaaa
set_option linter.unusedSimpArgs false
set_option linter.unusedVariables false
open Go.RowKit

/-- The slice of length n at address a holds the triples l. -/
def Sl3 (w : World) (a : Option Addr) (n : Nat) (l : List CutV) : Prop :=
  l.length = n ∧ ∀ i x, l[i]? = some x → ∃ b off, a = some ⟨b, off, none⟩ ∧
    w.cell? ⟨b, off + i * 3, none⟩ = some (.int .i64 x.1) ∧ w.cell? ⟨b, off + i * 3 + 1, none⟩ = some (.int .i64 x.2.1) ∧ w.cell? ⟨b, off + i * 3 + 2, none⟩ = some (.int .i64 x.2.2)
theorem Sl3.nil (w : World) (a : Option Addr) : Sl3 w a 0 [] := ⟨rfl, fun i x h => by simp at h⟩
theorem Sl3.below {w w1 : World} {a : Option Addr} {n : Nat} {l : List CutV} (h : Sl3 w a n l) (hb : Below w.heap.size w w1) : Sl3 w1 a n l := by
  refine ⟨h.1, fun i x hx => ?_⟩
  obtain ⟨b, off, ha, h1, h2, h3⟩ := h.2 i x hx
  have hlt : b < w.heap.size := World.block_lt_of_cell? w _ h1
  exact ⟨b, off, ha, (hb.cell (p := ⟨b, off + i * 3, none⟩) hlt).trans h1, (hb.cell (p := ⟨b, off + i * 3 + 1, none⟩) hlt).trans h2, (hb.cell (p := ⟨b, off + i * 3 + 2, none⟩) hlt).trans h3⟩
theorem Sl3.get {w : World} {a : Option Addr} {n : Nat} {l : List CutV} (h : Sl3 w a n l) {i : Nat} (hi : i < n) :
    ∃ (d kn kd : Int) (b off : Nat), Hid (l.getD i cut0 = (d, kn, kd)) ∧ Hid (l.drop i = (d, kn, kd) :: l.drop (i + 1)) ∧ Hid (l[i]? = some (d, kn, kd)) ∧ a = some ⟨b, off, none⟩ ∧ b < w.heap.size ∧
      w.cell? ⟨b, off + i * 3, none⟩ = some (.int .i64 d) ∧ w.cell? ⟨b, off + i * 3 + 1, none⟩ = some (.int .i64 kn) ∧ w.cell? ⟨b, off + i * 3 + 2, none⟩ = some (.int .i64 kd) := by
  have hl := h.1
  have hx : l[i]? = some l[i] := List.getElem?_eq_getElem (by omega)
  obtain ⟨b, off, ha, h1, h2, h3⟩ := h.2 i _ hx
  exact ⟨l[i].1, l[i].2.1, l[i].2.2, b, off, by show _ = _; simp [List.getD, show i < l.length by omega], List.drop_eq_getElem_cons (by omega), hx, ha, World.block_lt_of_cell? w _ h1, h1, h2, h3⟩

/-- The two slices of a block hold its cuts and its nights. -/
structure BlkIn (w : World) (B : Blk) (ca : Option Addr) (cn cc : Nat) (pa : Option Addr) (pm pc : Nat) : Prop where
  cuts : Sl3 w ca cn B.cuts
  picked : SlI w pa pm B.picked
  ccap : cn ≤ cc ∧ cc ≤ 9223372036854775807
  pcap : pm ≤ pc ∧ pc ≤ 9223372036854775807
theorem BlkIn.below {w w1 : World} {B : Blk} {ca : Option Addr} {cn cc : Nat} {pa : Option Addr} {pm pc : Nat} (h : BlkIn w B ca cn cc pa pm pc) (hb : Below w.heap.size w w1) : BlkIn w1 B ca cn cc pa pm pc :=
  ⟨h.cuts.below hb, h.picked.below hb, h.ccap, h.pcap⟩

set_option maxHeartbeats 800000 in
theorem g_within (n lo hi : Int) (w : World) :
    Calls Try.prog 30 #[.int .i64 n, .int .i64 lo, .int .i64 hi] w fun e w' => e = .returned (.bool (inR n lo hi)) ∧ w = w' := by
  unfold inR
  by_cases h1 : lo ≤ n
  · by_cases h2 : n ≤ hi
    · go_enter Try.func30, Try.ntmps30
      go_wp2_with fail
      go_ret
      exact ⟨ret_bool (by simp [h1, h2]), rfl⟩
    · go_enter Try.func30, Try.ntmps30
      go_wp2_with fail
      go_ret
      exact ⟨ret_bool (by simp [h1, h2]), rfl⟩
  · go_enter Try.func30, Try.ntmps30
    go_wp2_with fail
    go_ret
    exact ⟨ret_bool (by first | (simp; omega) | (simp [h1]; done)), rfl⟩

theorem g_isDay (n : Int) (w : World) :
    Calls Try.prog 25 #[.int .i64 n] w fun e w' => e = .returned (.bool (inR n 0 366)) ∧ w = w' := by
  go_enter Try.func25, Try.ntmps25
  go_wp2_with fail
  refine (g_within _ _ _ _).mono ?_
  rintro e w' ⟨rfl, rfl⟩
  go_wp2_with fail
  go_ret
  exact ⟨rfl, rfl⟩

set_option maxHeartbeats 800000 in
theorem g_isPart (n d : Int) (w : World) :
    Calls Try.prog 31 #[.agg #[.int .i64 n, .int .i64 d]] w fun e w' => e = .returned (.bool (partB n d)) ∧ Below w.heap.size w w' := by
  unfold partB
  cases hv : vld n d with
  | false =>
    go_enter Try.func31, Try.ntmps31
    go_wp2_with fail
    refine (valid_any n d _).mono ?_
    rintro e w1 ⟨rfl, hb1⟩
    have R_r_1 : Row w1 (w.heap.size) [.int .i64 (n), .int .i64 (d)] := by (repeat' (first | (with_reducible assumption) | (with_reducible refine Row.new' _ _ _ (by first | rfl | (simp; done) | omega)) | (with_reducible refine Row.alloc ?_ _) | (with_reducible refine Row.drew ?_) | (with_reducible refine Row.drewN ?_ _) | (with_reducible refine Row.step ?_ (by with_reducible assumption)) | (with_reducible refine Row.set2' ?_ _ _; first | exact ⟨_, _, by with_reducible assumption⟩ | exact ⟨_, _, Row.alloc (by with_reducible assumption) _⟩ | exact ⟨_, _, Row.alloc (Row.alloc (by with_reducible assumption) _) _⟩) | (with_reducible refine Row.other ?_ (by first | omega | (simp; done) | (simp; omega)) _)))
    have c_r_0_1 := R_r_1.cell 0 rfl
    have c_r_1_1 := R_r_1.cell 1 rfl
    have l_r_1 := R_r_1.lt
    have HB1 : Below w.heap.size w w1 := by (repeat' (first | (with_reducible exact Below.refl _ _) | (with_reducible assumption) | (with_reducible exact Bw.out (by with_reducible assumption)) | (with_reducible refine bw_alloc ?_ _) | (with_reducible refine bw_step ?_ (by with_reducible assumption)) | (with_reducible refine Below.alloc ?_ ?_ _) | (with_reducible refine Below.drew ?_) | (with_reducible refine below_drewN ?_ _) | (with_reducible refine Below.setCell ?_ ?_ _) | (with_reducible refine below_step ?_ (by with_reducible assumption) ?_) | (with_reducible exact Nat.le_refl _) | omega | (simp; omega) | (simp; done)))
    rw [hv]
    go_wp2_with fail
    go_ret
    refine ⟨(by first | rfl | exact ret_bool (by first | rfl | (simp; done) | (simp; omega))), ?_⟩
    (repeat' (first | (with_reducible exact Below.refl _ _) | (with_reducible assumption) | (with_reducible exact Bw.out (by with_reducible assumption)) | (with_reducible refine bw_alloc ?_ _) | (with_reducible refine bw_step ?_ (by with_reducible assumption)) | (with_reducible refine Below.alloc ?_ ?_ _) | (with_reducible refine Below.drew ?_) | (with_reducible refine below_drewN ?_ _) | (with_reducible refine Below.setCell ?_ ?_ _) | (with_reducible refine below_step ?_ (by with_reducible assumption) ?_) | (with_reducible exact Nat.le_refl _) | omega | (simp; omega) | (simp; done)))
  | true =>
    obtain ⟨b, hb⟩ : ∃ b, inR n 0 d = b := ⟨_, rfl⟩
    have HBB := Lib.hid hb
    rw [hb]
    clear hb
    go_enter Try.func31, Try.ntmps31
    go_wp2_with fail
    refine (valid_any n d _).mono ?_
    rintro e w1 ⟨rfl, hb1⟩
    have R_r_1 : Row w1 (w.heap.size) [.int .i64 (n), .int .i64 (d)] := by (repeat' (first | (with_reducible assumption) | (with_reducible refine Row.new' _ _ _ (by first | rfl | (simp; done) | omega)) | (with_reducible refine Row.alloc ?_ _) | (with_reducible refine Row.drew ?_) | (with_reducible refine Row.drewN ?_ _) | (with_reducible refine Row.step ?_ (by with_reducible assumption)) | (with_reducible refine Row.set2' ?_ _ _; first | exact ⟨_, _, by with_reducible assumption⟩ | exact ⟨_, _, Row.alloc (by with_reducible assumption) _⟩ | exact ⟨_, _, Row.alloc (Row.alloc (by with_reducible assumption) _) _⟩) | (with_reducible refine Row.other ?_ (by first | omega | (simp; done) | (simp; omega)) _)))
    have c_r_0_1 := R_r_1.cell 0 rfl
    have c_r_1_1 := R_r_1.cell 1 rfl
    have l_r_1 := R_r_1.lt
    have HB1 : Below w.heap.size w w1 := by (repeat' (first | (with_reducible exact Below.refl _ _) | (with_reducible assumption) | (with_reducible exact Bw.out (by with_reducible assumption)) | (with_reducible refine bw_alloc ?_ _) | (with_reducible refine bw_step ?_ (by with_reducible assumption)) | (with_reducible refine Below.alloc ?_ ?_ _) | (with_reducible refine Below.drew ?_) | (with_reducible refine below_drewN ?_ _) | (with_reducible refine Below.setCell ?_ ?_ _) | (with_reducible refine below_step ?_ (by with_reducible assumption) ?_) | (with_reducible exact Nat.le_refl _) | omega | (simp; omega) | (simp; done)))
    rw [hv]
    go_wp2_with fail
    refine (g_within n 0 d _).mono ?_
    rintro e w' ⟨rfl, rfl⟩
    rw [HBB.out]
    go_wp2_with fail
    go_ret
    refine ⟨(by first | rfl | exact ret_bool (by first | rfl | (simp; done) | (simp; omega))), ?_⟩
    (repeat' (first | (with_reducible exact Below.refl _ _) | (with_reducible assumption) | (with_reducible exact Bw.out (by with_reducible assumption)) | (with_reducible refine bw_alloc ?_ _) | (with_reducible refine bw_step ?_ (by with_reducible assumption)) | (with_reducible refine Below.alloc ?_ ?_ _) | (with_reducible refine Below.drew ?_) | (with_reducible refine below_drewN ?_ _) | (with_reducible refine Below.setCell ?_ ?_ _) | (with_reducible refine below_step ?_ (by with_reducible assumption) ?_) | (with_reducible exact Nat.le_refl _) | omega | (simp; omega) | (simp; done)))

end Go.Proofs.Ytjmlkdopbiedaaa
