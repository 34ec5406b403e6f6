/-
  The walks of package share, fourth part: Sell and Grant.
-/
import Derived.Test.YtijbhdpaikajkaaShareC
import Derived.Deep.DeepCutAuto
namespace Go.Proofs.Ytijbhdpaikajkaa
set_option linter.unusedSimpArgs false
set_option linter.unusedVariables false
open Go.RowKit

theorem Row.set3 {w : World} {b : Nat} {x0 x1 x2 : Value} (h : Row w b [x0, x1, x2]) (v0 v1 v2 : Value) : Row (((w.setCell ⟨b, 0, none⟩ v0).setCell ⟨b, 1, none⟩ v1).setCell ⟨b, 2, none⟩ v2) b [v0, v1, v2] := by
  obtain ⟨T, h⟩ := h
  refine ⟨T, ?_⟩
  simp [World.setCell, Array.getElem?_modify, h]

/-- The block of v' is v's, or was made since. -/
def FromV (B : Nat) (v v' : Value) : Prop := ∀ g, v'.ownBlock = some g → B ≤ g ∨ v.ownBlock = some g
theorem FromV.nil (B : Nat) (v : Value) : FromV B v (.slice none 0 0) := fun g h => by cases h
theorem FromV.same (B : Nat) (v : Value) : FromV B v v := fun g h => Or.inr h
theorem FromV.new {B g n cap : Nat} (v : Value) (h : B ≤ g) : FromV B v (.slice (some ⟨g, 0, none⟩) n cap) := fun g' e => by cases e; exact Or.inl h

/-- What Sell returns: its error, and the night. -/
def seE (rooms sold : Int) (zs : List Int) (ch r : Int) : Int :=
  if nightB rooms sold zs = true ∧ (ch = -1 ∨ (0 ≤ ch ∧ ch < zs.length)) ∧ 0 ≤ r ∧ r ≤ 1000 then
    (if ch ≠ -1 ∧ zs.getD ch.toNat 0 < r then 31 else if 1000 < sold + r then 3 else 0) else 1
def seR (e rooms : Int) : Int := if e = 0 then rooms else 0
def seZ (e : Int) (zs : List Int) (ch r : Int) : List Int := if e = 0 then (if ch = -1 then zs else zs.set ch.toNat (zs.getD ch.toNat 0 - r)) else []
theorem seE_arg {rooms sold : Int} {zs : List Int} {ch r : Int} (h : ¬ (nightB rooms sold zs = true ∧ (ch = -1 ∨ (0 ≤ ch ∧ ch < zs.length)) ∧ 0 ≤ r ∧ r ≤ 1000)) : seE rooms sold zs ch r = 1 := if_neg h

theorem nightB_parts {rooms sold : Int} {zs : List Int} (h : nightB rooms sold zs = true) : zs.length ≤ 30 ∧ shIn zs ∧ (0 ≤ rooms ∧ rooms ≤ 400) ∧ 0 ≤ sold ∧ sold ≤ 1000 := by
  unfold nightB at h
  simp only [Bool.and_eq_true, Bool.not_eq_true'] at h
  obtain ⟨⟨h1, h2⟩, h3⟩ := h
  obtain ⟨a, b⟩ := sharesB_in h1
  simp [outB] at h2 h3
  exact ⟨a, b, by omega, by omega⟩


set_option maxRecDepth 100000 in
set_option maxHeartbeats 3200000 in
theorem sell_any (rooms sold ch r : Int) (v : Value) (zs : List Int) (w : World) (hs : SlV w v zs) :
    Calls Try.prog 32 #[.agg #[.int .i64 rooms, .int .i64 sold, v], .int .i64 ch, .int .i64 r] w
      fun e w' => ∃ v', e = .returned (.tuple #[.agg #[.int .i64 (seR (seE rooms sold zs ch r) rooms), .int .i64 (seR (seE rooms sold zs ch r) (sold + r)), v'], .int .i64 (seE rooms sold zs ch r)]) ∧
        SlV w' v' (seZ (seE rooms sold zs ch r) zs ch r) ∧ FromV w.heap.size v v' ∧ Below w.heap.size w w' := by
  obtain ⟨a, cap, rfl, hs, hcap1, hcap2⟩ := hs
  unfold maxLen at hcap2
  have hm : zs.length ≤ 9223372036854775807 := by omega
  have HS := Lib.hid hs
  clear hs
  by_cases hA : nightB rooms sold zs = true ∧ (ch = -1 ∨ (0 ≤ ch ∧ ch < zs.length)) ∧ 0 ≤ r ∧ r ≤ 1000
  · obtain ⟨hn, hch, hr1, hr2⟩ := hA
    obtain ⟨p1, p2, ⟨p3, p4⟩, p5, p6⟩ := nightB_parts hn
    have ho : outB 1000 r = false := outB_false ⟨hr1, hr2⟩
    rcases hch with rfl | ⟨hc1, hc2⟩
    · by_cases hS : 1000 < sold + r
      · have eE : seE rooms sold zs (-1) r = 3 := by unfold seE; simp [hn, hr1, hr2, hS]
        rw [eE]
        simp only [seR, seZ, show ¬ (3 : Int) = 0 by omega, if_false]
        clear eE
        go_enter Try.func32, Try.ntmps32
        go_wp2_with fail
        refine (right_any _ _ _ _ _ zs _ hm (HS.out.below (by (repeat' (first | (with_reducible exact Below.refl _ _) | (with_reducible assumption) | (with_reducible exact Bw.out (by with_reducible assumption)) | (with_reducible refine bw_alloc ?_ _) | (with_reducible refine bw_step ?_ (by with_reducible assumption)) | (with_reducible refine Below.alloc ?_ ?_ _) | (with_reducible refine Below.drew ?_) | (with_reducible refine below_drewN ?_ _) | (with_reducible refine Below.setCell ?_ ?_ _) | (with_reducible refine below_step ?_ (by with_reducible assumption) ?_) | (with_reducible exact Nat.le_refl _) | omega | (simp; omega) | (simp; done)))))).mono ?_
        rintro e w1 ⟨rfl, hb1⟩
        have R_n_1 : Row w1 (w.heap.size) [.int .i64 rooms, .int .i64 sold, .slice a zs.length cap] := by (repeat' (first | (with_reducible assumption) | (with_reducible refine Row.new' _ _ _ (by first | rfl | (simp; done) | omega)) | (with_reducible refine Row.alloc ?_ _) | (with_reducible refine Row.drew ?_) | (with_reducible refine Row.drewN ?_ _) | (with_reducible refine Row.step ?_ (by with_reducible assumption)) | (with_reducible refine Row.set2' ?_ _ _; first | exact ⟨_, _, by with_reducible assumption⟩ | exact ⟨_, _, Row.alloc (by with_reducible assumption) _⟩ | exact ⟨_, _, Row.alloc (Row.alloc (by with_reducible assumption) _) _⟩) | (with_reducible refine Row.other ?_ (by first | omega | (simp; done) | (simp; omega)) _)))
        have c_n_0_1 := R_n_1.cell 0 rfl
        have c_n_1_1 := R_n_1.cell 1 rfl
        have c_n_2_1 := R_n_1.cell 2 rfl
        have l_n_1 := R_n_1.lt
        have R_res_1 : Row w1 (w.heap.size + 1) [.int .i64 0, .int .i64 0, .slice none 0 0] := by (repeat' (first | (with_reducible assumption) | (with_reducible refine Row.new' _ _ _ (by first | rfl | (simp; done) | omega)) | (with_reducible refine Row.alloc ?_ _) | (with_reducible refine Row.drew ?_) | (with_reducible refine Row.drewN ?_ _) | (with_reducible refine Row.step ?_ (by with_reducible assumption)) | (with_reducible refine Row.set2' ?_ _ _; first | exact ⟨_, _, by with_reducible assumption⟩ | exact ⟨_, _, Row.alloc (by with_reducible assumption) _⟩ | exact ⟨_, _, Row.alloc (Row.alloc (by with_reducible assumption) _) _⟩) | (with_reducible refine Row.other ?_ (by first | omega | (simp; done) | (simp; omega)) _)))
        have c_res_0_1 := R_res_1.cell 0 rfl
        have c_res_1_1 := R_res_1.cell 1 rfl
        have c_res_2_1 := R_res_1.cell 2 rfl
        have z_res_0_1 := R_res_1.frozen 0
        have z_res_1_1 := R_res_1.frozen 1
        have z_res_2_1 := R_res_1.frozen 2
        have l_res_1 := R_res_1.lt
        have R_x_1 : Row w1 (w.heap.size + 1 + 1) [.int .i64 rooms, .int .i64 sold, .slice a zs.length cap] := by (repeat' (first | (with_reducible assumption) | (with_reducible refine Row.new' _ _ _ (by first | rfl | (simp; done) | omega)) | (with_reducible refine Row.alloc ?_ _) | (with_reducible refine Row.drew ?_) | (with_reducible refine Row.drewN ?_ _) | (with_reducible refine Row.step ?_ (by with_reducible assumption)) | (with_reducible refine Row.set2' ?_ _ _; first | exact ⟨_, _, by with_reducible assumption⟩ | exact ⟨_, _, Row.alloc (by with_reducible assumption) _⟩ | exact ⟨_, _, Row.alloc (Row.alloc (by with_reducible assumption) _) _⟩) | (with_reducible refine Row.other ?_ (by first | omega | (simp; done) | (simp; omega)) _)))
        have c_x_0_1 := R_x_1.cell 0 rfl
        have c_x_1_1 := R_x_1.cell 1 rfl
        have c_x_2_1 := R_x_1.cell 2 rfl
        have z_x_0_1 := R_x_1.frozen 0
        have z_x_1_1 := R_x_1.frozen 1
        have z_x_2_1 := R_x_1.frozen 2
        have l_x_1 := R_x_1.lt
        have HB1 : Below w.heap.size w w1 := by (repeat' (first | (with_reducible exact Below.refl _ _) | (with_reducible assumption) | (with_reducible exact Bw.out (by with_reducible assumption)) | (with_reducible refine bw_alloc ?_ _) | (with_reducible refine bw_step ?_ (by with_reducible assumption)) | (with_reducible refine Below.alloc ?_ ?_ _) | (with_reducible refine Below.drew ?_) | (with_reducible refine below_drewN ?_ _) | (with_reducible refine Below.setCell ?_ ?_ _) | (with_reducible refine below_step ?_ (by with_reducible assumption) ?_) | (with_reducible exact Nat.le_refl _) | omega | (simp; omega) | (simp; done)))
        go_wp2_with fail
        refine (within_one 1000 r _ _ (by (repeat' (first | (with_reducible assumption) | (with_reducible refine Row.new' _ _ _ (by first | rfl | (simp; done) | omega)) | (with_reducible refine Row.alloc ?_ _) | (with_reducible refine Row.drew ?_) | (with_reducible refine Row.drewN ?_ _) | (with_reducible refine Row.step ?_ (by with_reducible assumption)))))).mono ?_
        rintro e w2 ⟨rfl, hb2⟩
        have R_n_2 : Row w2 (w.heap.size) [.int .i64 rooms, .int .i64 sold, .slice a zs.length cap] := by (repeat' (first | (with_reducible assumption) | (with_reducible refine Row.new' _ _ _ (by first | rfl | (simp; done) | omega)) | (with_reducible refine Row.alloc ?_ _) | (with_reducible refine Row.drew ?_) | (with_reducible refine Row.drewN ?_ _) | (with_reducible refine Row.step ?_ (by with_reducible assumption)) | (with_reducible refine Row.set2' ?_ _ _; first | exact ⟨_, _, by with_reducible assumption⟩ | exact ⟨_, _, Row.alloc (by with_reducible assumption) _⟩ | exact ⟨_, _, Row.alloc (Row.alloc (by with_reducible assumption) _) _⟩) | (with_reducible refine Row.other ?_ (by first | omega | (simp; done) | (simp; omega)) _)))
        have c_n_0_2 := R_n_2.cell 0 rfl
        have c_n_1_2 := R_n_2.cell 1 rfl
        have c_n_2_2 := R_n_2.cell 2 rfl
        have l_n_2 := R_n_2.lt
        have R_res_2 : Row w2 (w.heap.size + 1) [.int .i64 0, .int .i64 0, .slice none 0 0] := by (repeat' (first | (with_reducible assumption) | (with_reducible refine Row.new' _ _ _ (by first | rfl | (simp; done) | omega)) | (with_reducible refine Row.alloc ?_ _) | (with_reducible refine Row.drew ?_) | (with_reducible refine Row.drewN ?_ _) | (with_reducible refine Row.step ?_ (by with_reducible assumption)) | (with_reducible refine Row.set2' ?_ _ _; first | exact ⟨_, _, by with_reducible assumption⟩ | exact ⟨_, _, Row.alloc (by with_reducible assumption) _⟩ | exact ⟨_, _, Row.alloc (Row.alloc (by with_reducible assumption) _) _⟩) | (with_reducible refine Row.other ?_ (by first | omega | (simp; done) | (simp; omega)) _)))
        have c_res_0_2 := R_res_2.cell 0 rfl
        have c_res_1_2 := R_res_2.cell 1 rfl
        have c_res_2_2 := R_res_2.cell 2 rfl
        have z_res_0_2 := R_res_2.frozen 0
        have z_res_1_2 := R_res_2.frozen 1
        have z_res_2_2 := R_res_2.frozen 2
        have l_res_2 := R_res_2.lt
        have R_x_2 : Row w2 (w.heap.size + 1 + 1) [.int .i64 rooms, .int .i64 sold, .slice a zs.length cap] := by (repeat' (first | (with_reducible assumption) | (with_reducible refine Row.new' _ _ _ (by first | rfl | (simp; done) | omega)) | (with_reducible refine Row.alloc ?_ _) | (with_reducible refine Row.drew ?_) | (with_reducible refine Row.drewN ?_ _) | (with_reducible refine Row.step ?_ (by with_reducible assumption)) | (with_reducible refine Row.set2' ?_ _ _; first | exact ⟨_, _, by with_reducible assumption⟩ | exact ⟨_, _, Row.alloc (by with_reducible assumption) _⟩ | exact ⟨_, _, Row.alloc (Row.alloc (by with_reducible assumption) _) _⟩) | (with_reducible refine Row.other ?_ (by first | omega | (simp; done) | (simp; omega)) _)))
        have c_x_0_2 := R_x_2.cell 0 rfl
        have c_x_1_2 := R_x_2.cell 1 rfl
        have c_x_2_2 := R_x_2.cell 2 rfl
        have z_x_0_2 := R_x_2.frozen 0
        have z_x_1_2 := R_x_2.frozen 1
        have z_x_2_2 := R_x_2.frozen 2
        have l_x_2 := R_x_2.lt
        have HB2 : Below w.heap.size w w2 := by (repeat' (first | (with_reducible exact Below.refl _ _) | (with_reducible assumption) | (with_reducible exact Bw.out (by with_reducible assumption)) | (with_reducible refine bw_alloc ?_ _) | (with_reducible refine bw_step ?_ (by with_reducible assumption)) | (with_reducible refine Below.alloc ?_ ?_ _) | (with_reducible refine Below.drew ?_) | (with_reducible refine below_drewN ?_ _) | (with_reducible refine Below.setCell ?_ ?_ _) | (with_reducible refine below_step ?_ (by with_reducible assumption) ?_) | (with_reducible exact Nat.le_refl _) | omega | (simp; omega) | (simp; done)))
        clear R_n_1 c_n_0_1 c_n_1_1 c_n_2_1 R_res_1 c_res_0_1 c_res_1_1 c_res_2_1 z_res_0_1 z_res_1_1 z_res_2_1 R_x_1 c_x_0_1 c_x_1_1 c_x_2_1 z_x_0_1 z_x_1_1 z_x_2_1 hb1 HB1
        go_wp2_with fail
        refine bodyPost_ret (v := .tuple #[.agg #[.int .i64 0, .int .i64 0, .slice none 0 0], .int .i64 3]) (by simp [results, Try.results32, go_sem, c_res_0_2, c_res_1_2, c_res_2_2, l_res_2]) rfl ⟨_, rfl, SlV.nil _, FromV.nil _ _, ?_⟩
        (repeat' (first | (with_reducible exact Below.refl _ _) | (with_reducible assumption) | (with_reducible exact Bw.out (by with_reducible assumption)) | (with_reducible refine bw_alloc ?_ _) | (with_reducible refine bw_step ?_ (by with_reducible assumption)) | (with_reducible refine Below.alloc ?_ ?_ _) | (with_reducible refine Below.drew ?_) | (with_reducible refine below_drewN ?_ _) | (with_reducible refine Below.setCell ?_ ?_ _) | (with_reducible refine below_step ?_ (by with_reducible assumption) ?_) | (with_reducible exact Nat.le_refl _) | omega | (simp; omega) | (simp; done)))
      · have eE : seE rooms sold zs (-1) r = 0 := by unfold seE; simp [hn, hr1, hr2, hS]
        rw [eE]
        simp only [seR, seZ, if_true]
        clear eE
        go_enter Try.func32, Try.ntmps32
        go_wp2_with fail
        refine (right_any _ _ _ _ _ zs _ hm (HS.out.below (by (repeat' (first | (with_reducible exact Below.refl _ _) | (with_reducible assumption) | (with_reducible exact Bw.out (by with_reducible assumption)) | (with_reducible refine bw_alloc ?_ _) | (with_reducible refine bw_step ?_ (by with_reducible assumption)) | (with_reducible refine Below.alloc ?_ ?_ _) | (with_reducible refine Below.drew ?_) | (with_reducible refine below_drewN ?_ _) | (with_reducible refine Below.setCell ?_ ?_ _) | (with_reducible refine below_step ?_ (by with_reducible assumption) ?_) | (with_reducible exact Nat.le_refl _) | omega | (simp; omega) | (simp; done)))))).mono ?_
        rintro e w1 ⟨rfl, hb1⟩
        have R_n_1 : Row w1 (w.heap.size) [.int .i64 rooms, .int .i64 sold, .slice a zs.length cap] := by (repeat' (first | (with_reducible assumption) | (with_reducible refine Row.new' _ _ _ (by first | rfl | (simp; done) | omega)) | (with_reducible refine Row.alloc ?_ _) | (with_reducible refine Row.drew ?_) | (with_reducible refine Row.drewN ?_ _) | (with_reducible refine Row.step ?_ (by with_reducible assumption)) | (with_reducible refine Row.set2' ?_ _ _; first | exact ⟨_, _, by with_reducible assumption⟩ | exact ⟨_, _, Row.alloc (by with_reducible assumption) _⟩ | exact ⟨_, _, Row.alloc (Row.alloc (by with_reducible assumption) _) _⟩) | (with_reducible refine Row.other ?_ (by first | omega | (simp; done) | (simp; omega)) _)))
        have c_n_0_1 := R_n_1.cell 0 rfl
        have c_n_1_1 := R_n_1.cell 1 rfl
        have c_n_2_1 := R_n_1.cell 2 rfl
        have l_n_1 := R_n_1.lt
        have R_res_1 : Row w1 (w.heap.size + 1) [.int .i64 0, .int .i64 0, .slice none 0 0] := by (repeat' (first | (with_reducible assumption) | (with_reducible refine Row.new' _ _ _ (by first | rfl | (simp; done) | omega)) | (with_reducible refine Row.alloc ?_ _) | (with_reducible refine Row.drew ?_) | (with_reducible refine Row.drewN ?_ _) | (with_reducible refine Row.step ?_ (by with_reducible assumption)) | (with_reducible refine Row.set2' ?_ _ _; first | exact ⟨_, _, by with_reducible assumption⟩ | exact ⟨_, _, Row.alloc (by with_reducible assumption) _⟩ | exact ⟨_, _, Row.alloc (Row.alloc (by with_reducible assumption) _) _⟩) | (with_reducible refine Row.other ?_ (by first | omega | (simp; done) | (simp; omega)) _)))
        have c_res_0_1 := R_res_1.cell 0 rfl
        have c_res_1_1 := R_res_1.cell 1 rfl
        have c_res_2_1 := R_res_1.cell 2 rfl
        have z_res_0_1 := R_res_1.frozen 0
        have z_res_1_1 := R_res_1.frozen 1
        have z_res_2_1 := R_res_1.frozen 2
        have l_res_1 := R_res_1.lt
        have R_x_1 : Row w1 (w.heap.size + 1 + 1) [.int .i64 rooms, .int .i64 sold, .slice a zs.length cap] := by (repeat' (first | (with_reducible assumption) | (with_reducible refine Row.new' _ _ _ (by first | rfl | (simp; done) | omega)) | (with_reducible refine Row.alloc ?_ _) | (with_reducible refine Row.drew ?_) | (with_reducible refine Row.drewN ?_ _) | (with_reducible refine Row.step ?_ (by with_reducible assumption)) | (with_reducible refine Row.set2' ?_ _ _; first | exact ⟨_, _, by with_reducible assumption⟩ | exact ⟨_, _, Row.alloc (by with_reducible assumption) _⟩ | exact ⟨_, _, Row.alloc (Row.alloc (by with_reducible assumption) _) _⟩) | (with_reducible refine Row.other ?_ (by first | omega | (simp; done) | (simp; omega)) _)))
        have c_x_0_1 := R_x_1.cell 0 rfl
        have c_x_1_1 := R_x_1.cell 1 rfl
        have c_x_2_1 := R_x_1.cell 2 rfl
        have z_x_0_1 := R_x_1.frozen 0
        have z_x_1_1 := R_x_1.frozen 1
        have z_x_2_1 := R_x_1.frozen 2
        have l_x_1 := R_x_1.lt
        have HB1 : Below w.heap.size w w1 := by (repeat' (first | (with_reducible exact Below.refl _ _) | (with_reducible assumption) | (with_reducible exact Bw.out (by with_reducible assumption)) | (with_reducible refine bw_alloc ?_ _) | (with_reducible refine bw_step ?_ (by with_reducible assumption)) | (with_reducible refine Below.alloc ?_ ?_ _) | (with_reducible refine Below.drew ?_) | (with_reducible refine below_drewN ?_ _) | (with_reducible refine Below.setCell ?_ ?_ _) | (with_reducible refine below_step ?_ (by with_reducible assumption) ?_) | (with_reducible exact Nat.le_refl _) | omega | (simp; omega) | (simp; done)))
        go_wp2_with fail
        refine (within_one 1000 r _ _ (by (repeat' (first | (with_reducible assumption) | (with_reducible refine Row.new' _ _ _ (by first | rfl | (simp; done) | omega)) | (with_reducible refine Row.alloc ?_ _) | (with_reducible refine Row.drew ?_) | (with_reducible refine Row.drewN ?_ _) | (with_reducible refine Row.step ?_ (by with_reducible assumption)))))).mono ?_
        rintro e w2 ⟨rfl, hb2⟩
        have R_n_2 : Row w2 (w.heap.size) [.int .i64 rooms, .int .i64 sold, .slice a zs.length cap] := by (repeat' (first | (with_reducible assumption) | (with_reducible refine Row.new' _ _ _ (by first | rfl | (simp; done) | omega)) | (with_reducible refine Row.alloc ?_ _) | (with_reducible refine Row.drew ?_) | (with_reducible refine Row.drewN ?_ _) | (with_reducible refine Row.step ?_ (by with_reducible assumption)) | (with_reducible refine Row.set2' ?_ _ _; first | exact ⟨_, _, by with_reducible assumption⟩ | exact ⟨_, _, Row.alloc (by with_reducible assumption) _⟩ | exact ⟨_, _, Row.alloc (Row.alloc (by with_reducible assumption) _) _⟩) | (with_reducible refine Row.other ?_ (by first | omega | (simp; done) | (simp; omega)) _)))
        have c_n_0_2 := R_n_2.cell 0 rfl
        have c_n_1_2 := R_n_2.cell 1 rfl
        have c_n_2_2 := R_n_2.cell 2 rfl
        have l_n_2 := R_n_2.lt
        have R_res_2 : Row w2 (w.heap.size + 1) [.int .i64 0, .int .i64 0, .slice none 0 0] := by (repeat' (first | (with_reducible assumption) | (with_reducible refine Row.new' _ _ _ (by first | rfl | (simp; done) | omega)) | (with_reducible refine Row.alloc ?_ _) | (with_reducible refine Row.drew ?_) | (with_reducible refine Row.drewN ?_ _) | (with_reducible refine Row.step ?_ (by with_reducible assumption)) | (with_reducible refine Row.set2' ?_ _ _; first | exact ⟨_, _, by with_reducible assumption⟩ | exact ⟨_, _, Row.alloc (by with_reducible assumption) _⟩ | exact ⟨_, _, Row.alloc (Row.alloc (by with_reducible assumption) _) _⟩) | (with_reducible refine Row.other ?_ (by first | omega | (simp; done) | (simp; omega)) _)))
        have c_res_0_2 := R_res_2.cell 0 rfl
        have c_res_1_2 := R_res_2.cell 1 rfl
        have c_res_2_2 := R_res_2.cell 2 rfl
        have z_res_0_2 := R_res_2.frozen 0
        have z_res_1_2 := R_res_2.frozen 1
        have z_res_2_2 := R_res_2.frozen 2
        have l_res_2 := R_res_2.lt
        have R_x_2 : Row w2 (w.heap.size + 1 + 1) [.int .i64 rooms, .int .i64 sold, .slice a zs.length cap] := by (repeat' (first | (with_reducible assumption) | (with_reducible refine Row.new' _ _ _ (by first | rfl | (simp; done) | omega)) | (with_reducible refine Row.alloc ?_ _) | (with_reducible refine Row.drew ?_) | (with_reducible refine Row.drewN ?_ _) | (with_reducible refine Row.step ?_ (by with_reducible assumption)) | (with_reducible refine Row.set2' ?_ _ _; first | exact ⟨_, _, by with_reducible assumption⟩ | exact ⟨_, _, Row.alloc (by with_reducible assumption) _⟩ | exact ⟨_, _, Row.alloc (Row.alloc (by with_reducible assumption) _) _⟩) | (with_reducible refine Row.other ?_ (by first | omega | (simp; done) | (simp; omega)) _)))
        have c_x_0_2 := R_x_2.cell 0 rfl
        have c_x_1_2 := R_x_2.cell 1 rfl
        have c_x_2_2 := R_x_2.cell 2 rfl
        have z_x_0_2 := R_x_2.frozen 0
        have z_x_1_2 := R_x_2.frozen 1
        have z_x_2_2 := R_x_2.frozen 2
        have l_x_2 := R_x_2.lt
        have HB2 : Below w.heap.size w w2 := by (repeat' (first | (with_reducible exact Below.refl _ _) | (with_reducible assumption) | (with_reducible exact Bw.out (by with_reducible assumption)) | (with_reducible refine bw_alloc ?_ _) | (with_reducible refine bw_step ?_ (by with_reducible assumption)) | (with_reducible refine Below.alloc ?_ ?_ _) | (with_reducible refine Below.drew ?_) | (with_reducible refine below_drewN ?_ _) | (with_reducible refine Below.setCell ?_ ?_ _) | (with_reducible refine below_step ?_ (by with_reducible assumption) ?_) | (with_reducible exact Nat.le_refl _) | omega | (simp; omega) | (simp; done)))
        clear R_n_1 c_n_0_1 c_n_1_1 c_n_2_1 R_res_1 c_res_0_1 c_res_1_1 c_res_2_1 z_res_0_1 z_res_1_1 z_res_2_1 R_x_1 c_x_0_1 c_x_1_1 c_x_2_1 z_x_0_1 z_x_1_1 z_x_2_1 hb1 HB1
        go_wp2_with fail
        refine bodyPost_ret (v := .tuple #[.agg #[.int .i64 rooms, .int .i64 (sold + r), .slice a zs.length cap], .int .i64 0]) (by simp [results, Try.results32, go_sem, c_res_0_2, c_res_1_2, c_res_2_2, l_res_2]) rfl ⟨.slice a zs.length cap, rfl, ?_, ?_, ?_⟩
        · exact ⟨a, cap, rfl, SlI.below HS.out (by (repeat' (first | (with_reducible exact Below.refl _ _) | (with_reducible assumption) | (with_reducible exact Bw.out (by with_reducible assumption)) | (with_reducible refine bw_alloc ?_ _) | (with_reducible refine bw_step ?_ (by with_reducible assumption)) | (with_reducible refine Below.alloc ?_ ?_ _) | (with_reducible refine Below.drew ?_) | (with_reducible refine below_drewN ?_ _) | (with_reducible refine Below.setCell ?_ ?_ _) | (with_reducible refine below_step ?_ (by with_reducible assumption) ?_) | (with_reducible exact Nat.le_refl _) | omega | (simp; omega) | (simp; done)))), hcap1, hcap2⟩
        · exact FromV.same _ _
        · (repeat' (first | (with_reducible exact Below.refl _ _) | (with_reducible assumption) | (with_reducible exact Bw.out (by with_reducible assumption)) | (with_reducible refine bw_alloc ?_ _) | (with_reducible refine bw_step ?_ (by with_reducible assumption)) | (with_reducible refine Below.alloc ?_ ?_ _) | (with_reducible refine Below.drew ?_) | (with_reducible refine below_drewN ?_ _) | (with_reducible refine Below.setCell ?_ ?_ _) | (with_reducible refine below_step ?_ (by with_reducible assumption) ?_) | (with_reducible exact Nat.le_refl _) | omega | (simp; omega) | (simp; done)))
    · obtain ⟨c, rfl⟩ := Int.eq_ofNat_of_zero_le hc1
      have hcn : c < zs.length := by omega
      have q1 : ((c : Int) == -1) = false := by first | (simp; done) | (simp; omega)
      obtain ⟨b, off, z, hab, hbl, cz, hz, _, hzm⟩ := HS.out.get hcn
      subst hab
      obtain ⟨z1, z2⟩ := p2 z hzm.out
      have d1 : decide ((0 : Int) ≤ (c : Int)) = true := by simp
      have d2 : decide ((c : Int) < (zs.length : Int)) = true := by simp; omega
      by_cases hf : z < r
      · have eE : seE rooms sold zs (c : Int) r = 31 := by
          unfold seE
          rw [if_pos ⟨hn, Or.inr ⟨by omega, by omega⟩, hr1, hr2⟩, if_pos ⟨by omega, by rw [Int.toNat_natCast, hz.out]; exact hf⟩]
        rw [eE]
        simp only [seR, seZ, show ¬ (31 : Int) = 0 by omega, if_false]
        clear eE hz
        go_enter Try.func32, Try.ntmps32
        go_wp2_with fail
        refine (right_any _ _ _ _ _ zs _ hm (HS.out.below (by (repeat' (first | (with_reducible exact Below.refl _ _) | (with_reducible assumption) | (with_reducible exact Bw.out (by with_reducible assumption)) | (with_reducible refine bw_alloc ?_ _) | (with_reducible refine bw_step ?_ (by with_reducible assumption)) | (with_reducible refine Below.alloc ?_ ?_ _) | (with_reducible refine Below.drew ?_) | (with_reducible refine below_drewN ?_ _) | (with_reducible refine Below.setCell ?_ ?_ _) | (with_reducible refine below_step ?_ (by with_reducible assumption) ?_) | (with_reducible exact Nat.le_refl _) | omega | (simp; omega) | (simp; done)))))).mono ?_
        rintro e w1 ⟨rfl, hb1⟩
        have R_n_1 : Row w1 (w.heap.size) [.int .i64 rooms, .int .i64 sold, .slice (some ⟨b, off, none⟩) zs.length cap] := by (repeat' (first | (with_reducible assumption) | (with_reducible refine Row.new' _ _ _ (by first | rfl | (simp; done) | omega)) | (with_reducible refine Row.alloc ?_ _) | (with_reducible refine Row.drew ?_) | (with_reducible refine Row.drewN ?_ _) | (with_reducible refine Row.step ?_ (by with_reducible assumption)) | (with_reducible refine Row.set2' ?_ _ _; first | exact ⟨_, _, by with_reducible assumption⟩ | exact ⟨_, _, Row.alloc (by with_reducible assumption) _⟩ | exact ⟨_, _, Row.alloc (Row.alloc (by with_reducible assumption) _) _⟩) | (with_reducible refine Row.other ?_ (by first | omega | (simp; done) | (simp; omega)) _)))
        have c_n_0_1 := R_n_1.cell 0 rfl
        have c_n_1_1 := R_n_1.cell 1 rfl
        have c_n_2_1 := R_n_1.cell 2 rfl
        have l_n_1 := R_n_1.lt
        have R_res_1 : Row w1 (w.heap.size + 1) [.int .i64 0, .int .i64 0, .slice none 0 0] := by (repeat' (first | (with_reducible assumption) | (with_reducible refine Row.new' _ _ _ (by first | rfl | (simp; done) | omega)) | (with_reducible refine Row.alloc ?_ _) | (with_reducible refine Row.drew ?_) | (with_reducible refine Row.drewN ?_ _) | (with_reducible refine Row.step ?_ (by with_reducible assumption)) | (with_reducible refine Row.set2' ?_ _ _; first | exact ⟨_, _, by with_reducible assumption⟩ | exact ⟨_, _, Row.alloc (by with_reducible assumption) _⟩ | exact ⟨_, _, Row.alloc (Row.alloc (by with_reducible assumption) _) _⟩) | (with_reducible refine Row.other ?_ (by first | omega | (simp; done) | (simp; omega)) _)))
        have c_res_0_1 := R_res_1.cell 0 rfl
        have c_res_1_1 := R_res_1.cell 1 rfl
        have c_res_2_1 := R_res_1.cell 2 rfl
        have z_res_0_1 := R_res_1.frozen 0
        have z_res_1_1 := R_res_1.frozen 1
        have z_res_2_1 := R_res_1.frozen 2
        have l_res_1 := R_res_1.lt
        have R_x_1 : Row w1 (w.heap.size + 1 + 1) [.int .i64 rooms, .int .i64 sold, .slice (some ⟨b, off, none⟩) zs.length cap] := by (repeat' (first | (with_reducible assumption) | (with_reducible refine Row.new' _ _ _ (by first | rfl | (simp; done) | omega)) | (with_reducible refine Row.alloc ?_ _) | (with_reducible refine Row.drew ?_) | (with_reducible refine Row.drewN ?_ _) | (with_reducible refine Row.step ?_ (by with_reducible assumption)) | (with_reducible refine Row.set2' ?_ _ _; first | exact ⟨_, _, by with_reducible assumption⟩ | exact ⟨_, _, Row.alloc (by with_reducible assumption) _⟩ | exact ⟨_, _, Row.alloc (Row.alloc (by with_reducible assumption) _) _⟩) | (with_reducible refine Row.other ?_ (by first | omega | (simp; done) | (simp; omega)) _)))
        have c_x_0_1 := R_x_1.cell 0 rfl
        have c_x_1_1 := R_x_1.cell 1 rfl
        have c_x_2_1 := R_x_1.cell 2 rfl
        have z_x_0_1 := R_x_1.frozen 0
        have z_x_1_1 := R_x_1.frozen 1
        have z_x_2_1 := R_x_1.frozen 2
        have l_x_1 := R_x_1.lt
        have HB1 : Below w.heap.size w w1 := by (repeat' (first | (with_reducible exact Below.refl _ _) | (with_reducible assumption) | (with_reducible exact Bw.out (by with_reducible assumption)) | (with_reducible refine bw_alloc ?_ _) | (with_reducible refine bw_step ?_ (by with_reducible assumption)) | (with_reducible refine Below.alloc ?_ ?_ _) | (with_reducible refine Below.drew ?_) | (with_reducible refine below_drewN ?_ _) | (with_reducible refine Below.setCell ?_ ?_ _) | (with_reducible refine below_step ?_ (by with_reducible assumption) ?_) | (with_reducible exact Nat.le_refl _) | omega | (simp; omega) | (simp; done)))
        go_wp2_with fail
        refine (has_any _ _ _ _ _ _ _ hm).mono ?_
        rintro e w2 ⟨rfl, hb2⟩
        have R_n_2 : Row w2 (w.heap.size) [.int .i64 rooms, .int .i64 sold, .slice (some ⟨b, off, none⟩) zs.length cap] := by (repeat' (first | (with_reducible assumption) | (with_reducible refine Row.new' _ _ _ (by first | rfl | (simp; done) | omega)) | (with_reducible refine Row.alloc ?_ _) | (with_reducible refine Row.drew ?_) | (with_reducible refine Row.drewN ?_ _) | (with_reducible refine Row.step ?_ (by with_reducible assumption)) | (with_reducible refine Row.set2' ?_ _ _; first | exact ⟨_, _, by with_reducible assumption⟩ | exact ⟨_, _, Row.alloc (by with_reducible assumption) _⟩ | exact ⟨_, _, Row.alloc (Row.alloc (by with_reducible assumption) _) _⟩) | (with_reducible refine Row.other ?_ (by first | omega | (simp; done) | (simp; omega)) _)))
        have c_n_0_2 := R_n_2.cell 0 rfl
        have c_n_1_2 := R_n_2.cell 1 rfl
        have c_n_2_2 := R_n_2.cell 2 rfl
        have l_n_2 := R_n_2.lt
        have R_res_2 : Row w2 (w.heap.size + 1) [.int .i64 0, .int .i64 0, .slice none 0 0] := by (repeat' (first | (with_reducible assumption) | (with_reducible refine Row.new' _ _ _ (by first | rfl | (simp; done) | omega)) | (with_reducible refine Row.alloc ?_ _) | (with_reducible refine Row.drew ?_) | (with_reducible refine Row.drewN ?_ _) | (with_reducible refine Row.step ?_ (by with_reducible assumption)) | (with_reducible refine Row.set2' ?_ _ _; first | exact ⟨_, _, by with_reducible assumption⟩ | exact ⟨_, _, Row.alloc (by with_reducible assumption) _⟩ | exact ⟨_, _, Row.alloc (Row.alloc (by with_reducible assumption) _) _⟩) | (with_reducible refine Row.other ?_ (by first | omega | (simp; done) | (simp; omega)) _)))
        have c_res_0_2 := R_res_2.cell 0 rfl
        have c_res_1_2 := R_res_2.cell 1 rfl
        have c_res_2_2 := R_res_2.cell 2 rfl
        have z_res_0_2 := R_res_2.frozen 0
        have z_res_1_2 := R_res_2.frozen 1
        have z_res_2_2 := R_res_2.frozen 2
        have l_res_2 := R_res_2.lt
        have R_x_2 : Row w2 (w.heap.size + 1 + 1) [.int .i64 rooms, .int .i64 sold, .slice (some ⟨b, off, none⟩) zs.length cap] := by (repeat' (first | (with_reducible assumption) | (with_reducible refine Row.new' _ _ _ (by first | rfl | (simp; done) | omega)) | (with_reducible refine Row.alloc ?_ _) | (with_reducible refine Row.drew ?_) | (with_reducible refine Row.drewN ?_ _) | (with_reducible refine Row.step ?_ (by with_reducible assumption)) | (with_reducible refine Row.set2' ?_ _ _; first | exact ⟨_, _, by with_reducible assumption⟩ | exact ⟨_, _, Row.alloc (by with_reducible assumption) _⟩ | exact ⟨_, _, Row.alloc (Row.alloc (by with_reducible assumption) _) _⟩) | (with_reducible refine Row.other ?_ (by first | omega | (simp; done) | (simp; omega)) _)))
        have c_x_0_2 := R_x_2.cell 0 rfl
        have c_x_1_2 := R_x_2.cell 1 rfl
        have c_x_2_2 := R_x_2.cell 2 rfl
        have z_x_0_2 := R_x_2.frozen 0
        have z_x_1_2 := R_x_2.frozen 1
        have z_x_2_2 := R_x_2.frozen 2
        have l_x_2 := R_x_2.lt
        have HB2 : Below w.heap.size w w2 := by (repeat' (first | (with_reducible exact Below.refl _ _) | (with_reducible assumption) | (with_reducible exact Bw.out (by with_reducible assumption)) | (with_reducible refine bw_alloc ?_ _) | (with_reducible refine bw_step ?_ (by with_reducible assumption)) | (with_reducible refine Below.alloc ?_ ?_ _) | (with_reducible refine Below.drew ?_) | (with_reducible refine below_drewN ?_ _) | (with_reducible refine Below.setCell ?_ ?_ _) | (with_reducible refine below_step ?_ (by with_reducible assumption) ?_) | (with_reducible exact Nat.le_refl _) | omega | (simp; omega) | (simp; done)))
        clear R_n_1 c_n_0_1 c_n_1_1 c_n_2_1 R_res_1 c_res_0_1 c_res_1_1 c_res_2_1 z_res_0_1 z_res_1_1 z_res_2_1 R_x_1 c_x_0_1 c_x_1_1 c_x_2_1 z_x_0_1 z_x_1_1 z_x_2_1 hb1 HB1
        go_wp2_with fail
        refine (within_one 1000 r _ _ (by (repeat' (first | (with_reducible assumption) | (with_reducible refine Row.new' _ _ _ (by first | rfl | (simp; done) | omega)) | (with_reducible refine Row.alloc ?_ _) | (with_reducible refine Row.drew ?_) | (with_reducible refine Row.drewN ?_ _) | (with_reducible refine Row.step ?_ (by with_reducible assumption)))))).mono ?_
        rintro e w3 ⟨rfl, hb3⟩
        have R_n_3 : Row w3 (w.heap.size) [.int .i64 rooms, .int .i64 sold, .slice (some ⟨b, off, none⟩) zs.length cap] := by (repeat' (first | (with_reducible assumption) | (with_reducible refine Row.new' _ _ _ (by first | rfl | (simp; done) | omega)) | (with_reducible refine Row.alloc ?_ _) | (with_reducible refine Row.drew ?_) | (with_reducible refine Row.drewN ?_ _) | (with_reducible refine Row.step ?_ (by with_reducible assumption)) | (with_reducible refine Row.set2' ?_ _ _; first | exact ⟨_, _, by with_reducible assumption⟩ | exact ⟨_, _, Row.alloc (by with_reducible assumption) _⟩ | exact ⟨_, _, Row.alloc (Row.alloc (by with_reducible assumption) _) _⟩) | (with_reducible refine Row.other ?_ (by first | omega | (simp; done) | (simp; omega)) _)))
        have c_n_0_3 := R_n_3.cell 0 rfl
        have c_n_1_3 := R_n_3.cell 1 rfl
        have c_n_2_3 := R_n_3.cell 2 rfl
        have l_n_3 := R_n_3.lt
        have R_res_3 : Row w3 (w.heap.size + 1) [.int .i64 0, .int .i64 0, .slice none 0 0] := by (repeat' (first | (with_reducible assumption) | (with_reducible refine Row.new' _ _ _ (by first | rfl | (simp; done) | omega)) | (with_reducible refine Row.alloc ?_ _) | (with_reducible refine Row.drew ?_) | (with_reducible refine Row.drewN ?_ _) | (with_reducible refine Row.step ?_ (by with_reducible assumption)) | (with_reducible refine Row.set2' ?_ _ _; first | exact ⟨_, _, by with_reducible assumption⟩ | exact ⟨_, _, Row.alloc (by with_reducible assumption) _⟩ | exact ⟨_, _, Row.alloc (Row.alloc (by with_reducible assumption) _) _⟩) | (with_reducible refine Row.other ?_ (by first | omega | (simp; done) | (simp; omega)) _)))
        have c_res_0_3 := R_res_3.cell 0 rfl
        have c_res_1_3 := R_res_3.cell 1 rfl
        have c_res_2_3 := R_res_3.cell 2 rfl
        have z_res_0_3 := R_res_3.frozen 0
        have z_res_1_3 := R_res_3.frozen 1
        have z_res_2_3 := R_res_3.frozen 2
        have l_res_3 := R_res_3.lt
        have R_x_3 : Row w3 (w.heap.size + 1 + 1) [.int .i64 rooms, .int .i64 sold, .slice (some ⟨b, off, none⟩) zs.length cap] := by (repeat' (first | (with_reducible assumption) | (with_reducible refine Row.new' _ _ _ (by first | rfl | (simp; done) | omega)) | (with_reducible refine Row.alloc ?_ _) | (with_reducible refine Row.drew ?_) | (with_reducible refine Row.drewN ?_ _) | (with_reducible refine Row.step ?_ (by with_reducible assumption)) | (with_reducible refine Row.set2' ?_ _ _; first | exact ⟨_, _, by with_reducible assumption⟩ | exact ⟨_, _, Row.alloc (by with_reducible assumption) _⟩ | exact ⟨_, _, Row.alloc (Row.alloc (by with_reducible assumption) _) _⟩) | (with_reducible refine Row.other ?_ (by first | omega | (simp; done) | (simp; omega)) _)))
        have c_x_0_3 := R_x_3.cell 0 rfl
        have c_x_1_3 := R_x_3.cell 1 rfl
        have c_x_2_3 := R_x_3.cell 2 rfl
        have z_x_0_3 := R_x_3.frozen 0
        have z_x_1_3 := R_x_3.frozen 1
        have z_x_2_3 := R_x_3.frozen 2
        have l_x_3 := R_x_3.lt
        have HB3 : Below w.heap.size w w3 := by (repeat' (first | (with_reducible exact Below.refl _ _) | (with_reducible assumption) | (with_reducible exact Bw.out (by with_reducible assumption)) | (with_reducible refine bw_alloc ?_ _) | (with_reducible refine bw_step ?_ (by with_reducible assumption)) | (with_reducible refine Below.alloc ?_ ?_ _) | (with_reducible refine Below.drew ?_) | (with_reducible refine below_drewN ?_ _) | (with_reducible refine Below.setCell ?_ ?_ _) | (with_reducible refine below_step ?_ (by with_reducible assumption) ?_) | (with_reducible exact Nat.le_refl _) | omega | (simp; omega) | (simp; done)))
        clear R_n_2 c_n_0_2 c_n_1_2 c_n_2_2 R_res_2 c_res_0_2 c_res_1_2 c_res_2_2 z_res_0_2 z_res_1_2 z_res_2_2 R_x_2 c_x_0_2 c_x_1_2 c_x_2_2 z_x_0_2 z_x_1_2 z_x_2_2 hb2 HB2
        have cz3 := (HB3.cell (p := ⟨b, off + c, none⟩) hbl).trans cz
        go_wp2_with fail
        refine bodyPost_ret (v := .tuple #[.agg #[.int .i64 0, .int .i64 0, .slice none 0 0], .int .i64 31]) (by simp [results, Try.results32, go_sem, c_res_0_3, c_res_1_3, c_res_2_3, l_res_3]) rfl ⟨_, rfl, SlV.nil _, FromV.nil _ _, ?_⟩
        (repeat' (first | (with_reducible exact Below.refl _ _) | (with_reducible assumption) | (with_reducible exact Bw.out (by with_reducible assumption)) | (with_reducible refine bw_alloc ?_ _) | (with_reducible refine bw_step ?_ (by with_reducible assumption)) | (with_reducible refine Below.alloc ?_ ?_ _) | (with_reducible refine Below.drew ?_) | (with_reducible refine below_drewN ?_ _) | (with_reducible refine Below.setCell ?_ ?_ _) | (with_reducible refine below_step ?_ (by with_reducible assumption) ?_) | (with_reducible exact Nat.le_refl _) | omega | (simp; omega) | (simp; done)))
      · by_cases hS : 1000 < sold + r
        · have eE : seE rooms sold zs (c : Int) r = 3 := by
            unfold seE
            rw [if_pos ⟨hn, Or.inr ⟨by omega, by omega⟩, hr1, hr2⟩, if_neg (by rw [Int.toNat_natCast, hz.out]; omega), if_pos hS]
          rw [eE]
          simp only [seR, seZ, show ¬ (3 : Int) = 0 by omega, if_false]
          clear eE hz
          go_enter Try.func32, Try.ntmps32
          go_wp2_with fail
          refine (right_any _ _ _ _ _ zs _ hm (HS.out.below (by (repeat' (first | (with_reducible exact Below.refl _ _) | (with_reducible assumption) | (with_reducible exact Bw.out (by with_reducible assumption)) | (with_reducible refine bw_alloc ?_ _) | (with_reducible refine bw_step ?_ (by with_reducible assumption)) | (with_reducible refine Below.alloc ?_ ?_ _) | (with_reducible refine Below.drew ?_) | (with_reducible refine below_drewN ?_ _) | (with_reducible refine Below.setCell ?_ ?_ _) | (with_reducible refine below_step ?_ (by with_reducible assumption) ?_) | (with_reducible exact Nat.le_refl _) | omega | (simp; omega) | (simp; done)))))).mono ?_
          rintro e w1 ⟨rfl, hb1⟩
          have R_n_1 : Row w1 (w.heap.size) [.int .i64 rooms, .int .i64 sold, .slice (some ⟨b, off, none⟩) zs.length cap] := by (repeat' (first | (with_reducible assumption) | (with_reducible refine Row.new' _ _ _ (by first | rfl | (simp; done) | omega)) | (with_reducible refine Row.alloc ?_ _) | (with_reducible refine Row.drew ?_) | (with_reducible refine Row.drewN ?_ _) | (with_reducible refine Row.step ?_ (by with_reducible assumption)) | (with_reducible refine Row.set2' ?_ _ _; first | exact ⟨_, _, by with_reducible assumption⟩ | exact ⟨_, _, Row.alloc (by with_reducible assumption) _⟩ | exact ⟨_, _, Row.alloc (Row.alloc (by with_reducible assumption) _) _⟩) | (with_reducible refine Row.other ?_ (by first | omega | (simp; done) | (simp; omega)) _)))
          have c_n_0_1 := R_n_1.cell 0 rfl
          have c_n_1_1 := R_n_1.cell 1 rfl
          have c_n_2_1 := R_n_1.cell 2 rfl
          have l_n_1 := R_n_1.lt
          have R_res_1 : Row w1 (w.heap.size + 1) [.int .i64 0, .int .i64 0, .slice none 0 0] := by (repeat' (first | (with_reducible assumption) | (with_reducible refine Row.new' _ _ _ (by first | rfl | (simp; done) | omega)) | (with_reducible refine Row.alloc ?_ _) | (with_reducible refine Row.drew ?_) | (with_reducible refine Row.drewN ?_ _) | (with_reducible refine Row.step ?_ (by with_reducible assumption)) | (with_reducible refine Row.set2' ?_ _ _; first | exact ⟨_, _, by with_reducible assumption⟩ | exact ⟨_, _, Row.alloc (by with_reducible assumption) _⟩ | exact ⟨_, _, Row.alloc (Row.alloc (by with_reducible assumption) _) _⟩) | (with_reducible refine Row.other ?_ (by first | omega | (simp; done) | (simp; omega)) _)))
          have c_res_0_1 := R_res_1.cell 0 rfl
          have c_res_1_1 := R_res_1.cell 1 rfl
          have c_res_2_1 := R_res_1.cell 2 rfl
          have z_res_0_1 := R_res_1.frozen 0
          have z_res_1_1 := R_res_1.frozen 1
          have z_res_2_1 := R_res_1.frozen 2
          have l_res_1 := R_res_1.lt
          have R_x_1 : Row w1 (w.heap.size + 1 + 1) [.int .i64 rooms, .int .i64 sold, .slice (some ⟨b, off, none⟩) zs.length cap] := by (repeat' (first | (with_reducible assumption) | (with_reducible refine Row.new' _ _ _ (by first | rfl | (simp; done) | omega)) | (with_reducible refine Row.alloc ?_ _) | (with_reducible refine Row.drew ?_) | (with_reducible refine Row.drewN ?_ _) | (with_reducible refine Row.step ?_ (by with_reducible assumption)) | (with_reducible refine Row.set2' ?_ _ _; first | exact ⟨_, _, by with_reducible assumption⟩ | exact ⟨_, _, Row.alloc (by with_reducible assumption) _⟩ | exact ⟨_, _, Row.alloc (Row.alloc (by with_reducible assumption) _) _⟩) | (with_reducible refine Row.other ?_ (by first | omega | (simp; done) | (simp; omega)) _)))
          have c_x_0_1 := R_x_1.cell 0 rfl
          have c_x_1_1 := R_x_1.cell 1 rfl
          have c_x_2_1 := R_x_1.cell 2 rfl
          have z_x_0_1 := R_x_1.frozen 0
          have z_x_1_1 := R_x_1.frozen 1
          have z_x_2_1 := R_x_1.frozen 2
          have l_x_1 := R_x_1.lt
          have HB1 : Below w.heap.size w w1 := by (repeat' (first | (with_reducible exact Below.refl _ _) | (with_reducible assumption) | (with_reducible exact Bw.out (by with_reducible assumption)) | (with_reducible refine bw_alloc ?_ _) | (with_reducible refine bw_step ?_ (by with_reducible assumption)) | (with_reducible refine Below.alloc ?_ ?_ _) | (with_reducible refine Below.drew ?_) | (with_reducible refine below_drewN ?_ _) | (with_reducible refine Below.setCell ?_ ?_ _) | (with_reducible refine below_step ?_ (by with_reducible assumption) ?_) | (with_reducible exact Nat.le_refl _) | omega | (simp; omega) | (simp; done)))
          go_wp2_with fail
          refine (has_any _ _ _ _ _ _ _ hm).mono ?_
          rintro e w2 ⟨rfl, hb2⟩
          have R_n_2 : Row w2 (w.heap.size) [.int .i64 rooms, .int .i64 sold, .slice (some ⟨b, off, none⟩) zs.length cap] := by (repeat' (first | (with_reducible assumption) | (with_reducible refine Row.new' _ _ _ (by first | rfl | (simp; done) | omega)) | (with_reducible refine Row.alloc ?_ _) | (with_reducible refine Row.drew ?_) | (with_reducible refine Row.drewN ?_ _) | (with_reducible refine Row.step ?_ (by with_reducible assumption)) | (with_reducible refine Row.set2' ?_ _ _; first | exact ⟨_, _, by with_reducible assumption⟩ | exact ⟨_, _, Row.alloc (by with_reducible assumption) _⟩ | exact ⟨_, _, Row.alloc (Row.alloc (by with_reducible assumption) _) _⟩) | (with_reducible refine Row.other ?_ (by first | omega | (simp; done) | (simp; omega)) _)))
          have c_n_0_2 := R_n_2.cell 0 rfl
          have c_n_1_2 := R_n_2.cell 1 rfl
          have c_n_2_2 := R_n_2.cell 2 rfl
          have l_n_2 := R_n_2.lt
          have R_res_2 : Row w2 (w.heap.size + 1) [.int .i64 0, .int .i64 0, .slice none 0 0] := by (repeat' (first | (with_reducible assumption) | (with_reducible refine Row.new' _ _ _ (by first | rfl | (simp; done) | omega)) | (with_reducible refine Row.alloc ?_ _) | (with_reducible refine Row.drew ?_) | (with_reducible refine Row.drewN ?_ _) | (with_reducible refine Row.step ?_ (by with_reducible assumption)) | (with_reducible refine Row.set2' ?_ _ _; first | exact ⟨_, _, by with_reducible assumption⟩ | exact ⟨_, _, Row.alloc (by with_reducible assumption) _⟩ | exact ⟨_, _, Row.alloc (Row.alloc (by with_reducible assumption) _) _⟩) | (with_reducible refine Row.other ?_ (by first | omega | (simp; done) | (simp; omega)) _)))
          have c_res_0_2 := R_res_2.cell 0 rfl
          have c_res_1_2 := R_res_2.cell 1 rfl
          have c_res_2_2 := R_res_2.cell 2 rfl
          have z_res_0_2 := R_res_2.frozen 0
          have z_res_1_2 := R_res_2.frozen 1
          have z_res_2_2 := R_res_2.frozen 2
          have l_res_2 := R_res_2.lt
          have R_x_2 : Row w2 (w.heap.size + 1 + 1) [.int .i64 rooms, .int .i64 sold, .slice (some ⟨b, off, none⟩) zs.length cap] := by (repeat' (first | (with_reducible assumption) | (with_reducible refine Row.new' _ _ _ (by first | rfl | (simp; done) | omega)) | (with_reducible refine Row.alloc ?_ _) | (with_reducible refine Row.drew ?_) | (with_reducible refine Row.drewN ?_ _) | (with_reducible refine Row.step ?_ (by with_reducible assumption)) | (with_reducible refine Row.set2' ?_ _ _; first | exact ⟨_, _, by with_reducible assumption⟩ | exact ⟨_, _, Row.alloc (by with_reducible assumption) _⟩ | exact ⟨_, _, Row.alloc (Row.alloc (by with_reducible assumption) _) _⟩) | (with_reducible refine Row.other ?_ (by first | omega | (simp; done) | (simp; omega)) _)))
          have c_x_0_2 := R_x_2.cell 0 rfl
          have c_x_1_2 := R_x_2.cell 1 rfl
          have c_x_2_2 := R_x_2.cell 2 rfl
          have z_x_0_2 := R_x_2.frozen 0
          have z_x_1_2 := R_x_2.frozen 1
          have z_x_2_2 := R_x_2.frozen 2
          have l_x_2 := R_x_2.lt
          have HB2 : Below w.heap.size w w2 := by (repeat' (first | (with_reducible exact Below.refl _ _) | (with_reducible assumption) | (with_reducible exact Bw.out (by with_reducible assumption)) | (with_reducible refine bw_alloc ?_ _) | (with_reducible refine bw_step ?_ (by with_reducible assumption)) | (with_reducible refine Below.alloc ?_ ?_ _) | (with_reducible refine Below.drew ?_) | (with_reducible refine below_drewN ?_ _) | (with_reducible refine Below.setCell ?_ ?_ _) | (with_reducible refine below_step ?_ (by with_reducible assumption) ?_) | (with_reducible exact Nat.le_refl _) | omega | (simp; omega) | (simp; done)))
          clear R_n_1 c_n_0_1 c_n_1_1 c_n_2_1 R_res_1 c_res_0_1 c_res_1_1 c_res_2_1 z_res_0_1 z_res_1_1 z_res_2_1 R_x_1 c_x_0_1 c_x_1_1 c_x_2_1 z_x_0_1 z_x_1_1 z_x_2_1 hb1 HB1
          go_wp2_with fail
          refine (within_one 1000 r _ _ (by (repeat' (first | (with_reducible assumption) | (with_reducible refine Row.new' _ _ _ (by first | rfl | (simp; done) | omega)) | (with_reducible refine Row.alloc ?_ _) | (with_reducible refine Row.drew ?_) | (with_reducible refine Row.drewN ?_ _) | (with_reducible refine Row.step ?_ (by with_reducible assumption)))))).mono ?_
          rintro e w3 ⟨rfl, hb3⟩
          have R_n_3 : Row w3 (w.heap.size) [.int .i64 rooms, .int .i64 sold, .slice (some ⟨b, off, none⟩) zs.length cap] := by (repeat' (first | (with_reducible assumption) | (with_reducible refine Row.new' _ _ _ (by first | rfl | (simp; done) | omega)) | (with_reducible refine Row.alloc ?_ _) | (with_reducible refine Row.drew ?_) | (with_reducible refine Row.drewN ?_ _) | (with_reducible refine Row.step ?_ (by with_reducible assumption)) | (with_reducible refine Row.set2' ?_ _ _; first | exact ⟨_, _, by with_reducible assumption⟩ | exact ⟨_, _, Row.alloc (by with_reducible assumption) _⟩ | exact ⟨_, _, Row.alloc (Row.alloc (by with_reducible assumption) _) _⟩) | (with_reducible refine Row.other ?_ (by first | omega | (simp; done) | (simp; omega)) _)))
          have c_n_0_3 := R_n_3.cell 0 rfl
          have c_n_1_3 := R_n_3.cell 1 rfl
          have c_n_2_3 := R_n_3.cell 2 rfl
          have l_n_3 := R_n_3.lt
          have R_res_3 : Row w3 (w.heap.size + 1) [.int .i64 0, .int .i64 0, .slice none 0 0] := by (repeat' (first | (with_reducible assumption) | (with_reducible refine Row.new' _ _ _ (by first | rfl | (simp; done) | omega)) | (with_reducible refine Row.alloc ?_ _) | (with_reducible refine Row.drew ?_) | (with_reducible refine Row.drewN ?_ _) | (with_reducible refine Row.step ?_ (by with_reducible assumption)) | (with_reducible refine Row.set2' ?_ _ _; first | exact ⟨_, _, by with_reducible assumption⟩ | exact ⟨_, _, Row.alloc (by with_reducible assumption) _⟩ | exact ⟨_, _, Row.alloc (Row.alloc (by with_reducible assumption) _) _⟩) | (with_reducible refine Row.other ?_ (by first | omega | (simp; done) | (simp; omega)) _)))
          have c_res_0_3 := R_res_3.cell 0 rfl
          have c_res_1_3 := R_res_3.cell 1 rfl
          have c_res_2_3 := R_res_3.cell 2 rfl
          have z_res_0_3 := R_res_3.frozen 0
          have z_res_1_3 := R_res_3.frozen 1
          have z_res_2_3 := R_res_3.frozen 2
          have l_res_3 := R_res_3.lt
          have R_x_3 : Row w3 (w.heap.size + 1 + 1) [.int .i64 rooms, .int .i64 sold, .slice (some ⟨b, off, none⟩) zs.length cap] := by (repeat' (first | (with_reducible assumption) | (with_reducible refine Row.new' _ _ _ (by first | rfl | (simp; done) | omega)) | (with_reducible refine Row.alloc ?_ _) | (with_reducible refine Row.drew ?_) | (with_reducible refine Row.drewN ?_ _) | (with_reducible refine Row.step ?_ (by with_reducible assumption)) | (with_reducible refine Row.set2' ?_ _ _; first | exact ⟨_, _, by with_reducible assumption⟩ | exact ⟨_, _, Row.alloc (by with_reducible assumption) _⟩ | exact ⟨_, _, Row.alloc (Row.alloc (by with_reducible assumption) _) _⟩) | (with_reducible refine Row.other ?_ (by first | omega | (simp; done) | (simp; omega)) _)))
          have c_x_0_3 := R_x_3.cell 0 rfl
          have c_x_1_3 := R_x_3.cell 1 rfl
          have c_x_2_3 := R_x_3.cell 2 rfl
          have z_x_0_3 := R_x_3.frozen 0
          have z_x_1_3 := R_x_3.frozen 1
          have z_x_2_3 := R_x_3.frozen 2
          have l_x_3 := R_x_3.lt
          have HB3 : Below w.heap.size w w3 := by (repeat' (first | (with_reducible exact Below.refl _ _) | (with_reducible assumption) | (with_reducible exact Bw.out (by with_reducible assumption)) | (with_reducible refine bw_alloc ?_ _) | (with_reducible refine bw_step ?_ (by with_reducible assumption)) | (with_reducible refine Below.alloc ?_ ?_ _) | (with_reducible refine Below.drew ?_) | (with_reducible refine below_drewN ?_ _) | (with_reducible refine Below.setCell ?_ ?_ _) | (with_reducible refine below_step ?_ (by with_reducible assumption) ?_) | (with_reducible exact Nat.le_refl _) | omega | (simp; omega) | (simp; done)))
          clear R_n_2 c_n_0_2 c_n_1_2 c_n_2_2 R_res_2 c_res_0_2 c_res_1_2 c_res_2_2 z_res_0_2 z_res_1_2 z_res_2_2 R_x_2 c_x_0_2 c_x_1_2 c_x_2_2 z_x_0_2 z_x_1_2 z_x_2_2 hb2 HB2
          have cz3 := (HB3.cell (p := ⟨b, off + c, none⟩) hbl).trans cz
          go_wp2_with fail
          refine bodyPost_ret (v := .tuple #[.agg #[.int .i64 0, .int .i64 0, .slice none 0 0], .int .i64 3]) (by simp [results, Try.results32, go_sem, c_res_0_3, c_res_1_3, c_res_2_3, l_res_3]) rfl ⟨_, rfl, SlV.nil _, FromV.nil _ _, ?_⟩
          (repeat' (first | (with_reducible exact Below.refl _ _) | (with_reducible assumption) | (with_reducible exact Bw.out (by with_reducible assumption)) | (with_reducible refine bw_alloc ?_ _) | (with_reducible refine bw_step ?_ (by with_reducible assumption)) | (with_reducible refine Below.alloc ?_ ?_ _) | (with_reducible refine Below.drew ?_) | (with_reducible refine below_drewN ?_ _) | (with_reducible refine Below.setCell ?_ ?_ _) | (with_reducible refine below_step ?_ (by with_reducible assumption) ?_) | (with_reducible exact Nat.le_refl _) | omega | (simp; omega) | (simp; done)))
        · have eE : seE rooms sold zs (c : Int) r = 0 := by
            unfold seE
            rw [if_pos ⟨hn, Or.inr ⟨by omega, by omega⟩, hr1, hr2⟩, if_neg (by rw [Int.toNat_natCast, hz.out]; omega), if_neg hS]
          rw [eE]
          simp only [seR, seZ, if_true]
          have eZ : Hid ((if (c : Int) = -1 then zs else zs.set (c : Int).toNat (zs.getD (c : Int).toNat 0 - r)) = zs.set c (z + -r)) := by
            show _ = _
            rw [if_neg (by omega), Int.toNat_natCast, hz.out, Int.sub_eq_add_neg]
          have HZ := hz
          clear eE hz
          go_enter Try.func32, Try.ntmps32
          go_wp2_with fail
          refine (right_any _ _ _ _ _ zs _ hm (HS.out.below (by (repeat' (first | (with_reducible exact Below.refl _ _) | (with_reducible assumption) | (with_reducible exact Bw.out (by with_reducible assumption)) | (with_reducible refine bw_alloc ?_ _) | (with_reducible refine bw_step ?_ (by with_reducible assumption)) | (with_reducible refine Below.alloc ?_ ?_ _) | (with_reducible refine Below.drew ?_) | (with_reducible refine below_drewN ?_ _) | (with_reducible refine Below.setCell ?_ ?_ _) | (with_reducible refine below_step ?_ (by with_reducible assumption) ?_) | (with_reducible exact Nat.le_refl _) | omega | (simp; omega) | (simp; done)))))).mono ?_
          rintro e w1 ⟨rfl, hb1⟩
          have R_n_1 : Row w1 (w.heap.size) [.int .i64 rooms, .int .i64 sold, .slice (some ⟨b, off, none⟩) zs.length cap] := by (repeat' (first | (with_reducible assumption) | (with_reducible refine Row.new' _ _ _ (by first | rfl | (simp; done) | omega)) | (with_reducible refine Row.alloc ?_ _) | (with_reducible refine Row.drew ?_) | (with_reducible refine Row.drewN ?_ _) | (with_reducible refine Row.step ?_ (by with_reducible assumption)) | (with_reducible refine Row.set2' ?_ _ _; first | exact ⟨_, _, by with_reducible assumption⟩ | exact ⟨_, _, Row.alloc (by with_reducible assumption) _⟩ | exact ⟨_, _, Row.alloc (Row.alloc (by with_reducible assumption) _) _⟩) | (with_reducible refine Row.other ?_ (by first | omega | (simp; done) | (simp; omega)) _)))
          have c_n_0_1 := R_n_1.cell 0 rfl
          have c_n_1_1 := R_n_1.cell 1 rfl
          have c_n_2_1 := R_n_1.cell 2 rfl
          have l_n_1 := R_n_1.lt
          have R_res_1 : Row w1 (w.heap.size + 1) [.int .i64 0, .int .i64 0, .slice none 0 0] := by (repeat' (first | (with_reducible assumption) | (with_reducible refine Row.new' _ _ _ (by first | rfl | (simp; done) | omega)) | (with_reducible refine Row.alloc ?_ _) | (with_reducible refine Row.drew ?_) | (with_reducible refine Row.drewN ?_ _) | (with_reducible refine Row.step ?_ (by with_reducible assumption)) | (with_reducible refine Row.set2' ?_ _ _; first | exact ⟨_, _, by with_reducible assumption⟩ | exact ⟨_, _, Row.alloc (by with_reducible assumption) _⟩ | exact ⟨_, _, Row.alloc (Row.alloc (by with_reducible assumption) _) _⟩) | (with_reducible refine Row.other ?_ (by first | omega | (simp; done) | (simp; omega)) _)))
          have c_res_0_1 := R_res_1.cell 0 rfl
          have c_res_1_1 := R_res_1.cell 1 rfl
          have c_res_2_1 := R_res_1.cell 2 rfl
          have z_res_0_1 := R_res_1.frozen 0
          have z_res_1_1 := R_res_1.frozen 1
          have z_res_2_1 := R_res_1.frozen 2
          have l_res_1 := R_res_1.lt
          have R_x_1 : Row w1 (w.heap.size + 1 + 1) [.int .i64 rooms, .int .i64 sold, .slice (some ⟨b, off, none⟩) zs.length cap] := by (repeat' (first | (with_reducible assumption) | (with_reducible refine Row.new' _ _ _ (by first | rfl | (simp; done) | omega)) | (with_reducible refine Row.alloc ?_ _) | (with_reducible refine Row.drew ?_) | (with_reducible refine Row.drewN ?_ _) | (with_reducible refine Row.step ?_ (by with_reducible assumption)) | (with_reducible refine Row.set2' ?_ _ _; first | exact ⟨_, _, by with_reducible assumption⟩ | exact ⟨_, _, Row.alloc (by with_reducible assumption) _⟩ | exact ⟨_, _, Row.alloc (Row.alloc (by with_reducible assumption) _) _⟩) | (with_reducible refine Row.other ?_ (by first | omega | (simp; done) | (simp; omega)) _)))
          have c_x_0_1 := R_x_1.cell 0 rfl
          have c_x_1_1 := R_x_1.cell 1 rfl
          have c_x_2_1 := R_x_1.cell 2 rfl
          have z_x_0_1 := R_x_1.frozen 0
          have z_x_1_1 := R_x_1.frozen 1
          have z_x_2_1 := R_x_1.frozen 2
          have l_x_1 := R_x_1.lt
          have HB1 : Below w.heap.size w w1 := by (repeat' (first | (with_reducible exact Below.refl _ _) | (with_reducible assumption) | (with_reducible exact Bw.out (by with_reducible assumption)) | (with_reducible refine bw_alloc ?_ _) | (with_reducible refine bw_step ?_ (by with_reducible assumption)) | (with_reducible refine Below.alloc ?_ ?_ _) | (with_reducible refine Below.drew ?_) | (with_reducible refine below_drewN ?_ _) | (with_reducible refine Below.setCell ?_ ?_ _) | (with_reducible refine below_step ?_ (by with_reducible assumption) ?_) | (with_reducible exact Nat.le_refl _) | omega | (simp; omega) | (simp; done)))
          go_wp2_with fail
          refine (has_any _ _ _ _ _ _ _ hm).mono ?_
          rintro e w2 ⟨rfl, hb2⟩
          have R_n_2 : Row w2 (w.heap.size) [.int .i64 rooms, .int .i64 sold, .slice (some ⟨b, off, none⟩) zs.length cap] := by (repeat' (first | (with_reducible assumption) | (with_reducible refine Row.new' _ _ _ (by first | rfl | (simp; done) | omega)) | (with_reducible refine Row.alloc ?_ _) | (with_reducible refine Row.drew ?_) | (with_reducible refine Row.drewN ?_ _) | (with_reducible refine Row.step ?_ (by with_reducible assumption)) | (with_reducible refine Row.set2' ?_ _ _; first | exact ⟨_, _, by with_reducible assumption⟩ | exact ⟨_, _, Row.alloc (by with_reducible assumption) _⟩ | exact ⟨_, _, Row.alloc (Row.alloc (by with_reducible assumption) _) _⟩) | (with_reducible refine Row.other ?_ (by first | omega | (simp; done) | (simp; omega)) _)))
          have c_n_0_2 := R_n_2.cell 0 rfl
          have c_n_1_2 := R_n_2.cell 1 rfl
          have c_n_2_2 := R_n_2.cell 2 rfl
          have l_n_2 := R_n_2.lt
          have R_res_2 : Row w2 (w.heap.size + 1) [.int .i64 0, .int .i64 0, .slice none 0 0] := by (repeat' (first | (with_reducible assumption) | (with_reducible refine Row.new' _ _ _ (by first | rfl | (simp; done) | omega)) | (with_reducible refine Row.alloc ?_ _) | (with_reducible refine Row.drew ?_) | (with_reducible refine Row.drewN ?_ _) | (with_reducible refine Row.step ?_ (by with_reducible assumption)) | (with_reducible refine Row.set2' ?_ _ _; first | exact ⟨_, _, by with_reducible assumption⟩ | exact ⟨_, _, Row.alloc (by with_reducible assumption) _⟩ | exact ⟨_, _, Row.alloc (Row.alloc (by with_reducible assumption) _) _⟩) | (with_reducible refine Row.other ?_ (by first | omega | (simp; done) | (simp; omega)) _)))
          have c_res_0_2 := R_res_2.cell 0 rfl
          have c_res_1_2 := R_res_2.cell 1 rfl
          have c_res_2_2 := R_res_2.cell 2 rfl
          have z_res_0_2 := R_res_2.frozen 0
          have z_res_1_2 := R_res_2.frozen 1
          have z_res_2_2 := R_res_2.frozen 2
          have l_res_2 := R_res_2.lt
          have R_x_2 : Row w2 (w.heap.size + 1 + 1) [.int .i64 rooms, .int .i64 sold, .slice (some ⟨b, off, none⟩) zs.length cap] := by (repeat' (first | (with_reducible assumption) | (with_reducible refine Row.new' _ _ _ (by first | rfl | (simp; done) | omega)) | (with_reducible refine Row.alloc ?_ _) | (with_reducible refine Row.drew ?_) | (with_reducible refine Row.drewN ?_ _) | (with_reducible refine Row.step ?_ (by with_reducible assumption)) | (with_reducible refine Row.set2' ?_ _ _; first | exact ⟨_, _, by with_reducible assumption⟩ | exact ⟨_, _, Row.alloc (by with_reducible assumption) _⟩ | exact ⟨_, _, Row.alloc (Row.alloc (by with_reducible assumption) _) _⟩) | (with_reducible refine Row.other ?_ (by first | omega | (simp; done) | (simp; omega)) _)))
          have c_x_0_2 := R_x_2.cell 0 rfl
          have c_x_1_2 := R_x_2.cell 1 rfl
          have c_x_2_2 := R_x_2.cell 2 rfl
          have z_x_0_2 := R_x_2.frozen 0
          have z_x_1_2 := R_x_2.frozen 1
          have z_x_2_2 := R_x_2.frozen 2
          have l_x_2 := R_x_2.lt
          have HB2 : Below w.heap.size w w2 := by (repeat' (first | (with_reducible exact Below.refl _ _) | (with_reducible assumption) | (with_reducible exact Bw.out (by with_reducible assumption)) | (with_reducible refine bw_alloc ?_ _) | (with_reducible refine bw_step ?_ (by with_reducible assumption)) | (with_reducible refine Below.alloc ?_ ?_ _) | (with_reducible refine Below.drew ?_) | (with_reducible refine below_drewN ?_ _) | (with_reducible refine Below.setCell ?_ ?_ _) | (with_reducible refine below_step ?_ (by with_reducible assumption) ?_) | (with_reducible exact Nat.le_refl _) | omega | (simp; omega) | (simp; done)))
          clear R_n_1 c_n_0_1 c_n_1_1 c_n_2_1 R_res_1 c_res_0_1 c_res_1_1 c_res_2_1 z_res_0_1 z_res_1_1 z_res_2_1 R_x_1 c_x_0_1 c_x_1_1 c_x_2_1 z_x_0_1 z_x_1_1 z_x_2_1 hb1 HB1
          go_wp2_with fail
          refine (within_one 1000 r _ _ (by (repeat' (first | (with_reducible assumption) | (with_reducible refine Row.new' _ _ _ (by first | rfl | (simp; done) | omega)) | (with_reducible refine Row.alloc ?_ _) | (with_reducible refine Row.drew ?_) | (with_reducible refine Row.drewN ?_ _) | (with_reducible refine Row.step ?_ (by with_reducible assumption)))))).mono ?_
          rintro e w3 ⟨rfl, hb3⟩
          have R_n_3 : Row w3 (w.heap.size) [.int .i64 rooms, .int .i64 sold, .slice (some ⟨b, off, none⟩) zs.length cap] := by (repeat' (first | (with_reducible assumption) | (with_reducible refine Row.new' _ _ _ (by first | rfl | (simp; done) | omega)) | (with_reducible refine Row.alloc ?_ _) | (with_reducible refine Row.drew ?_) | (with_reducible refine Row.drewN ?_ _) | (with_reducible refine Row.step ?_ (by with_reducible assumption)) | (with_reducible refine Row.set2' ?_ _ _; first | exact ⟨_, _, by with_reducible assumption⟩ | exact ⟨_, _, Row.alloc (by with_reducible assumption) _⟩ | exact ⟨_, _, Row.alloc (Row.alloc (by with_reducible assumption) _) _⟩) | (with_reducible refine Row.other ?_ (by first | omega | (simp; done) | (simp; omega)) _)))
          have c_n_0_3 := R_n_3.cell 0 rfl
          have c_n_1_3 := R_n_3.cell 1 rfl
          have c_n_2_3 := R_n_3.cell 2 rfl
          have l_n_3 := R_n_3.lt
          have R_res_3 : Row w3 (w.heap.size + 1) [.int .i64 0, .int .i64 0, .slice none 0 0] := by (repeat' (first | (with_reducible assumption) | (with_reducible refine Row.new' _ _ _ (by first | rfl | (simp; done) | omega)) | (with_reducible refine Row.alloc ?_ _) | (with_reducible refine Row.drew ?_) | (with_reducible refine Row.drewN ?_ _) | (with_reducible refine Row.step ?_ (by with_reducible assumption)) | (with_reducible refine Row.set2' ?_ _ _; first | exact ⟨_, _, by with_reducible assumption⟩ | exact ⟨_, _, Row.alloc (by with_reducible assumption) _⟩ | exact ⟨_, _, Row.alloc (Row.alloc (by with_reducible assumption) _) _⟩) | (with_reducible refine Row.other ?_ (by first | omega | (simp; done) | (simp; omega)) _)))
          have c_res_0_3 := R_res_3.cell 0 rfl
          have c_res_1_3 := R_res_3.cell 1 rfl
          have c_res_2_3 := R_res_3.cell 2 rfl
          have z_res_0_3 := R_res_3.frozen 0
          have z_res_1_3 := R_res_3.frozen 1
          have z_res_2_3 := R_res_3.frozen 2
          have l_res_3 := R_res_3.lt
          have R_x_3 : Row w3 (w.heap.size + 1 + 1) [.int .i64 rooms, .int .i64 sold, .slice (some ⟨b, off, none⟩) zs.length cap] := by (repeat' (first | (with_reducible assumption) | (with_reducible refine Row.new' _ _ _ (by first | rfl | (simp; done) | omega)) | (with_reducible refine Row.alloc ?_ _) | (with_reducible refine Row.drew ?_) | (with_reducible refine Row.drewN ?_ _) | (with_reducible refine Row.step ?_ (by with_reducible assumption)) | (with_reducible refine Row.set2' ?_ _ _; first | exact ⟨_, _, by with_reducible assumption⟩ | exact ⟨_, _, Row.alloc (by with_reducible assumption) _⟩ | exact ⟨_, _, Row.alloc (Row.alloc (by with_reducible assumption) _) _⟩) | (with_reducible refine Row.other ?_ (by first | omega | (simp; done) | (simp; omega)) _)))
          have c_x_0_3 := R_x_3.cell 0 rfl
          have c_x_1_3 := R_x_3.cell 1 rfl
          have c_x_2_3 := R_x_3.cell 2 rfl
          have z_x_0_3 := R_x_3.frozen 0
          have z_x_1_3 := R_x_3.frozen 1
          have z_x_2_3 := R_x_3.frozen 2
          have l_x_3 := R_x_3.lt
          have HB3 : Below w.heap.size w w3 := by (repeat' (first | (with_reducible exact Below.refl _ _) | (with_reducible assumption) | (with_reducible exact Bw.out (by with_reducible assumption)) | (with_reducible refine bw_alloc ?_ _) | (with_reducible refine bw_step ?_ (by with_reducible assumption)) | (with_reducible refine Below.alloc ?_ ?_ _) | (with_reducible refine Below.drew ?_) | (with_reducible refine below_drewN ?_ _) | (with_reducible refine Below.setCell ?_ ?_ _) | (with_reducible refine below_step ?_ (by with_reducible assumption) ?_) | (with_reducible exact Nat.le_refl _) | omega | (simp; omega) | (simp; done)))
          clear R_n_2 c_n_0_2 c_n_1_2 c_n_2_2 R_res_2 c_res_0_2 c_res_1_2 c_res_2_2 z_res_0_2 z_res_1_2 z_res_2_2 R_x_2 c_x_0_2 c_x_1_2 c_x_2_2 z_x_0_2 z_x_1_2 z_x_2_2 hb2 HB2
          have cz3 := (HB3.cell (p := ⟨b, off + c, none⟩) hbl).trans cz
          go_wp2_with fail
          refine (add_any _ _ _ z _ _ _ _ _ zs _ (by omega) (HS.out.below (by (repeat' (first | (with_reducible exact Below.refl _ _) | (with_reducible assumption) | (with_reducible exact Bw.out (by with_reducible assumption)) | (with_reducible refine bw_alloc ?_ _) | (with_reducible refine bw_step ?_ (by with_reducible assumption)) | (with_reducible refine Below.alloc ?_ ?_ _) | (with_reducible refine Below.drew ?_) | (with_reducible refine below_drewN ?_ _) | (with_reducible refine Below.setCell ?_ ?_ _) | (with_reducible refine below_step ?_ (by with_reducible assumption) ?_) | (with_reducible exact Nat.le_refl _) | omega | (simp; omega) | (simp; done))))) hcn hcap1 hcap2 HZ.out z1 z2 (by omega) (by omega)).mono ?_
          rintro e w4 ⟨g, cap2, rfl, hg, hv2, hv3, hv4, hb4⟩
          have R_n_4 : Row w4 (w.heap.size) [.int .i64 rooms, .int .i64 sold, .slice (some ⟨b, off, none⟩) zs.length cap] := by (repeat' (first | (with_reducible assumption) | (with_reducible refine Row.new' _ _ _ (by first | rfl | (simp; done) | omega)) | (with_reducible refine Row.alloc ?_ _) | (with_reducible refine Row.drew ?_) | (with_reducible refine Row.drewN ?_ _) | (with_reducible refine Row.step ?_ (by with_reducible assumption)) | (with_reducible refine Row.set2' ?_ _ _; first | exact ⟨_, _, by with_reducible assumption⟩ | exact ⟨_, _, Row.alloc (by with_reducible assumption) _⟩ | exact ⟨_, _, Row.alloc (Row.alloc (by with_reducible assumption) _) _⟩) | (with_reducible refine Row.other ?_ (by first | omega | (simp; done) | (simp; omega)) _)))
          have c_n_0_4 := R_n_4.cell 0 rfl
          have c_n_1_4 := R_n_4.cell 1 rfl
          have c_n_2_4 := R_n_4.cell 2 rfl
          have l_n_4 := R_n_4.lt
          have R_res_4 : Row w4 (w.heap.size + 1) [.int .i64 0, .int .i64 0, .slice none 0 0] := by (repeat' (first | (with_reducible assumption) | (with_reducible refine Row.new' _ _ _ (by first | rfl | (simp; done) | omega)) | (with_reducible refine Row.alloc ?_ _) | (with_reducible refine Row.drew ?_) | (with_reducible refine Row.drewN ?_ _) | (with_reducible refine Row.step ?_ (by with_reducible assumption)) | (with_reducible refine Row.set2' ?_ _ _; first | exact ⟨_, _, by with_reducible assumption⟩ | exact ⟨_, _, Row.alloc (by with_reducible assumption) _⟩ | exact ⟨_, _, Row.alloc (Row.alloc (by with_reducible assumption) _) _⟩) | (with_reducible refine Row.other ?_ (by first | omega | (simp; done) | (simp; omega)) _)))
          have c_res_0_4 := R_res_4.cell 0 rfl
          have c_res_1_4 := R_res_4.cell 1 rfl
          have c_res_2_4 := R_res_4.cell 2 rfl
          have z_res_0_4 := R_res_4.frozen 0
          have z_res_1_4 := R_res_4.frozen 1
          have z_res_2_4 := R_res_4.frozen 2
          have l_res_4 := R_res_4.lt
          have R_x_4 : Row w4 (w.heap.size + 1 + 1) [.int .i64 rooms, .int .i64 sold, .slice (some ⟨b, off, none⟩) zs.length cap] := by (repeat' (first | (with_reducible assumption) | (with_reducible refine Row.new' _ _ _ (by first | rfl | (simp; done) | omega)) | (with_reducible refine Row.alloc ?_ _) | (with_reducible refine Row.drew ?_) | (with_reducible refine Row.drewN ?_ _) | (with_reducible refine Row.step ?_ (by with_reducible assumption)) | (with_reducible refine Row.set2' ?_ _ _; first | exact ⟨_, _, by with_reducible assumption⟩ | exact ⟨_, _, Row.alloc (by with_reducible assumption) _⟩ | exact ⟨_, _, Row.alloc (Row.alloc (by with_reducible assumption) _) _⟩) | (with_reducible refine Row.other ?_ (by first | omega | (simp; done) | (simp; omega)) _)))
          have c_x_0_4 := R_x_4.cell 0 rfl
          have c_x_1_4 := R_x_4.cell 1 rfl
          have c_x_2_4 := R_x_4.cell 2 rfl
          have z_x_0_4 := R_x_4.frozen 0
          have z_x_1_4 := R_x_4.frozen 1
          have z_x_2_4 := R_x_4.frozen 2
          have l_x_4 := R_x_4.lt
          have HB4 : Below w.heap.size w w4 := by (repeat' (first | (with_reducible exact Below.refl _ _) | (with_reducible assumption) | (with_reducible exact Bw.out (by with_reducible assumption)) | (with_reducible refine bw_alloc ?_ _) | (with_reducible refine bw_step ?_ (by with_reducible assumption)) | (with_reducible refine Below.alloc ?_ ?_ _) | (with_reducible refine Below.drew ?_) | (with_reducible refine below_drewN ?_ _) | (with_reducible refine Below.setCell ?_ ?_ _) | (with_reducible refine below_step ?_ (by with_reducible assumption) ?_) | (with_reducible exact Nat.le_refl _) | omega | (simp; omega) | (simp; done)))
          clear R_n_3 c_n_0_3 c_n_1_3 c_n_2_3 R_res_3 c_res_0_3 c_res_1_3 c_res_2_3 z_res_0_3 z_res_1_3 z_res_2_3 R_x_3 c_x_0_3 c_x_1_3 c_x_2_3 z_x_0_3 z_x_1_3 z_x_2_3 hb3 HB3
          go_upto_region 11 with fail
          generalize hW5 : ((w4.setCell ⟨w.heap.size + 1 + 1, 0, none⟩ (.int .i64 rooms)).setCell ⟨w.heap.size + 1 + 1, 1, none⟩ (.int .i64 sold)).setCell ⟨w.heap.size + 1 + 1, 2, none⟩ (.slice (some ⟨g, 0, none⟩) zs.length cap2) = w5
          have Rx5 : Row w5 (w.heap.size + 1 + 1) [.int .i64 rooms, .int .i64 sold, .slice (some ⟨g, 0, none⟩) zs.length cap2] := by rw [← hW5]; exact R_x_4.set3 _ _ _
          have Rr5 : Row w5 (w.heap.size + 1) [.int .i64 0, .int .i64 0, .slice none 0 0] := by rw [← hW5]; exact ((R_res_4.other (by simp) _).other (by simp) _).other (by simp) _
          have HB5 : Below w.heap.size w w5 := by rw [← hW5]; (repeat' (first | (with_reducible exact Below.refl _ _) | (with_reducible assumption) | (with_reducible exact Bw.out (by with_reducible assumption)) | (with_reducible refine bw_alloc ?_ _) | (with_reducible refine bw_step ?_ (by with_reducible assumption)) | (with_reducible refine Below.alloc ?_ ?_ _) | (with_reducible refine Below.drew ?_) | (with_reducible refine below_drewN ?_ _) | (with_reducible refine Below.setCell ?_ ?_ _) | (with_reducible refine below_step ?_ (by with_reducible assumption) ?_) | (with_reducible exact Nat.le_refl _) | omega | (simp; omega) | (simp; done)))
          have hv6 : Hid (OwnI w5 g (zs.set c (z + -r))) := by
            rw [← hW5]
            exact ((hv2.other (by simp; omega) _).other (by simp; omega) _).other (by simp; omega) _
          clear hv2
          have x0 := Rx5.cell 0 rfl
          have x1 := Rx5.cell 1 rfl
          have x2 := Rx5.cell 2 rfl
          have xf := Rx5.frozen 1
          have xl := Rx5.lt
          have c_res_0_5 := Rr5.cell 0 rfl
          have c_res_1_5 := Rr5.cell 1 rfl
          have c_res_2_5 := Rr5.cell 2 rfl
          have f0 := Rr5.frozen 0
          have f1 := Rr5.frozen 1
          have f2 := Rr5.frozen 2
          have l_res_5 := Rr5.lt
          go_wp2_with fail
          refine bodyPost_ret (v := .tuple #[.agg #[.int .i64 rooms, .int .i64 (sold + r), .slice (some ⟨g, 0, none⟩) zs.length cap2], .int .i64 0]) (by simp [results, Try.results32, go_sem, c_res_0_5, c_res_1_5, c_res_2_5, l_res_5]) rfl ⟨.slice (some ⟨g, 0, none⟩) zs.length cap2, rfl, ?_, ?_, ?_⟩
          · have e : zs[c] = z := by have := HZ.out; simpa [List.getD, hcn] using this
            rw [e, Int.sub_eq_add_neg]
            have hl : (zs.set c (z + -r)).length = zs.length := List.length_set
            refine ⟨some ⟨g, 0, none⟩, cap2, by rw [hl], ?_, by rw [hl]; exact hv3, by unfold maxLen; exact hv4⟩
            rw [hl]
            exact ((((hv6.out.other (by simp; omega) _).other (by simp; omega) _).other (by simp; omega) _).other (by simp; omega) _).sl hl
          · exact FromV.new _ (by omega)
          · (repeat' (first | (with_reducible exact Below.refl _ _) | (with_reducible assumption) | (with_reducible exact Bw.out (by with_reducible assumption)) | (with_reducible refine bw_alloc ?_ _) | (with_reducible refine bw_step ?_ (by with_reducible assumption)) | (with_reducible refine Below.alloc ?_ ?_ _) | (with_reducible refine Below.drew ?_) | (with_reducible refine below_drewN ?_ _) | (with_reducible refine Below.setCell ?_ ?_ _) | (with_reducible refine below_step ?_ (by with_reducible assumption) ?_) | (with_reducible exact Nat.le_refl _) | omega | (simp; omega) | (simp; done)))
  · rw [seE_arg hA]
    simp only [seR, seZ, show ¬ (1 : Int) = 0 by omega, if_false]
    cases hn : nightB rooms sold zs with
    | false =>
      clear hA
      go_enter Try.func32, Try.ntmps32
      go_wp2_with fail
      refine (right_any _ _ _ _ _ zs _ hm (HS.out.below (by (repeat' (first | (with_reducible exact Below.refl _ _) | (with_reducible assumption) | (with_reducible exact Bw.out (by with_reducible assumption)) | (with_reducible refine bw_alloc ?_ _) | (with_reducible refine bw_step ?_ (by with_reducible assumption)) | (with_reducible refine Below.alloc ?_ ?_ _) | (with_reducible refine Below.drew ?_) | (with_reducible refine below_drewN ?_ _) | (with_reducible refine Below.setCell ?_ ?_ _) | (with_reducible refine below_step ?_ (by with_reducible assumption) ?_) | (with_reducible exact Nat.le_refl _) | omega | (simp; omega) | (simp; done)))))).mono ?_
      rintro e w1 ⟨rfl, hb1⟩
      have R_n_1 : Row w1 (w.heap.size) [.int .i64 rooms, .int .i64 sold, .slice a zs.length cap] := by (repeat' (first | (with_reducible assumption) | (with_reducible refine Row.new' _ _ _ (by first | rfl | (simp; done) | omega)) | (with_reducible refine Row.alloc ?_ _) | (with_reducible refine Row.drew ?_) | (with_reducible refine Row.drewN ?_ _) | (with_reducible refine Row.step ?_ (by with_reducible assumption)) | (with_reducible refine Row.set2' ?_ _ _; first | exact ⟨_, _, by with_reducible assumption⟩ | exact ⟨_, _, Row.alloc (by with_reducible assumption) _⟩ | exact ⟨_, _, Row.alloc (Row.alloc (by with_reducible assumption) _) _⟩) | (with_reducible refine Row.other ?_ (by first | omega | (simp; done) | (simp; omega)) _)))
      have c_n_0_1 := R_n_1.cell 0 rfl
      have c_n_1_1 := R_n_1.cell 1 rfl
      have c_n_2_1 := R_n_1.cell 2 rfl
      have l_n_1 := R_n_1.lt
      have R_res_1 : Row w1 (w.heap.size + 1) [.int .i64 0, .int .i64 0, .slice none 0 0] := by (repeat' (first | (with_reducible assumption) | (with_reducible refine Row.new' _ _ _ (by first | rfl | (simp; done) | omega)) | (with_reducible refine Row.alloc ?_ _) | (with_reducible refine Row.drew ?_) | (with_reducible refine Row.drewN ?_ _) | (with_reducible refine Row.step ?_ (by with_reducible assumption)) | (with_reducible refine Row.set2' ?_ _ _; first | exact ⟨_, _, by with_reducible assumption⟩ | exact ⟨_, _, Row.alloc (by with_reducible assumption) _⟩ | exact ⟨_, _, Row.alloc (Row.alloc (by with_reducible assumption) _) _⟩) | (with_reducible refine Row.other ?_ (by first | omega | (simp; done) | (simp; omega)) _)))
      have c_res_0_1 := R_res_1.cell 0 rfl
      have c_res_1_1 := R_res_1.cell 1 rfl
      have c_res_2_1 := R_res_1.cell 2 rfl
      have z_res_0_1 := R_res_1.frozen 0
      have z_res_1_1 := R_res_1.frozen 1
      have z_res_2_1 := R_res_1.frozen 2
      have l_res_1 := R_res_1.lt
      have R_x_1 : Row w1 (w.heap.size + 1 + 1) [.int .i64 rooms, .int .i64 sold, .slice a zs.length cap] := by (repeat' (first | (with_reducible assumption) | (with_reducible refine Row.new' _ _ _ (by first | rfl | (simp; done) | omega)) | (with_reducible refine Row.alloc ?_ _) | (with_reducible refine Row.drew ?_) | (with_reducible refine Row.drewN ?_ _) | (with_reducible refine Row.step ?_ (by with_reducible assumption)) | (with_reducible refine Row.set2' ?_ _ _; first | exact ⟨_, _, by with_reducible assumption⟩ | exact ⟨_, _, Row.alloc (by with_reducible assumption) _⟩ | exact ⟨_, _, Row.alloc (Row.alloc (by with_reducible assumption) _) _⟩) | (with_reducible refine Row.other ?_ (by first | omega | (simp; done) | (simp; omega)) _)))
      have c_x_0_1 := R_x_1.cell 0 rfl
      have c_x_1_1 := R_x_1.cell 1 rfl
      have c_x_2_1 := R_x_1.cell 2 rfl
      have z_x_0_1 := R_x_1.frozen 0
      have z_x_1_1 := R_x_1.frozen 1
      have z_x_2_1 := R_x_1.frozen 2
      have l_x_1 := R_x_1.lt
      have HB1 : Below w.heap.size w w1 := by (repeat' (first | (with_reducible exact Below.refl _ _) | (with_reducible assumption) | (with_reducible exact Bw.out (by with_reducible assumption)) | (with_reducible refine bw_alloc ?_ _) | (with_reducible refine bw_step ?_ (by with_reducible assumption)) | (with_reducible refine Below.alloc ?_ ?_ _) | (with_reducible refine Below.drew ?_) | (with_reducible refine below_drewN ?_ _) | (with_reducible refine Below.setCell ?_ ?_ _) | (with_reducible refine below_step ?_ (by with_reducible assumption) ?_) | (with_reducible exact Nat.le_refl _) | omega | (simp; omega) | (simp; done)))
      go_wp2_with fail
      refine bodyPost_ret (v := .tuple #[.agg #[.int .i64 0, .int .i64 0, .slice none 0 0], .int .i64 1]) (by simp [results, Try.results32, go_sem, c_res_0_1, c_res_1_1, c_res_2_1, l_res_1]) rfl ⟨_, rfl, SlV.nil _, FromV.nil _ _, ?_⟩
      (repeat' (first | (with_reducible exact Below.refl _ _) | (with_reducible assumption) | (with_reducible exact Bw.out (by with_reducible assumption)) | (with_reducible refine bw_alloc ?_ _) | (with_reducible refine bw_step ?_ (by with_reducible assumption)) | (with_reducible refine Below.alloc ?_ ?_ _) | (with_reducible refine Below.drew ?_) | (with_reducible refine below_drewN ?_ _) | (with_reducible refine Below.setCell ?_ ?_ _) | (with_reducible refine below_step ?_ (by with_reducible assumption) ?_) | (with_reducible exact Nat.le_refl _) | omega | (simp; omega) | (simp; done)))
    | true =>
      by_cases h1 : ch = -1
      · subst h1
        have ho : outB 1000 r = true := outB_true (fun hh => hA ⟨hn, Or.inl rfl, hh⟩)
        clear hA
        go_enter Try.func32, Try.ntmps32
        go_wp2_with fail
        refine (right_any _ _ _ _ _ zs _ hm (HS.out.below (by (repeat' (first | (with_reducible exact Below.refl _ _) | (with_reducible assumption) | (with_reducible exact Bw.out (by with_reducible assumption)) | (with_reducible refine bw_alloc ?_ _) | (with_reducible refine bw_step ?_ (by with_reducible assumption)) | (with_reducible refine Below.alloc ?_ ?_ _) | (with_reducible refine Below.drew ?_) | (with_reducible refine below_drewN ?_ _) | (with_reducible refine Below.setCell ?_ ?_ _) | (with_reducible refine below_step ?_ (by with_reducible assumption) ?_) | (with_reducible exact Nat.le_refl _) | omega | (simp; omega) | (simp; done)))))).mono ?_
        rintro e w1 ⟨rfl, hb1⟩
        have R_n_1 : Row w1 (w.heap.size) [.int .i64 rooms, .int .i64 sold, .slice a zs.length cap] := by (repeat' (first | (with_reducible assumption) | (with_reducible refine Row.new' _ _ _ (by first | rfl | (simp; done) | omega)) | (with_reducible refine Row.alloc ?_ _) | (with_reducible refine Row.drew ?_) | (with_reducible refine Row.drewN ?_ _) | (with_reducible refine Row.step ?_ (by with_reducible assumption)) | (with_reducible refine Row.set2' ?_ _ _; first | exact ⟨_, _, by with_reducible assumption⟩ | exact ⟨_, _, Row.alloc (by with_reducible assumption) _⟩ | exact ⟨_, _, Row.alloc (Row.alloc (by with_reducible assumption) _) _⟩) | (with_reducible refine Row.other ?_ (by first | omega | (simp; done) | (simp; omega)) _)))
        have c_n_0_1 := R_n_1.cell 0 rfl
        have c_n_1_1 := R_n_1.cell 1 rfl
        have c_n_2_1 := R_n_1.cell 2 rfl
        have l_n_1 := R_n_1.lt
        have R_res_1 : Row w1 (w.heap.size + 1) [.int .i64 0, .int .i64 0, .slice none 0 0] := by (repeat' (first | (with_reducible assumption) | (with_reducible refine Row.new' _ _ _ (by first | rfl | (simp; done) | omega)) | (with_reducible refine Row.alloc ?_ _) | (with_reducible refine Row.drew ?_) | (with_reducible refine Row.drewN ?_ _) | (with_reducible refine Row.step ?_ (by with_reducible assumption)) | (with_reducible refine Row.set2' ?_ _ _; first | exact ⟨_, _, by with_reducible assumption⟩ | exact ⟨_, _, Row.alloc (by with_reducible assumption) _⟩ | exact ⟨_, _, Row.alloc (Row.alloc (by with_reducible assumption) _) _⟩) | (with_reducible refine Row.other ?_ (by first | omega | (simp; done) | (simp; omega)) _)))
        have c_res_0_1 := R_res_1.cell 0 rfl
        have c_res_1_1 := R_res_1.cell 1 rfl
        have c_res_2_1 := R_res_1.cell 2 rfl
        have z_res_0_1 := R_res_1.frozen 0
        have z_res_1_1 := R_res_1.frozen 1
        have z_res_2_1 := R_res_1.frozen 2
        have l_res_1 := R_res_1.lt
        have R_x_1 : Row w1 (w.heap.size + 1 + 1) [.int .i64 rooms, .int .i64 sold, .slice a zs.length cap] := by (repeat' (first | (with_reducible assumption) | (with_reducible refine Row.new' _ _ _ (by first | rfl | (simp; done) | omega)) | (with_reducible refine Row.alloc ?_ _) | (with_reducible refine Row.drew ?_) | (with_reducible refine Row.drewN ?_ _) | (with_reducible refine Row.step ?_ (by with_reducible assumption)) | (with_reducible refine Row.set2' ?_ _ _; first | exact ⟨_, _, by with_reducible assumption⟩ | exact ⟨_, _, Row.alloc (by with_reducible assumption) _⟩ | exact ⟨_, _, Row.alloc (Row.alloc (by with_reducible assumption) _) _⟩) | (with_reducible refine Row.other ?_ (by first | omega | (simp; done) | (simp; omega)) _)))
        have c_x_0_1 := R_x_1.cell 0 rfl
        have c_x_1_1 := R_x_1.cell 1 rfl
        have c_x_2_1 := R_x_1.cell 2 rfl
        have z_x_0_1 := R_x_1.frozen 0
        have z_x_1_1 := R_x_1.frozen 1
        have z_x_2_1 := R_x_1.frozen 2
        have l_x_1 := R_x_1.lt
        have HB1 : Below w.heap.size w w1 := by (repeat' (first | (with_reducible exact Below.refl _ _) | (with_reducible assumption) | (with_reducible exact Bw.out (by with_reducible assumption)) | (with_reducible refine bw_alloc ?_ _) | (with_reducible refine bw_step ?_ (by with_reducible assumption)) | (with_reducible refine Below.alloc ?_ ?_ _) | (with_reducible refine Below.drew ?_) | (with_reducible refine below_drewN ?_ _) | (with_reducible refine Below.setCell ?_ ?_ _) | (with_reducible refine below_step ?_ (by with_reducible assumption) ?_) | (with_reducible exact Nat.le_refl _) | omega | (simp; omega) | (simp; done)))
        go_wp2_with fail
        refine (within_one 1000 r _ _ (by (repeat' (first | (with_reducible assumption) | (with_reducible refine Row.new' _ _ _ (by first | rfl | (simp; done) | omega)) | (with_reducible refine Row.alloc ?_ _) | (with_reducible refine Row.drew ?_) | (with_reducible refine Row.drewN ?_ _) | (with_reducible refine Row.step ?_ (by with_reducible assumption)))))).mono ?_
        rintro e w2 ⟨rfl, hb2⟩
        have R_n_2 : Row w2 (w.heap.size) [.int .i64 rooms, .int .i64 sold, .slice a zs.length cap] := by (repeat' (first | (with_reducible assumption) | (with_reducible refine Row.new' _ _ _ (by first | rfl | (simp; done) | omega)) | (with_reducible refine Row.alloc ?_ _) | (with_reducible refine Row.drew ?_) | (with_reducible refine Row.drewN ?_ _) | (with_reducible refine Row.step ?_ (by with_reducible assumption)) | (with_reducible refine Row.set2' ?_ _ _; first | exact ⟨_, _, by with_reducible assumption⟩ | exact ⟨_, _, Row.alloc (by with_reducible assumption) _⟩ | exact ⟨_, _, Row.alloc (Row.alloc (by with_reducible assumption) _) _⟩) | (with_reducible refine Row.other ?_ (by first | omega | (simp; done) | (simp; omega)) _)))
        have c_n_0_2 := R_n_2.cell 0 rfl
        have c_n_1_2 := R_n_2.cell 1 rfl
        have c_n_2_2 := R_n_2.cell 2 rfl
        have l_n_2 := R_n_2.lt
        have R_res_2 : Row w2 (w.heap.size + 1) [.int .i64 0, .int .i64 0, .slice none 0 0] := by (repeat' (first | (with_reducible assumption) | (with_reducible refine Row.new' _ _ _ (by first | rfl | (simp; done) | omega)) | (with_reducible refine Row.alloc ?_ _) | (with_reducible refine Row.drew ?_) | (with_reducible refine Row.drewN ?_ _) | (with_reducible refine Row.step ?_ (by with_reducible assumption)) | (with_reducible refine Row.set2' ?_ _ _; first | exact ⟨_, _, by with_reducible assumption⟩ | exact ⟨_, _, Row.alloc (by with_reducible assumption) _⟩ | exact ⟨_, _, Row.alloc (Row.alloc (by with_reducible assumption) _) _⟩) | (with_reducible refine Row.other ?_ (by first | omega | (simp; done) | (simp; omega)) _)))
        have c_res_0_2 := R_res_2.cell 0 rfl
        have c_res_1_2 := R_res_2.cell 1 rfl
        have c_res_2_2 := R_res_2.cell 2 rfl
        have z_res_0_2 := R_res_2.frozen 0
        have z_res_1_2 := R_res_2.frozen 1
        have z_res_2_2 := R_res_2.frozen 2
        have l_res_2 := R_res_2.lt
        have R_x_2 : Row w2 (w.heap.size + 1 + 1) [.int .i64 rooms, .int .i64 sold, .slice a zs.length cap] := by (repeat' (first | (with_reducible assumption) | (with_reducible refine Row.new' _ _ _ (by first | rfl | (simp; done) | omega)) | (with_reducible refine Row.alloc ?_ _) | (with_reducible refine Row.drew ?_) | (with_reducible refine Row.drewN ?_ _) | (with_reducible refine Row.step ?_ (by with_reducible assumption)) | (with_reducible refine Row.set2' ?_ _ _; first | exact ⟨_, _, by with_reducible assumption⟩ | exact ⟨_, _, Row.alloc (by with_reducible assumption) _⟩ | exact ⟨_, _, Row.alloc (Row.alloc (by with_reducible assumption) _) _⟩) | (with_reducible refine Row.other ?_ (by first | omega | (simp; done) | (simp; omega)) _)))
        have c_x_0_2 := R_x_2.cell 0 rfl
        have c_x_1_2 := R_x_2.cell 1 rfl
        have c_x_2_2 := R_x_2.cell 2 rfl
        have z_x_0_2 := R_x_2.frozen 0
        have z_x_1_2 := R_x_2.frozen 1
        have z_x_2_2 := R_x_2.frozen 2
        have l_x_2 := R_x_2.lt
        have HB2 : Below w.heap.size w w2 := by (repeat' (first | (with_reducible exact Below.refl _ _) | (with_reducible assumption) | (with_reducible exact Bw.out (by with_reducible assumption)) | (with_reducible refine bw_alloc ?_ _) | (with_reducible refine bw_step ?_ (by with_reducible assumption)) | (with_reducible refine Below.alloc ?_ ?_ _) | (with_reducible refine Below.drew ?_) | (with_reducible refine below_drewN ?_ _) | (with_reducible refine Below.setCell ?_ ?_ _) | (with_reducible refine below_step ?_ (by with_reducible assumption) ?_) | (with_reducible exact Nat.le_refl _) | omega | (simp; omega) | (simp; done)))
        clear R_n_1 c_n_0_1 c_n_1_1 c_n_2_1 R_res_1 c_res_0_1 c_res_1_1 c_res_2_1 z_res_0_1 z_res_1_1 z_res_2_1 R_x_1 c_x_0_1 c_x_1_1 c_x_2_1 z_x_0_1 z_x_1_1 z_x_2_1 hb1 HB1
        go_wp2_with fail
        refine bodyPost_ret (v := .tuple #[.agg #[.int .i64 0, .int .i64 0, .slice none 0 0], .int .i64 1]) (by simp [results, Try.results32, go_sem, c_res_0_2, c_res_1_2, c_res_2_2, l_res_2]) rfl ⟨_, rfl, SlV.nil _, FromV.nil _ _, ?_⟩
        (repeat' (first | (with_reducible exact Below.refl _ _) | (with_reducible assumption) | (with_reducible exact Bw.out (by with_reducible assumption)) | (with_reducible refine bw_alloc ?_ _) | (with_reducible refine bw_step ?_ (by with_reducible assumption)) | (with_reducible refine Below.alloc ?_ ?_ _) | (with_reducible refine Below.drew ?_) | (with_reducible refine below_drewN ?_ _) | (with_reducible refine Below.setCell ?_ ?_ _) | (with_reducible refine below_step ?_ (by with_reducible assumption) ?_) | (with_reducible exact Nat.le_refl _) | omega | (simp; omega) | (simp; done)))
      · have q1 : (ch == -1) = false := by simpa using h1
        by_cases h2 : 0 ≤ ch ∧ ch < zs.length
        · have ho : outB 1000 r = true := outB_true (fun hh => hA ⟨hn, Or.inr h2, hh⟩)
          have d1 : decide ((0 : Int) ≤ ch) = true := by simp; omega
          have d2 : decide (ch < (zs.length : Int)) = true := by simp; omega
          clear hA
          go_enter Try.func32, Try.ntmps32
          go_wp2_with fail
          refine (right_any _ _ _ _ _ zs _ hm (HS.out.below (by (repeat' (first | (with_reducible exact Below.refl _ _) | (with_reducible assumption) | (with_reducible exact Bw.out (by with_reducible assumption)) | (with_reducible refine bw_alloc ?_ _) | (with_reducible refine bw_step ?_ (by with_reducible assumption)) | (with_reducible refine Below.alloc ?_ ?_ _) | (with_reducible refine Below.drew ?_) | (with_reducible refine below_drewN ?_ _) | (with_reducible refine Below.setCell ?_ ?_ _) | (with_reducible refine below_step ?_ (by with_reducible assumption) ?_) | (with_reducible exact Nat.le_refl _) | omega | (simp; omega) | (simp; done)))))).mono ?_
          rintro e w1 ⟨rfl, hb1⟩
          have R_n_1 : Row w1 (w.heap.size) [.int .i64 rooms, .int .i64 sold, .slice a zs.length cap] := by (repeat' (first | (with_reducible assumption) | (with_reducible refine Row.new' _ _ _ (by first | rfl | (simp; done) | omega)) | (with_reducible refine Row.alloc ?_ _) | (with_reducible refine Row.drew ?_) | (with_reducible refine Row.drewN ?_ _) | (with_reducible refine Row.step ?_ (by with_reducible assumption)) | (with_reducible refine Row.set2' ?_ _ _; first | exact ⟨_, _, by with_reducible assumption⟩ | exact ⟨_, _, Row.alloc (by with_reducible assumption) _⟩ | exact ⟨_, _, Row.alloc (Row.alloc (by with_reducible assumption) _) _⟩) | (with_reducible refine Row.other ?_ (by first | omega | (simp; done) | (simp; omega)) _)))
          have c_n_0_1 := R_n_1.cell 0 rfl
          have c_n_1_1 := R_n_1.cell 1 rfl
          have c_n_2_1 := R_n_1.cell 2 rfl
          have l_n_1 := R_n_1.lt
          have R_res_1 : Row w1 (w.heap.size + 1) [.int .i64 0, .int .i64 0, .slice none 0 0] := by (repeat' (first | (with_reducible assumption) | (with_reducible refine Row.new' _ _ _ (by first | rfl | (simp; done) | omega)) | (with_reducible refine Row.alloc ?_ _) | (with_reducible refine Row.drew ?_) | (with_reducible refine Row.drewN ?_ _) | (with_reducible refine Row.step ?_ (by with_reducible assumption)) | (with_reducible refine Row.set2' ?_ _ _; first | exact ⟨_, _, by with_reducible assumption⟩ | exact ⟨_, _, Row.alloc (by with_reducible assumption) _⟩ | exact ⟨_, _, Row.alloc (Row.alloc (by with_reducible assumption) _) _⟩) | (with_reducible refine Row.other ?_ (by first | omega | (simp; done) | (simp; omega)) _)))
          have c_res_0_1 := R_res_1.cell 0 rfl
          have c_res_1_1 := R_res_1.cell 1 rfl
          have c_res_2_1 := R_res_1.cell 2 rfl
          have z_res_0_1 := R_res_1.frozen 0
          have z_res_1_1 := R_res_1.frozen 1
          have z_res_2_1 := R_res_1.frozen 2
          have l_res_1 := R_res_1.lt
          have R_x_1 : Row w1 (w.heap.size + 1 + 1) [.int .i64 rooms, .int .i64 sold, .slice a zs.length cap] := by (repeat' (first | (with_reducible assumption) | (with_reducible refine Row.new' _ _ _ (by first | rfl | (simp; done) | omega)) | (with_reducible refine Row.alloc ?_ _) | (with_reducible refine Row.drew ?_) | (with_reducible refine Row.drewN ?_ _) | (with_reducible refine Row.step ?_ (by with_reducible assumption)) | (with_reducible refine Row.set2' ?_ _ _; first | exact ⟨_, _, by with_reducible assumption⟩ | exact ⟨_, _, Row.alloc (by with_reducible assumption) _⟩ | exact ⟨_, _, Row.alloc (Row.alloc (by with_reducible assumption) _) _⟩) | (with_reducible refine Row.other ?_ (by first | omega | (simp; done) | (simp; omega)) _)))
          have c_x_0_1 := R_x_1.cell 0 rfl
          have c_x_1_1 := R_x_1.cell 1 rfl
          have c_x_2_1 := R_x_1.cell 2 rfl
          have z_x_0_1 := R_x_1.frozen 0
          have z_x_1_1 := R_x_1.frozen 1
          have z_x_2_1 := R_x_1.frozen 2
          have l_x_1 := R_x_1.lt
          have HB1 : Below w.heap.size w w1 := by (repeat' (first | (with_reducible exact Below.refl _ _) | (with_reducible assumption) | (with_reducible exact Bw.out (by with_reducible assumption)) | (with_reducible refine bw_alloc ?_ _) | (with_reducible refine bw_step ?_ (by with_reducible assumption)) | (with_reducible refine Below.alloc ?_ ?_ _) | (with_reducible refine Below.drew ?_) | (with_reducible refine below_drewN ?_ _) | (with_reducible refine Below.setCell ?_ ?_ _) | (with_reducible refine below_step ?_ (by with_reducible assumption) ?_) | (with_reducible exact Nat.le_refl _) | omega | (simp; omega) | (simp; done)))
          go_wp2_with fail
          refine (has_any _ _ _ _ _ _ _ hm).mono ?_
          rintro e w2 ⟨rfl, hb2⟩
          have R_n_2 : Row w2 (w.heap.size) [.int .i64 rooms, .int .i64 sold, .slice a zs.length cap] := by (repeat' (first | (with_reducible assumption) | (with_reducible refine Row.new' _ _ _ (by first | rfl | (simp; done) | omega)) | (with_reducible refine Row.alloc ?_ _) | (with_reducible refine Row.drew ?_) | (with_reducible refine Row.drewN ?_ _) | (with_reducible refine Row.step ?_ (by with_reducible assumption)) | (with_reducible refine Row.set2' ?_ _ _; first | exact ⟨_, _, by with_reducible assumption⟩ | exact ⟨_, _, Row.alloc (by with_reducible assumption) _⟩ | exact ⟨_, _, Row.alloc (Row.alloc (by with_reducible assumption) _) _⟩) | (with_reducible refine Row.other ?_ (by first | omega | (simp; done) | (simp; omega)) _)))
          have c_n_0_2 := R_n_2.cell 0 rfl
          have c_n_1_2 := R_n_2.cell 1 rfl
          have c_n_2_2 := R_n_2.cell 2 rfl
          have l_n_2 := R_n_2.lt
          have R_res_2 : Row w2 (w.heap.size + 1) [.int .i64 0, .int .i64 0, .slice none 0 0] := by (repeat' (first | (with_reducible assumption) | (with_reducible refine Row.new' _ _ _ (by first | rfl | (simp; done) | omega)) | (with_reducible refine Row.alloc ?_ _) | (with_reducible refine Row.drew ?_) | (with_reducible refine Row.drewN ?_ _) | (with_reducible refine Row.step ?_ (by with_reducible assumption)) | (with_reducible refine Row.set2' ?_ _ _; first | exact ⟨_, _, by with_reducible assumption⟩ | exact ⟨_, _, Row.alloc (by with_reducible assumption) _⟩ | exact ⟨_, _, Row.alloc (Row.alloc (by with_reducible assumption) _) _⟩) | (with_reducible refine Row.other ?_ (by first | omega | (simp; done) | (simp; omega)) _)))
          have c_res_0_2 := R_res_2.cell 0 rfl
          have c_res_1_2 := R_res_2.cell 1 rfl
          have c_res_2_2 := R_res_2.cell 2 rfl
          have z_res_0_2 := R_res_2.frozen 0
          have z_res_1_2 := R_res_2.frozen 1
          have z_res_2_2 := R_res_2.frozen 2
          have l_res_2 := R_res_2.lt
          have R_x_2 : Row w2 (w.heap.size + 1 + 1) [.int .i64 rooms, .int .i64 sold, .slice a zs.length cap] := by (repeat' (first | (with_reducible assumption) | (with_reducible refine Row.new' _ _ _ (by first | rfl | (simp; done) | omega)) | (with_reducible refine Row.alloc ?_ _) | (with_reducible refine Row.drew ?_) | (with_reducible refine Row.drewN ?_ _) | (with_reducible refine Row.step ?_ (by with_reducible assumption)) | (with_reducible refine Row.set2' ?_ _ _; first | exact ⟨_, _, by with_reducible assumption⟩ | exact ⟨_, _, Row.alloc (by with_reducible assumption) _⟩ | exact ⟨_, _, Row.alloc (Row.alloc (by with_reducible assumption) _) _⟩) | (with_reducible refine Row.other ?_ (by first | omega | (simp; done) | (simp; omega)) _)))
          have c_x_0_2 := R_x_2.cell 0 rfl
          have c_x_1_2 := R_x_2.cell 1 rfl
          have c_x_2_2 := R_x_2.cell 2 rfl
          have z_x_0_2 := R_x_2.frozen 0
          have z_x_1_2 := R_x_2.frozen 1
          have z_x_2_2 := R_x_2.frozen 2
          have l_x_2 := R_x_2.lt
          have HB2 : Below w.heap.size w w2 := by (repeat' (first | (with_reducible exact Below.refl _ _) | (with_reducible assumption) | (with_reducible exact Bw.out (by with_reducible assumption)) | (with_reducible refine bw_alloc ?_ _) | (with_reducible refine bw_step ?_ (by with_reducible assumption)) | (with_reducible refine Below.alloc ?_ ?_ _) | (with_reducible refine Below.drew ?_) | (with_reducible refine below_drewN ?_ _) | (with_reducible refine Below.setCell ?_ ?_ _) | (with_reducible refine below_step ?_ (by with_reducible assumption) ?_) | (with_reducible exact Nat.le_refl _) | omega | (simp; omega) | (simp; done)))
          clear R_n_1 c_n_0_1 c_n_1_1 c_n_2_1 R_res_1 c_res_0_1 c_res_1_1 c_res_2_1 z_res_0_1 z_res_1_1 z_res_2_1 R_x_1 c_x_0_1 c_x_1_1 c_x_2_1 z_x_0_1 z_x_1_1 z_x_2_1 hb1 HB1
          go_wp2_with fail
          refine (within_one 1000 r _ _ (by (repeat' (first | (with_reducible assumption) | (with_reducible refine Row.new' _ _ _ (by first | rfl | (simp; done) | omega)) | (with_reducible refine Row.alloc ?_ _) | (with_reducible refine Row.drew ?_) | (with_reducible refine Row.drewN ?_ _) | (with_reducible refine Row.step ?_ (by with_reducible assumption)))))).mono ?_
          rintro e w3 ⟨rfl, hb3⟩
          have R_n_3 : Row w3 (w.heap.size) [.int .i64 rooms, .int .i64 sold, .slice a zs.length cap] := by (repeat' (first | (with_reducible assumption) | (with_reducible refine Row.new' _ _ _ (by first | rfl | (simp; done) | omega)) | (with_reducible refine Row.alloc ?_ _) | (with_reducible refine Row.drew ?_) | (with_reducible refine Row.drewN ?_ _) | (with_reducible refine Row.step ?_ (by with_reducible assumption)) | (with_reducible refine Row.set2' ?_ _ _; first | exact ⟨_, _, by with_reducible assumption⟩ | exact ⟨_, _, Row.alloc (by with_reducible assumption) _⟩ | exact ⟨_, _, Row.alloc (Row.alloc (by with_reducible assumption) _) _⟩) | (with_reducible refine Row.other ?_ (by first | omega | (simp; done) | (simp; omega)) _)))
          have c_n_0_3 := R_n_3.cell 0 rfl
          have c_n_1_3 := R_n_3.cell 1 rfl
          have c_n_2_3 := R_n_3.cell 2 rfl
          have l_n_3 := R_n_3.lt
          have R_res_3 : Row w3 (w.heap.size + 1) [.int .i64 0, .int .i64 0, .slice none 0 0] := by (repeat' (first | (with_reducible assumption) | (with_reducible refine Row.new' _ _ _ (by first | rfl | (simp; done) | omega)) | (with_reducible refine Row.alloc ?_ _) | (with_reducible refine Row.drew ?_) | (with_reducible refine Row.drewN ?_ _) | (with_reducible refine Row.step ?_ (by with_reducible assumption)) | (with_reducible refine Row.set2' ?_ _ _; first | exact ⟨_, _, by with_reducible assumption⟩ | exact ⟨_, _, Row.alloc (by with_reducible assumption) _⟩ | exact ⟨_, _, Row.alloc (Row.alloc (by with_reducible assumption) _) _⟩) | (with_reducible refine Row.other ?_ (by first | omega | (simp; done) | (simp; omega)) _)))
          have c_res_0_3 := R_res_3.cell 0 rfl
          have c_res_1_3 := R_res_3.cell 1 rfl
          have c_res_2_3 := R_res_3.cell 2 rfl
          have z_res_0_3 := R_res_3.frozen 0
          have z_res_1_3 := R_res_3.frozen 1
          have z_res_2_3 := R_res_3.frozen 2
          have l_res_3 := R_res_3.lt
          have R_x_3 : Row w3 (w.heap.size + 1 + 1) [.int .i64 rooms, .int .i64 sold, .slice a zs.length cap] := by (repeat' (first | (with_reducible assumption) | (with_reducible refine Row.new' _ _ _ (by first | rfl | (simp; done) | omega)) | (with_reducible refine Row.alloc ?_ _) | (with_reducible refine Row.drew ?_) | (with_reducible refine Row.drewN ?_ _) | (with_reducible refine Row.step ?_ (by with_reducible assumption)) | (with_reducible refine Row.set2' ?_ _ _; first | exact ⟨_, _, by with_reducible assumption⟩ | exact ⟨_, _, Row.alloc (by with_reducible assumption) _⟩ | exact ⟨_, _, Row.alloc (Row.alloc (by with_reducible assumption) _) _⟩) | (with_reducible refine Row.other ?_ (by first | omega | (simp; done) | (simp; omega)) _)))
          have c_x_0_3 := R_x_3.cell 0 rfl
          have c_x_1_3 := R_x_3.cell 1 rfl
          have c_x_2_3 := R_x_3.cell 2 rfl
          have z_x_0_3 := R_x_3.frozen 0
          have z_x_1_3 := R_x_3.frozen 1
          have z_x_2_3 := R_x_3.frozen 2
          have l_x_3 := R_x_3.lt
          have HB3 : Below w.heap.size w w3 := by (repeat' (first | (with_reducible exact Below.refl _ _) | (with_reducible assumption) | (with_reducible exact Bw.out (by with_reducible assumption)) | (with_reducible refine bw_alloc ?_ _) | (with_reducible refine bw_step ?_ (by with_reducible assumption)) | (with_reducible refine Below.alloc ?_ ?_ _) | (with_reducible refine Below.drew ?_) | (with_reducible refine below_drewN ?_ _) | (with_reducible refine Below.setCell ?_ ?_ _) | (with_reducible refine below_step ?_ (by with_reducible assumption) ?_) | (with_reducible exact Nat.le_refl _) | omega | (simp; omega) | (simp; done)))
          clear R_n_2 c_n_0_2 c_n_1_2 c_n_2_2 R_res_2 c_res_0_2 c_res_1_2 c_res_2_2 z_res_0_2 z_res_1_2 z_res_2_2 R_x_2 c_x_0_2 c_x_1_2 c_x_2_2 z_x_0_2 z_x_1_2 z_x_2_2 hb2 HB2
          go_wp2_with fail
          refine bodyPost_ret (v := .tuple #[.agg #[.int .i64 0, .int .i64 0, .slice none 0 0], .int .i64 1]) (by simp [results, Try.results32, go_sem, c_res_0_3, c_res_1_3, c_res_2_3, l_res_3]) rfl ⟨_, rfl, SlV.nil _, FromV.nil _ _, ?_⟩
          (repeat' (first | (with_reducible exact Below.refl _ _) | (with_reducible assumption) | (with_reducible exact Bw.out (by with_reducible assumption)) | (with_reducible refine bw_alloc ?_ _) | (with_reducible refine bw_step ?_ (by with_reducible assumption)) | (with_reducible refine Below.alloc ?_ ?_ _) | (with_reducible refine Below.drew ?_) | (with_reducible refine below_drewN ?_ _) | (with_reducible refine Below.setCell ?_ ?_ _) | (with_reducible refine below_step ?_ (by with_reducible assumption) ?_) | (with_reducible exact Nat.le_refl _) | omega | (simp; omega) | (simp; done)))
        · have d1 : (decide ((0 : Int) ≤ ch) && decide (ch < (zs.length : Int))) = false := by
            rw [Bool.and_eq_false_iff]; simp; omega
          clear hA
          go_enter Try.func32, Try.ntmps32
          go_wp2_with fail
          refine (right_any _ _ _ _ _ zs _ hm (HS.out.below (by (repeat' (first | (with_reducible exact Below.refl _ _) | (with_reducible assumption) | (with_reducible exact Bw.out (by with_reducible assumption)) | (with_reducible refine bw_alloc ?_ _) | (with_reducible refine bw_step ?_ (by with_reducible assumption)) | (with_reducible refine Below.alloc ?_ ?_ _) | (with_reducible refine Below.drew ?_) | (with_reducible refine below_drewN ?_ _) | (with_reducible refine Below.setCell ?_ ?_ _) | (with_reducible refine below_step ?_ (by with_reducible assumption) ?_) | (with_reducible exact Nat.le_refl _) | omega | (simp; omega) | (simp; done)))))).mono ?_
          rintro e w1 ⟨rfl, hb1⟩
          have R_n_1 : Row w1 (w.heap.size) [.int .i64 rooms, .int .i64 sold, .slice a zs.length cap] := by (repeat' (first | (with_reducible assumption) | (with_reducible refine Row.new' _ _ _ (by first | rfl | (simp; done) | omega)) | (with_reducible refine Row.alloc ?_ _) | (with_reducible refine Row.drew ?_) | (with_reducible refine Row.drewN ?_ _) | (with_reducible refine Row.step ?_ (by with_reducible assumption)) | (with_reducible refine Row.set2' ?_ _ _; first | exact ⟨_, _, by with_reducible assumption⟩ | exact ⟨_, _, Row.alloc (by with_reducible assumption) _⟩ | exact ⟨_, _, Row.alloc (Row.alloc (by with_reducible assumption) _) _⟩) | (with_reducible refine Row.other ?_ (by first | omega | (simp; done) | (simp; omega)) _)))
          have c_n_0_1 := R_n_1.cell 0 rfl
          have c_n_1_1 := R_n_1.cell 1 rfl
          have c_n_2_1 := R_n_1.cell 2 rfl
          have l_n_1 := R_n_1.lt
          have R_res_1 : Row w1 (w.heap.size + 1) [.int .i64 0, .int .i64 0, .slice none 0 0] := by (repeat' (first | (with_reducible assumption) | (with_reducible refine Row.new' _ _ _ (by first | rfl | (simp; done) | omega)) | (with_reducible refine Row.alloc ?_ _) | (with_reducible refine Row.drew ?_) | (with_reducible refine Row.drewN ?_ _) | (with_reducible refine Row.step ?_ (by with_reducible assumption)) | (with_reducible refine Row.set2' ?_ _ _; first | exact ⟨_, _, by with_reducible assumption⟩ | exact ⟨_, _, Row.alloc (by with_reducible assumption) _⟩ | exact ⟨_, _, Row.alloc (Row.alloc (by with_reducible assumption) _) _⟩) | (with_reducible refine Row.other ?_ (by first | omega | (simp; done) | (simp; omega)) _)))
          have c_res_0_1 := R_res_1.cell 0 rfl
          have c_res_1_1 := R_res_1.cell 1 rfl
          have c_res_2_1 := R_res_1.cell 2 rfl
          have z_res_0_1 := R_res_1.frozen 0
          have z_res_1_1 := R_res_1.frozen 1
          have z_res_2_1 := R_res_1.frozen 2
          have l_res_1 := R_res_1.lt
          have R_x_1 : Row w1 (w.heap.size + 1 + 1) [.int .i64 rooms, .int .i64 sold, .slice a zs.length cap] := by (repeat' (first | (with_reducible assumption) | (with_reducible refine Row.new' _ _ _ (by first | rfl | (simp; done) | omega)) | (with_reducible refine Row.alloc ?_ _) | (with_reducible refine Row.drew ?_) | (with_reducible refine Row.drewN ?_ _) | (with_reducible refine Row.step ?_ (by with_reducible assumption)) | (with_reducible refine Row.set2' ?_ _ _; first | exact ⟨_, _, by with_reducible assumption⟩ | exact ⟨_, _, Row.alloc (by with_reducible assumption) _⟩ | exact ⟨_, _, Row.alloc (Row.alloc (by with_reducible assumption) _) _⟩) | (with_reducible refine Row.other ?_ (by first | omega | (simp; done) | (simp; omega)) _)))
          have c_x_0_1 := R_x_1.cell 0 rfl
          have c_x_1_1 := R_x_1.cell 1 rfl
          have c_x_2_1 := R_x_1.cell 2 rfl
          have z_x_0_1 := R_x_1.frozen 0
          have z_x_1_1 := R_x_1.frozen 1
          have z_x_2_1 := R_x_1.frozen 2
          have l_x_1 := R_x_1.lt
          have HB1 : Below w.heap.size w w1 := by (repeat' (first | (with_reducible exact Below.refl _ _) | (with_reducible assumption) | (with_reducible exact Bw.out (by with_reducible assumption)) | (with_reducible refine bw_alloc ?_ _) | (with_reducible refine bw_step ?_ (by with_reducible assumption)) | (with_reducible refine Below.alloc ?_ ?_ _) | (with_reducible refine Below.drew ?_) | (with_reducible refine below_drewN ?_ _) | (with_reducible refine Below.setCell ?_ ?_ _) | (with_reducible refine below_step ?_ (by with_reducible assumption) ?_) | (with_reducible exact Nat.le_refl _) | omega | (simp; omega) | (simp; done)))
          go_wp2_with fail
          refine (has_any _ _ _ _ _ _ _ hm).mono ?_
          rintro e w2 ⟨rfl, hb2⟩
          have R_n_2 : Row w2 (w.heap.size) [.int .i64 rooms, .int .i64 sold, .slice a zs.length cap] := by (repeat' (first | (with_reducible assumption) | (with_reducible refine Row.new' _ _ _ (by first | rfl | (simp; done) | omega)) | (with_reducible refine Row.alloc ?_ _) | (with_reducible refine Row.drew ?_) | (with_reducible refine Row.drewN ?_ _) | (with_reducible refine Row.step ?_ (by with_reducible assumption)) | (with_reducible refine Row.set2' ?_ _ _; first | exact ⟨_, _, by with_reducible assumption⟩ | exact ⟨_, _, Row.alloc (by with_reducible assumption) _⟩ | exact ⟨_, _, Row.alloc (Row.alloc (by with_reducible assumption) _) _⟩) | (with_reducible refine Row.other ?_ (by first | omega | (simp; done) | (simp; omega)) _)))
          have c_n_0_2 := R_n_2.cell 0 rfl
          have c_n_1_2 := R_n_2.cell 1 rfl
          have c_n_2_2 := R_n_2.cell 2 rfl
          have l_n_2 := R_n_2.lt
          have R_res_2 : Row w2 (w.heap.size + 1) [.int .i64 0, .int .i64 0, .slice none 0 0] := by (repeat' (first | (with_reducible assumption) | (with_reducible refine Row.new' _ _ _ (by first | rfl | (simp; done) | omega)) | (with_reducible refine Row.alloc ?_ _) | (with_reducible refine Row.drew ?_) | (with_reducible refine Row.drewN ?_ _) | (with_reducible refine Row.step ?_ (by with_reducible assumption)) | (with_reducible refine Row.set2' ?_ _ _; first | exact ⟨_, _, by with_reducible assumption⟩ | exact ⟨_, _, Row.alloc (by with_reducible assumption) _⟩ | exact ⟨_, _, Row.alloc (Row.alloc (by with_reducible assumption) _) _⟩) | (with_reducible refine Row.other ?_ (by first | omega | (simp; done) | (simp; omega)) _)))
          have c_res_0_2 := R_res_2.cell 0 rfl
          have c_res_1_2 := R_res_2.cell 1 rfl
          have c_res_2_2 := R_res_2.cell 2 rfl
          have z_res_0_2 := R_res_2.frozen 0
          have z_res_1_2 := R_res_2.frozen 1
          have z_res_2_2 := R_res_2.frozen 2
          have l_res_2 := R_res_2.lt
          have R_x_2 : Row w2 (w.heap.size + 1 + 1) [.int .i64 rooms, .int .i64 sold, .slice a zs.length cap] := by (repeat' (first | (with_reducible assumption) | (with_reducible refine Row.new' _ _ _ (by first | rfl | (simp; done) | omega)) | (with_reducible refine Row.alloc ?_ _) | (with_reducible refine Row.drew ?_) | (with_reducible refine Row.drewN ?_ _) | (with_reducible refine Row.step ?_ (by with_reducible assumption)) | (with_reducible refine Row.set2' ?_ _ _; first | exact ⟨_, _, by with_reducible assumption⟩ | exact ⟨_, _, Row.alloc (by with_reducible assumption) _⟩ | exact ⟨_, _, Row.alloc (Row.alloc (by with_reducible assumption) _) _⟩) | (with_reducible refine Row.other ?_ (by first | omega | (simp; done) | (simp; omega)) _)))
          have c_x_0_2 := R_x_2.cell 0 rfl
          have c_x_1_2 := R_x_2.cell 1 rfl
          have c_x_2_2 := R_x_2.cell 2 rfl
          have z_x_0_2 := R_x_2.frozen 0
          have z_x_1_2 := R_x_2.frozen 1
          have z_x_2_2 := R_x_2.frozen 2
          have l_x_2 := R_x_2.lt
          have HB2 : Below w.heap.size w w2 := by (repeat' (first | (with_reducible exact Below.refl _ _) | (with_reducible assumption) | (with_reducible exact Bw.out (by with_reducible assumption)) | (with_reducible refine bw_alloc ?_ _) | (with_reducible refine bw_step ?_ (by with_reducible assumption)) | (with_reducible refine Below.alloc ?_ ?_ _) | (with_reducible refine Below.drew ?_) | (with_reducible refine below_drewN ?_ _) | (with_reducible refine Below.setCell ?_ ?_ _) | (with_reducible refine below_step ?_ (by with_reducible assumption) ?_) | (with_reducible exact Nat.le_refl _) | omega | (simp; omega) | (simp; done)))
          clear R_n_1 c_n_0_1 c_n_1_1 c_n_2_1 R_res_1 c_res_0_1 c_res_1_1 c_res_2_1 z_res_0_1 z_res_1_1 z_res_2_1 R_x_1 c_x_0_1 c_x_1_1 c_x_2_1 z_x_0_1 z_x_1_1 z_x_2_1 hb1 HB1
          go_wp2_with fail
          refine bodyPost_ret (v := .tuple #[.agg #[.int .i64 0, .int .i64 0, .slice none 0 0], .int .i64 1]) (by simp [results, Try.results32, go_sem, c_res_0_2, c_res_1_2, c_res_2_2, l_res_2]) rfl ⟨_, rfl, SlV.nil _, FromV.nil _ _, ?_⟩
          (repeat' (first | (with_reducible exact Below.refl _ _) | (with_reducible assumption) | (with_reducible exact Bw.out (by with_reducible assumption)) | (with_reducible refine bw_alloc ?_ _) | (with_reducible refine bw_step ?_ (by with_reducible assumption)) | (with_reducible refine Below.alloc ?_ ?_ _) | (with_reducible refine Below.drew ?_) | (with_reducible refine below_drewN ?_ _) | (with_reducible refine Below.setCell ?_ ?_ _) | (with_reducible refine below_step ?_ (by with_reducible assumption) ?_) | (with_reducible exact Nat.le_refl _) | omega | (simp; omega) | (simp; done)))

end Go.Proofs.Ytijbhdpaikajkaa
