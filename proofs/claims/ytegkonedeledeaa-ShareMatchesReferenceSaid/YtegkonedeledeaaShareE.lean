/-
  The walks of package share, fifth part: Grant.
-/
import Derived.Test.YtegkonedeledeaaShareD
namespace Go.Proofs.Ytegkonedeledeaa
set_option linter.unusedSimpArgs false
set_option linter.unusedVariables false
open Go.RowKit

/-- What Grant returns: its error, and the shares. -/
def grE (rooms sold : Int) (zs : List Int) (ch r : Int) : Int :=
  if nightB rooms sold zs = true ∧ (0 ≤ ch ∧ ch < zs.length) ∧ -400 ≤ r ∧ r ≤ 400 then
    (if 0 ≤ zs.getD ch.toNat 0 + r ∧ zs.getD ch.toNat 0 + r ≤ 400 then 0 else 3) else 1
def grZ (e : Int) (zs : List Int) (ch r : Int) : List Int := if e = 0 then zs.set ch.toNat (zs.getD ch.toNat 0 + r) else []
/-- What is said of the night that Grant returns. -/
def GrPost (w : World) (v : Value) (zs : List Int) (w' : World) (v' : Value) (zs' : List Int) : Prop := SlV w' v' zs' ∧ FromV w.heap.size v v' ∧ Below w.heap.size w w'

theorem field_night (x y z : Value) (w : World) : (Instr.field 70 (.agg #[x, y, z]) 0).run Try.prog w = .ok (.agg #[x, y, z]) w := by kernel_rfl
attribute [local go_sem ↓] field_night


set_option maxRecDepth 100000 in
set_option maxHeartbeats 3200000 in
theorem grant_any (rooms sold ch r : Int) (v : Value) (zs : List Int) (w : World) (hs : SlV w v zs) (hr : -9223372036854775808 ≤ r ∧ r ≤ 9223372036854775807) :
    Calls Try.prog 25 #[.agg #[.int .i64 rooms, .int .i64 sold, v], .int .i64 ch, .int .i64 r] w
      fun e w' => ∃ v', e = .returned (.tuple #[.agg #[.int .i64 (seR (grE rooms sold zs ch r) rooms), .int .i64 (seR (grE rooms sold zs ch r) sold), v'], .int .i64 (grE rooms sold zs ch r)]) ∧ GrPost w v zs w' v' (grZ (grE rooms sold zs ch r) zs ch r) := by
  obtain ⟨a, cap, rfl, hs, hcap1, hcap2⟩ := hs
  unfold maxLen at hcap2
  have hm : zs.length ≤ 9223372036854775807 := by omega
  have HS := Lib.hid hs
  clear hs
  by_cases hA : nightB rooms sold zs = true ∧ (0 ≤ ch ∧ ch < zs.length) ∧ -400 ≤ r ∧ r ≤ 400
  · obtain ⟨hn, ⟨hc1, hc2⟩, hr1, hr2⟩ := hA
    obtain ⟨p1, p2, ⟨p3, p4⟩, p5, p6⟩ := nightB_parts hn
    obtain ⟨c, rfl⟩ := Int.eq_ofNat_of_zero_le hc1
    have ho : outB 800 (r + 400) = false := outB_false ⟨by omega, by omega⟩
    have hcn : c < zs.length := by omega
    obtain ⟨b, off, z, hab, hbl, cz, hz, _, hzm⟩ := HS.out.get hcn
    subst hab
    obtain ⟨z1, z2⟩ := p2 z hzm.out
    have d1 : decide ((0 : Int) ≤ (c : Int)) = true := by simp
    have d2 : decide ((c : Int) < (zs.length : Int)) = true := by simp; omega
    by_cases hf : 0 ≤ z + r ∧ z + r ≤ 400
    · have ho2 : outB 400 (z + r) = false := outB_false hf
      have eE : grE rooms sold zs (c : Int) r = 0 := by
        unfold grE
        rw [if_pos ⟨hn, ⟨by omega, by omega⟩, hr1, hr2⟩, if_pos (by rw [Int.toNat_natCast, hz.out]; exact hf)]
      rw [eE]
      simp only [seR, grZ, if_true]
      have HZ := hz
      clear eE hz hf
      go_enter Try.func25, Try.ntmps25
      go_wp2_with fail
      refine (right_any _ _ _ _ _ zs _ hm (HS.out.below (by (repeat' (first | (with_reducible exact Below.refl _ _) | (with_reducible assumption) | (with_reducible exact Bw.out (by with_reducible assumption)) | (with_reducible refine bw_alloc ?_ _) | (with_reducible refine bw_step ?_ (by with_reducible assumption)) | (with_reducible refine Below.alloc ?_ ?_ _) | (with_reducible refine Below.drew ?_) | (with_reducible refine below_drewN ?_ _) | (with_reducible refine Below.setCell ?_ ?_ _) | (with_reducible refine below_step ?_ (by with_reducible assumption) ?_) | (with_reducible exact Nat.le_refl _) | omega | (simp; omega) | (simp; done)))))).mono ?_
      rintro e w1 ⟨rfl, hb1⟩
      have R_n_1 : Row w1 (w.heap.size) [.int .i64 rooms, .int .i64 sold, .slice (some ⟨b, off, none⟩) zs.length cap] := by (repeat' (first | (with_reducible assumption) | (with_reducible refine Row.new' _ _ _ (by first | rfl | (simp; done) | omega)) | (with_reducible refine Row.alloc ?_ _) | (with_reducible refine Row.drew ?_) | (with_reducible refine Row.drewN ?_ _) | (with_reducible refine Row.step ?_ (by with_reducible assumption)) | (with_reducible refine Row.set2' ?_ _ _; first | exact ⟨_, _, by with_reducible assumption⟩ | exact ⟨_, _, Row.alloc (by with_reducible assumption) _⟩ | exact ⟨_, _, Row.alloc (Row.alloc (by with_reducible assumption) _) _⟩) | (with_reducible refine Row.other ?_ (by first | omega | (simp; done) | (simp; omega)) _)))
      have c_n_0_1 := R_n_1.cell 0 rfl
      have c_n_1_1 := R_n_1.cell 1 rfl
      have c_n_2_1 := R_n_1.cell 2 rfl
      have l_n_1 := R_n_1.lt
      have R_res_1 : Row w1 (w.heap.size + 1) [.int .i64 0, .int .i64 0, .slice none 0 0] := by (repeat' (first | (with_reducible assumption) | (with_reducible refine Row.new' _ _ _ (by first | rfl | (simp; done) | omega)) | (with_reducible refine Row.alloc ?_ _) | (with_reducible refine Row.drew ?_) | (with_reducible refine Row.drewN ?_ _) | (with_reducible refine Row.step ?_ (by with_reducible assumption)) | (with_reducible refine Row.set2' ?_ _ _; first | exact ⟨_, _, by with_reducible assumption⟩ | exact ⟨_, _, Row.alloc (by with_reducible assumption) _⟩ | exact ⟨_, _, Row.alloc (Row.alloc (by with_reducible assumption) _) _⟩) | (with_reducible refine Row.other ?_ (by first | omega | (simp; done) | (simp; omega)) _)))
      have c_res_0_1 := R_res_1.cell 0 rfl
      have c_res_1_1 := R_res_1.cell 1 rfl
      have c_res_2_1 := R_res_1.cell 2 rfl
      have z_res_0_1 := R_res_1.frozen 0
      have z_res_1_1 := R_res_1.frozen 1
      have z_res_2_1 := R_res_1.frozen 2
      have l_res_1 := R_res_1.lt
      have R_x_1 : Row w1 (w.heap.size + 1 + 1) [.int .i64 rooms, .int .i64 sold, .slice (some ⟨b, off, none⟩) zs.length cap] := by (repeat' (first | (with_reducible assumption) | (with_reducible refine Row.new' _ _ _ (by first | rfl | (simp; done) | omega)) | (with_reducible refine Row.alloc ?_ _) | (with_reducible refine Row.drew ?_) | (with_reducible refine Row.drewN ?_ _) | (with_reducible refine Row.step ?_ (by with_reducible assumption)) | (with_reducible refine Row.set2' ?_ _ _; first | exact ⟨_, _, by with_reducible assumption⟩ | exact ⟨_, _, Row.alloc (by with_reducible assumption) _⟩ | exact ⟨_, _, Row.alloc (Row.alloc (by with_reducible assumption) _) _⟩) | (with_reducible refine Row.other ?_ (by first | omega | (simp; done) | (simp; omega)) _)))
      have c_x_0_1 := R_x_1.cell 0 rfl
      have c_x_1_1 := R_x_1.cell 1 rfl
      have c_x_2_1 := R_x_1.cell 2 rfl
      have z_x_0_1 := R_x_1.frozen 0
      have z_x_1_1 := R_x_1.frozen 1
      have z_x_2_1 := R_x_1.frozen 2
      have l_x_1 := R_x_1.lt
      have HB1 : Below w.heap.size w w1 := by (repeat' (first | (with_reducible exact Below.refl _ _) | (with_reducible assumption) | (with_reducible exact Bw.out (by with_reducible assumption)) | (with_reducible refine bw_alloc ?_ _) | (with_reducible refine bw_step ?_ (by with_reducible assumption)) | (with_reducible refine Below.alloc ?_ ?_ _) | (with_reducible refine Below.drew ?_) | (with_reducible refine below_drewN ?_ _) | (with_reducible refine Below.setCell ?_ ?_ _) | (with_reducible refine below_step ?_ (by with_reducible assumption) ?_) | (with_reducible exact Nat.le_refl _) | omega | (simp; omega) | (simp; done)))
      go_wp2_with fail
      refine (has_any _ _ _ _ _ _ _ hm).mono ?_
      rintro e w2 ⟨rfl, hb2⟩
      have R_n_2 : Row w2 (w.heap.size) [.int .i64 rooms, .int .i64 sold, .slice (some ⟨b, off, none⟩) zs.length cap] := by (repeat' (first | (with_reducible assumption) | (with_reducible refine Row.new' _ _ _ (by first | rfl | (simp; done) | omega)) | (with_reducible refine Row.alloc ?_ _) | (with_reducible refine Row.drew ?_) | (with_reducible refine Row.drewN ?_ _) | (with_reducible refine Row.step ?_ (by with_reducible assumption)) | (with_reducible refine Row.set2' ?_ _ _; first | exact ⟨_, _, by with_reducible assumption⟩ | exact ⟨_, _, Row.alloc (by with_reducible assumption) _⟩ | exact ⟨_, _, Row.alloc (Row.alloc (by with_reducible assumption) _) _⟩) | (with_reducible refine Row.other ?_ (by first | omega | (simp; done) | (simp; omega)) _)))
      have c_n_0_2 := R_n_2.cell 0 rfl
      have c_n_1_2 := R_n_2.cell 1 rfl
      have c_n_2_2 := R_n_2.cell 2 rfl
      have l_n_2 := R_n_2.lt
      have R_res_2 : Row w2 (w.heap.size + 1) [.int .i64 0, .int .i64 0, .slice none 0 0] := by (repeat' (first | (with_reducible assumption) | (with_reducible refine Row.new' _ _ _ (by first | rfl | (simp; done) | omega)) | (with_reducible refine Row.alloc ?_ _) | (with_reducible refine Row.drew ?_) | (with_reducible refine Row.drewN ?_ _) | (with_reducible refine Row.step ?_ (by with_reducible assumption)) | (with_reducible refine Row.set2' ?_ _ _; first | exact ⟨_, _, by with_reducible assumption⟩ | exact ⟨_, _, Row.alloc (by with_reducible assumption) _⟩ | exact ⟨_, _, Row.alloc (Row.alloc (by with_reducible assumption) _) _⟩) | (with_reducible refine Row.other ?_ (by first | omega | (simp; done) | (simp; omega)) _)))
      have c_res_0_2 := R_res_2.cell 0 rfl
      have c_res_1_2 := R_res_2.cell 1 rfl
      have c_res_2_2 := R_res_2.cell 2 rfl
      have z_res_0_2 := R_res_2.frozen 0
      have z_res_1_2 := R_res_2.frozen 1
      have z_res_2_2 := R_res_2.frozen 2
      have l_res_2 := R_res_2.lt
      have R_x_2 : Row w2 (w.heap.size + 1 + 1) [.int .i64 rooms, .int .i64 sold, .slice (some ⟨b, off, none⟩) zs.length cap] := by (repeat' (first | (with_reducible assumption) | (with_reducible refine Row.new' _ _ _ (by first | rfl | (simp; done) | omega)) | (with_reducible refine Row.alloc ?_ _) | (with_reducible refine Row.drew ?_) | (with_reducible refine Row.drewN ?_ _) | (with_reducible refine Row.step ?_ (by with_reducible assumption)) | (with_reducible refine Row.set2' ?_ _ _; first | exact ⟨_, _, by with_reducible assumption⟩ | exact ⟨_, _, Row.alloc (by with_reducible assumption) _⟩ | exact ⟨_, _, Row.alloc (Row.alloc (by with_reducible assumption) _) _⟩) | (with_reducible refine Row.other ?_ (by first | omega | (simp; done) | (simp; omega)) _)))
      have c_x_0_2 := R_x_2.cell 0 rfl
      have c_x_1_2 := R_x_2.cell 1 rfl
      have c_x_2_2 := R_x_2.cell 2 rfl
      have z_x_0_2 := R_x_2.frozen 0
      have z_x_1_2 := R_x_2.frozen 1
      have z_x_2_2 := R_x_2.frozen 2
      have l_x_2 := R_x_2.lt
      have HB2 : Below w.heap.size w w2 := by (repeat' (first | (with_reducible exact Below.refl _ _) | (with_reducible assumption) | (with_reducible exact Bw.out (by with_reducible assumption)) | (with_reducible refine bw_alloc ?_ _) | (with_reducible refine bw_step ?_ (by with_reducible assumption)) | (with_reducible refine Below.alloc ?_ ?_ _) | (with_reducible refine Below.drew ?_) | (with_reducible refine below_drewN ?_ _) | (with_reducible refine Below.setCell ?_ ?_ _) | (with_reducible refine below_step ?_ (by with_reducible assumption) ?_) | (with_reducible exact Nat.le_refl _) | omega | (simp; omega) | (simp; done)))
      clear R_n_1 c_n_0_1 c_n_1_1 c_n_2_1 R_res_1 c_res_0_1 c_res_1_1 c_res_2_1 z_res_0_1 z_res_1_1 z_res_2_1 R_x_1 c_x_0_1 c_x_1_1 c_x_2_1 z_x_0_1 z_x_1_1 z_x_2_1 hb1 HB1
      go_wp2_with fail
      refine (within_one 800 _ _ _ (by (repeat' (first | (with_reducible assumption) | (with_reducible refine Row.new' _ _ _ (by first | rfl | (simp; done) | omega)) | (with_reducible refine Row.alloc ?_ _) | (with_reducible refine Row.drew ?_) | (with_reducible refine Row.drewN ?_ _) | (with_reducible refine Row.step ?_ (by with_reducible assumption)))))).mono ?_
      rintro e w3 ⟨rfl, hb3⟩
      have R_n_3 : Row w3 (w.heap.size) [.int .i64 rooms, .int .i64 sold, .slice (some ⟨b, off, none⟩) zs.length cap] := by (repeat' (first | (with_reducible assumption) | (with_reducible refine Row.new' _ _ _ (by first | rfl | (simp; done) | omega)) | (with_reducible refine Row.alloc ?_ _) | (with_reducible refine Row.drew ?_) | (with_reducible refine Row.drewN ?_ _) | (with_reducible refine Row.step ?_ (by with_reducible assumption)) | (with_reducible refine Row.set2' ?_ _ _; first | exact ⟨_, _, by with_reducible assumption⟩ | exact ⟨_, _, Row.alloc (by with_reducible assumption) _⟩ | exact ⟨_, _, Row.alloc (Row.alloc (by with_reducible assumption) _) _⟩) | (with_reducible refine Row.other ?_ (by first | omega | (simp; done) | (simp; omega)) _)))
      have c_n_0_3 := R_n_3.cell 0 rfl
      have c_n_1_3 := R_n_3.cell 1 rfl
      have c_n_2_3 := R_n_3.cell 2 rfl
      have l_n_3 := R_n_3.lt
      have R_res_3 : Row w3 (w.heap.size + 1) [.int .i64 0, .int .i64 0, .slice none 0 0] := by (repeat' (first | (with_reducible assumption) | (with_reducible refine Row.new' _ _ _ (by first | rfl | (simp; done) | omega)) | (with_reducible refine Row.alloc ?_ _) | (with_reducible refine Row.drew ?_) | (with_reducible refine Row.drewN ?_ _) | (with_reducible refine Row.step ?_ (by with_reducible assumption)) | (with_reducible refine Row.set2' ?_ _ _; first | exact ⟨_, _, by with_reducible assumption⟩ | exact ⟨_, _, Row.alloc (by with_reducible assumption) _⟩ | exact ⟨_, _, Row.alloc (Row.alloc (by with_reducible assumption) _) _⟩) | (with_reducible refine Row.other ?_ (by first | omega | (simp; done) | (simp; omega)) _)))
      have c_res_0_3 := R_res_3.cell 0 rfl
      have c_res_1_3 := R_res_3.cell 1 rfl
      have c_res_2_3 := R_res_3.cell 2 rfl
      have z_res_0_3 := R_res_3.frozen 0
      have z_res_1_3 := R_res_3.frozen 1
      have z_res_2_3 := R_res_3.frozen 2
      have l_res_3 := R_res_3.lt
      have R_x_3 : Row w3 (w.heap.size + 1 + 1) [.int .i64 rooms, .int .i64 sold, .slice (some ⟨b, off, none⟩) zs.length cap] := by (repeat' (first | (with_reducible assumption) | (with_reducible refine Row.new' _ _ _ (by first | rfl | (simp; done) | omega)) | (with_reducible refine Row.alloc ?_ _) | (with_reducible refine Row.drew ?_) | (with_reducible refine Row.drewN ?_ _) | (with_reducible refine Row.step ?_ (by with_reducible assumption)) | (with_reducible refine Row.set2' ?_ _ _; first | exact ⟨_, _, by with_reducible assumption⟩ | exact ⟨_, _, Row.alloc (by with_reducible assumption) _⟩ | exact ⟨_, _, Row.alloc (Row.alloc (by with_reducible assumption) _) _⟩) | (with_reducible refine Row.other ?_ (by first | omega | (simp; done) | (simp; omega)) _)))
      have c_x_0_3 := R_x_3.cell 0 rfl
      have c_x_1_3 := R_x_3.cell 1 rfl
      have c_x_2_3 := R_x_3.cell 2 rfl
      have z_x_0_3 := R_x_3.frozen 0
      have z_x_1_3 := R_x_3.frozen 1
      have z_x_2_3 := R_x_3.frozen 2
      have l_x_3 := R_x_3.lt
      have HB3 : Below w.heap.size w w3 := by (repeat' (first | (with_reducible exact Below.refl _ _) | (with_reducible assumption) | (with_reducible exact Bw.out (by with_reducible assumption)) | (with_reducible refine bw_alloc ?_ _) | (with_reducible refine bw_step ?_ (by with_reducible assumption)) | (with_reducible refine Below.alloc ?_ ?_ _) | (with_reducible refine Below.drew ?_) | (with_reducible refine below_drewN ?_ _) | (with_reducible refine Below.setCell ?_ ?_ _) | (with_reducible refine below_step ?_ (by with_reducible assumption) ?_) | (with_reducible exact Nat.le_refl _) | omega | (simp; omega) | (simp; done)))
      clear R_n_2 c_n_0_2 c_n_1_2 c_n_2_2 R_res_2 c_res_0_2 c_res_1_2 c_res_2_2 z_res_0_2 z_res_1_2 z_res_2_2 R_x_2 c_x_0_2 c_x_1_2 c_x_2_2 z_x_0_2 z_x_1_2 z_x_2_2 hb2 HB2
      have cz3 := (HB3.cell (p := ⟨b, off + c, none⟩) hbl).trans cz
      go_wp2_with fail
      refine (within_one 400 _ _ _ (by (repeat' (first | (with_reducible assumption) | (with_reducible refine Row.new' _ _ _ (by first | rfl | (simp; done) | omega)) | (with_reducible refine Row.alloc ?_ _) | (with_reducible refine Row.drew ?_) | (with_reducible refine Row.drewN ?_ _) | (with_reducible refine Row.step ?_ (by with_reducible assumption)))))).mono ?_
      rintro e w4 ⟨rfl, hb4⟩
      have R_n_4 : Row w4 (w.heap.size) [.int .i64 rooms, .int .i64 sold, .slice (some ⟨b, off, none⟩) zs.length cap] := by (repeat' (first | (with_reducible assumption) | (with_reducible refine Row.new' _ _ _ (by first | rfl | (simp; done) | omega)) | (with_reducible refine Row.alloc ?_ _) | (with_reducible refine Row.drew ?_) | (with_reducible refine Row.drewN ?_ _) | (with_reducible refine Row.step ?_ (by with_reducible assumption)) | (with_reducible refine Row.set2' ?_ _ _; first | exact ⟨_, _, by with_reducible assumption⟩ | exact ⟨_, _, Row.alloc (by with_reducible assumption) _⟩ | exact ⟨_, _, Row.alloc (Row.alloc (by with_reducible assumption) _) _⟩) | (with_reducible refine Row.other ?_ (by first | omega | (simp; done) | (simp; omega)) _)))
      have c_n_0_4 := R_n_4.cell 0 rfl
      have c_n_1_4 := R_n_4.cell 1 rfl
      have c_n_2_4 := R_n_4.cell 2 rfl
      have l_n_4 := R_n_4.lt
      have R_res_4 : Row w4 (w.heap.size + 1) [.int .i64 0, .int .i64 0, .slice none 0 0] := by (repeat' (first | (with_reducible assumption) | (with_reducible refine Row.new' _ _ _ (by first | rfl | (simp; done) | omega)) | (with_reducible refine Row.alloc ?_ _) | (with_reducible refine Row.drew ?_) | (with_reducible refine Row.drewN ?_ _) | (with_reducible refine Row.step ?_ (by with_reducible assumption)) | (with_reducible refine Row.set2' ?_ _ _; first | exact ⟨_, _, by with_reducible assumption⟩ | exact ⟨_, _, Row.alloc (by with_reducible assumption) _⟩ | exact ⟨_, _, Row.alloc (Row.alloc (by with_reducible assumption) _) _⟩) | (with_reducible refine Row.other ?_ (by first | omega | (simp; done) | (simp; omega)) _)))
      have c_res_0_4 := R_res_4.cell 0 rfl
      have c_res_1_4 := R_res_4.cell 1 rfl
      have c_res_2_4 := R_res_4.cell 2 rfl
      have z_res_0_4 := R_res_4.frozen 0
      have z_res_1_4 := R_res_4.frozen 1
      have z_res_2_4 := R_res_4.frozen 2
      have l_res_4 := R_res_4.lt
      have R_x_4 : Row w4 (w.heap.size + 1 + 1) [.int .i64 rooms, .int .i64 sold, .slice (some ⟨b, off, none⟩) zs.length cap] := by (repeat' (first | (with_reducible assumption) | (with_reducible refine Row.new' _ _ _ (by first | rfl | (simp; done) | omega)) | (with_reducible refine Row.alloc ?_ _) | (with_reducible refine Row.drew ?_) | (with_reducible refine Row.drewN ?_ _) | (with_reducible refine Row.step ?_ (by with_reducible assumption)) | (with_reducible refine Row.set2' ?_ _ _; first | exact ⟨_, _, by with_reducible assumption⟩ | exact ⟨_, _, Row.alloc (by with_reducible assumption) _⟩ | exact ⟨_, _, Row.alloc (Row.alloc (by with_reducible assumption) _) _⟩) | (with_reducible refine Row.other ?_ (by first | omega | (simp; done) | (simp; omega)) _)))
      have c_x_0_4 := R_x_4.cell 0 rfl
      have c_x_1_4 := R_x_4.cell 1 rfl
      have c_x_2_4 := R_x_4.cell 2 rfl
      have z_x_0_4 := R_x_4.frozen 0
      have z_x_1_4 := R_x_4.frozen 1
      have z_x_2_4 := R_x_4.frozen 2
      have l_x_4 := R_x_4.lt
      have HB4 : Below w.heap.size w w4 := by (repeat' (first | (with_reducible exact Below.refl _ _) | (with_reducible assumption) | (with_reducible exact Bw.out (by with_reducible assumption)) | (with_reducible refine bw_alloc ?_ _) | (with_reducible refine bw_step ?_ (by with_reducible assumption)) | (with_reducible refine Below.alloc ?_ ?_ _) | (with_reducible refine Below.drew ?_) | (with_reducible refine below_drewN ?_ _) | (with_reducible refine Below.setCell ?_ ?_ _) | (with_reducible refine below_step ?_ (by with_reducible assumption) ?_) | (with_reducible exact Nat.le_refl _) | omega | (simp; omega) | (simp; done)))
      clear R_n_3 c_n_0_3 c_n_1_3 c_n_2_3 R_res_3 c_res_0_3 c_res_1_3 c_res_2_3 z_res_0_3 z_res_1_3 z_res_2_3 R_x_3 c_x_0_3 c_x_1_3 c_x_2_3 z_x_0_3 z_x_1_3 z_x_2_3 hb3 HB3
      go_wp2_with fail
      refine (add_any _ _ _ z _ _ _ _ _ zs _ (by omega) (HS.out.below (by (repeat' (first | (with_reducible exact Below.refl _ _) | (with_reducible assumption) | (with_reducible exact Bw.out (by with_reducible assumption)) | (with_reducible refine bw_alloc ?_ _) | (with_reducible refine bw_step ?_ (by with_reducible assumption)) | (with_reducible refine Below.alloc ?_ ?_ _) | (with_reducible refine Below.drew ?_) | (with_reducible refine below_drewN ?_ _) | (with_reducible refine Below.setCell ?_ ?_ _) | (with_reducible refine below_step ?_ (by with_reducible assumption) ?_) | (with_reducible exact Nat.le_refl _) | omega | (simp; omega) | (simp; done))))) hcn hcap1 hcap2 HZ.out z1 z2 (by omega) (by omega)).mono ?_
      rintro e w5 ⟨g, cap2, rfl, hg, hv2, hv3, hv4, hb5⟩
      have R_n_5 : Row w5 (w.heap.size) [.int .i64 rooms, .int .i64 sold, .slice (some ⟨b, off, none⟩) zs.length cap] := by (repeat' (first | (with_reducible assumption) | (with_reducible refine Row.new' _ _ _ (by first | rfl | (simp; done) | omega)) | (with_reducible refine Row.alloc ?_ _) | (with_reducible refine Row.drew ?_) | (with_reducible refine Row.drewN ?_ _) | (with_reducible refine Row.step ?_ (by with_reducible assumption)) | (with_reducible refine Row.set2' ?_ _ _; first | exact ⟨_, _, by with_reducible assumption⟩ | exact ⟨_, _, Row.alloc (by with_reducible assumption) _⟩ | exact ⟨_, _, Row.alloc (Row.alloc (by with_reducible assumption) _) _⟩) | (with_reducible refine Row.other ?_ (by first | omega | (simp; done) | (simp; omega)) _)))
      have c_n_0_5 := R_n_5.cell 0 rfl
      have c_n_1_5 := R_n_5.cell 1 rfl
      have c_n_2_5 := R_n_5.cell 2 rfl
      have l_n_5 := R_n_5.lt
      have R_res_5 : Row w5 (w.heap.size + 1) [.int .i64 0, .int .i64 0, .slice none 0 0] := by (repeat' (first | (with_reducible assumption) | (with_reducible refine Row.new' _ _ _ (by first | rfl | (simp; done) | omega)) | (with_reducible refine Row.alloc ?_ _) | (with_reducible refine Row.drew ?_) | (with_reducible refine Row.drewN ?_ _) | (with_reducible refine Row.step ?_ (by with_reducible assumption)) | (with_reducible refine Row.set2' ?_ _ _; first | exact ⟨_, _, by with_reducible assumption⟩ | exact ⟨_, _, Row.alloc (by with_reducible assumption) _⟩ | exact ⟨_, _, Row.alloc (Row.alloc (by with_reducible assumption) _) _⟩) | (with_reducible refine Row.other ?_ (by first | omega | (simp; done) | (simp; omega)) _)))
      have c_res_0_5 := R_res_5.cell 0 rfl
      have c_res_1_5 := R_res_5.cell 1 rfl
      have c_res_2_5 := R_res_5.cell 2 rfl
      have z_res_0_5 := R_res_5.frozen 0
      have z_res_1_5 := R_res_5.frozen 1
      have z_res_2_5 := R_res_5.frozen 2
      have l_res_5 := R_res_5.lt
      have R_x_5 : Row w5 (w.heap.size + 1 + 1) [.int .i64 rooms, .int .i64 sold, .slice (some ⟨b, off, none⟩) zs.length cap] := by (repeat' (first | (with_reducible assumption) | (with_reducible refine Row.new' _ _ _ (by first | rfl | (simp; done) | omega)) | (with_reducible refine Row.alloc ?_ _) | (with_reducible refine Row.drew ?_) | (with_reducible refine Row.drewN ?_ _) | (with_reducible refine Row.step ?_ (by with_reducible assumption)) | (with_reducible refine Row.set2' ?_ _ _; first | exact ⟨_, _, by with_reducible assumption⟩ | exact ⟨_, _, Row.alloc (by with_reducible assumption) _⟩ | exact ⟨_, _, Row.alloc (Row.alloc (by with_reducible assumption) _) _⟩) | (with_reducible refine Row.other ?_ (by first | omega | (simp; done) | (simp; omega)) _)))
      have c_x_0_5 := R_x_5.cell 0 rfl
      have c_x_1_5 := R_x_5.cell 1 rfl
      have c_x_2_5 := R_x_5.cell 2 rfl
      have z_x_0_5 := R_x_5.frozen 0
      have z_x_1_5 := R_x_5.frozen 1
      have z_x_2_5 := R_x_5.frozen 2
      have l_x_5 := R_x_5.lt
      have HB5 : Below w.heap.size w w5 := by (repeat' (first | (with_reducible exact Below.refl _ _) | (with_reducible assumption) | (with_reducible exact Bw.out (by with_reducible assumption)) | (with_reducible refine bw_alloc ?_ _) | (with_reducible refine bw_step ?_ (by with_reducible assumption)) | (with_reducible refine Below.alloc ?_ ?_ _) | (with_reducible refine Below.drew ?_) | (with_reducible refine below_drewN ?_ _) | (with_reducible refine Below.setCell ?_ ?_ _) | (with_reducible refine below_step ?_ (by with_reducible assumption) ?_) | (with_reducible exact Nat.le_refl _) | omega | (simp; omega) | (simp; done)))
      clear R_n_4 c_n_0_4 c_n_1_4 c_n_2_4 R_res_4 c_res_0_4 c_res_1_4 c_res_2_4 z_res_0_4 z_res_1_4 z_res_2_4 R_x_4 c_x_0_4 c_x_1_4 c_x_2_4 z_x_0_4 z_x_1_4 z_x_2_4 hb4 HB4
      go_wp2_with fail
      refine bodyPost_ret (v := .tuple #[.agg #[.int .i64 rooms, .int .i64 sold, .slice (some ⟨g, 0, none⟩) zs.length cap2], .int .i64 0]) (by simp [results, Try.results25, go_sem, c_res_0_5, c_res_1_5, c_res_2_5, l_res_5]) rfl ⟨_, rfl, ?_, ?_, ?_⟩
      · have e : zs.getD ((c : Int).toNat) 0 = z := by rw [Int.toNat_natCast]; exact HZ.out
        rw [e, Int.toNat_natCast]
        have hl : (zs.set c (z + r)).length = zs.length := List.length_set
        refine ⟨some ⟨g, 0, none⟩, cap2, by rw [hl], ?_, by rw [hl]; exact hv3, by unfold maxLen; exact hv4⟩
        rw [hl]
        exact (((hv2.other (by simp; omega) _).other (by simp; omega) _).other (by simp; omega) _).sl hl
      · exact FromV.new _ (by omega)
      · (repeat' (first | (with_reducible exact Below.refl _ _) | (with_reducible assumption) | (with_reducible exact Bw.out (by with_reducible assumption)) | (with_reducible refine bw_alloc ?_ _) | (with_reducible refine bw_step ?_ (by with_reducible assumption)) | (with_reducible refine Below.alloc ?_ ?_ _) | (with_reducible refine Below.drew ?_) | (with_reducible refine below_drewN ?_ _) | (with_reducible refine Below.setCell ?_ ?_ _) | (with_reducible refine below_step ?_ (by with_reducible assumption) ?_) | (with_reducible exact Nat.le_refl _) | omega | (simp; omega) | (simp; done)))
    · have ho2 : outB 400 (z + r) = true := outB_true hf
      have eE : grE rooms sold zs (c : Int) r = 3 := by
        unfold grE
        rw [if_pos ⟨hn, ⟨by omega, by omega⟩, hr1, hr2⟩, if_neg (by rw [Int.toNat_natCast, hz.out]; exact hf)]
      rw [eE]
      simp only [seR, grZ, show ¬ (3 : Int) = 0 by omega, if_false]
      clear eE hz hf
      go_enter Try.func25, Try.ntmps25
      go_wp2_with fail
      refine (right_any _ _ _ _ _ zs _ hm (HS.out.below (by (repeat' (first | (with_reducible exact Below.refl _ _) | (with_reducible assumption) | (with_reducible exact Bw.out (by with_reducible assumption)) | (with_reducible refine bw_alloc ?_ _) | (with_reducible refine bw_step ?_ (by with_reducible assumption)) | (with_reducible refine Below.alloc ?_ ?_ _) | (with_reducible refine Below.drew ?_) | (with_reducible refine below_drewN ?_ _) | (with_reducible refine Below.setCell ?_ ?_ _) | (with_reducible refine below_step ?_ (by with_reducible assumption) ?_) | (with_reducible exact Nat.le_refl _) | omega | (simp; omega) | (simp; done)))))).mono ?_
      rintro e w1 ⟨rfl, hb1⟩
      have R_n_1 : Row w1 (w.heap.size) [.int .i64 rooms, .int .i64 sold, .slice (some ⟨b, off, none⟩) zs.length cap] := by (repeat' (first | (with_reducible assumption) | (with_reducible refine Row.new' _ _ _ (by first | rfl | (simp; done) | omega)) | (with_reducible refine Row.alloc ?_ _) | (with_reducible refine Row.drew ?_) | (with_reducible refine Row.drewN ?_ _) | (with_reducible refine Row.step ?_ (by with_reducible assumption)) | (with_reducible refine Row.set2' ?_ _ _; first | exact ⟨_, _, by with_reducible assumption⟩ | exact ⟨_, _, Row.alloc (by with_reducible assumption) _⟩ | exact ⟨_, _, Row.alloc (Row.alloc (by with_reducible assumption) _) _⟩) | (with_reducible refine Row.other ?_ (by first | omega | (simp; done) | (simp; omega)) _)))
      have c_n_0_1 := R_n_1.cell 0 rfl
      have c_n_1_1 := R_n_1.cell 1 rfl
      have c_n_2_1 := R_n_1.cell 2 rfl
      have l_n_1 := R_n_1.lt
      have R_res_1 : Row w1 (w.heap.size + 1) [.int .i64 0, .int .i64 0, .slice none 0 0] := by (repeat' (first | (with_reducible assumption) | (with_reducible refine Row.new' _ _ _ (by first | rfl | (simp; done) | omega)) | (with_reducible refine Row.alloc ?_ _) | (with_reducible refine Row.drew ?_) | (with_reducible refine Row.drewN ?_ _) | (with_reducible refine Row.step ?_ (by with_reducible assumption)) | (with_reducible refine Row.set2' ?_ _ _; first | exact ⟨_, _, by with_reducible assumption⟩ | exact ⟨_, _, Row.alloc (by with_reducible assumption) _⟩ | exact ⟨_, _, Row.alloc (Row.alloc (by with_reducible assumption) _) _⟩) | (with_reducible refine Row.other ?_ (by first | omega | (simp; done) | (simp; omega)) _)))
      have c_res_0_1 := R_res_1.cell 0 rfl
      have c_res_1_1 := R_res_1.cell 1 rfl
      have c_res_2_1 := R_res_1.cell 2 rfl
      have z_res_0_1 := R_res_1.frozen 0
      have z_res_1_1 := R_res_1.frozen 1
      have z_res_2_1 := R_res_1.frozen 2
      have l_res_1 := R_res_1.lt
      have R_x_1 : Row w1 (w.heap.size + 1 + 1) [.int .i64 rooms, .int .i64 sold, .slice (some ⟨b, off, none⟩) zs.length cap] := by (repeat' (first | (with_reducible assumption) | (with_reducible refine Row.new' _ _ _ (by first | rfl | (simp; done) | omega)) | (with_reducible refine Row.alloc ?_ _) | (with_reducible refine Row.drew ?_) | (with_reducible refine Row.drewN ?_ _) | (with_reducible refine Row.step ?_ (by with_reducible assumption)) | (with_reducible refine Row.set2' ?_ _ _; first | exact ⟨_, _, by with_reducible assumption⟩ | exact ⟨_, _, Row.alloc (by with_reducible assumption) _⟩ | exact ⟨_, _, Row.alloc (Row.alloc (by with_reducible assumption) _) _⟩) | (with_reducible refine Row.other ?_ (by first | omega | (simp; done) | (simp; omega)) _)))
      have c_x_0_1 := R_x_1.cell 0 rfl
      have c_x_1_1 := R_x_1.cell 1 rfl
      have c_x_2_1 := R_x_1.cell 2 rfl
      have z_x_0_1 := R_x_1.frozen 0
      have z_x_1_1 := R_x_1.frozen 1
      have z_x_2_1 := R_x_1.frozen 2
      have l_x_1 := R_x_1.lt
      have HB1 : Below w.heap.size w w1 := by (repeat' (first | (with_reducible exact Below.refl _ _) | (with_reducible assumption) | (with_reducible exact Bw.out (by with_reducible assumption)) | (with_reducible refine bw_alloc ?_ _) | (with_reducible refine bw_step ?_ (by with_reducible assumption)) | (with_reducible refine Below.alloc ?_ ?_ _) | (with_reducible refine Below.drew ?_) | (with_reducible refine below_drewN ?_ _) | (with_reducible refine Below.setCell ?_ ?_ _) | (with_reducible refine below_step ?_ (by with_reducible assumption) ?_) | (with_reducible exact Nat.le_refl _) | omega | (simp; omega) | (simp; done)))
      go_wp2_with fail
      refine (has_any _ _ _ _ _ _ _ hm).mono ?_
      rintro e w2 ⟨rfl, hb2⟩
      have R_n_2 : Row w2 (w.heap.size) [.int .i64 rooms, .int .i64 sold, .slice (some ⟨b, off, none⟩) zs.length cap] := by (repeat' (first | (with_reducible assumption) | (with_reducible refine Row.new' _ _ _ (by first | rfl | (simp; done) | omega)) | (with_reducible refine Row.alloc ?_ _) | (with_reducible refine Row.drew ?_) | (with_reducible refine Row.drewN ?_ _) | (with_reducible refine Row.step ?_ (by with_reducible assumption)) | (with_reducible refine Row.set2' ?_ _ _; first | exact ⟨_, _, by with_reducible assumption⟩ | exact ⟨_, _, Row.alloc (by with_reducible assumption) _⟩ | exact ⟨_, _, Row.alloc (Row.alloc (by with_reducible assumption) _) _⟩) | (with_reducible refine Row.other ?_ (by first | omega | (simp; done) | (simp; omega)) _)))
      have c_n_0_2 := R_n_2.cell 0 rfl
      have c_n_1_2 := R_n_2.cell 1 rfl
      have c_n_2_2 := R_n_2.cell 2 rfl
      have l_n_2 := R_n_2.lt
      have R_res_2 : Row w2 (w.heap.size + 1) [.int .i64 0, .int .i64 0, .slice none 0 0] := by (repeat' (first | (with_reducible assumption) | (with_reducible refine Row.new' _ _ _ (by first | rfl | (simp; done) | omega)) | (with_reducible refine Row.alloc ?_ _) | (with_reducible refine Row.drew ?_) | (with_reducible refine Row.drewN ?_ _) | (with_reducible refine Row.step ?_ (by with_reducible assumption)) | (with_reducible refine Row.set2' ?_ _ _; first | exact ⟨_, _, by with_reducible assumption⟩ | exact ⟨_, _, Row.alloc (by with_reducible assumption) _⟩ | exact ⟨_, _, Row.alloc (Row.alloc (by with_reducible assumption) _) _⟩) | (with_reducible refine Row.other ?_ (by first | omega | (simp; done) | (simp; omega)) _)))
      have c_res_0_2 := R_res_2.cell 0 rfl
      have c_res_1_2 := R_res_2.cell 1 rfl
      have c_res_2_2 := R_res_2.cell 2 rfl
      have z_res_0_2 := R_res_2.frozen 0
      have z_res_1_2 := R_res_2.frozen 1
      have z_res_2_2 := R_res_2.frozen 2
      have l_res_2 := R_res_2.lt
      have R_x_2 : Row w2 (w.heap.size + 1 + 1) [.int .i64 rooms, .int .i64 sold, .slice (some ⟨b, off, none⟩) zs.length cap] := by (repeat' (first | (with_reducible assumption) | (with_reducible refine Row.new' _ _ _ (by first | rfl | (simp; done) | omega)) | (with_reducible refine Row.alloc ?_ _) | (with_reducible refine Row.drew ?_) | (with_reducible refine Row.drewN ?_ _) | (with_reducible refine Row.step ?_ (by with_reducible assumption)) | (with_reducible refine Row.set2' ?_ _ _; first | exact ⟨_, _, by with_reducible assumption⟩ | exact ⟨_, _, Row.alloc (by with_reducible assumption) _⟩ | exact ⟨_, _, Row.alloc (Row.alloc (by with_reducible assumption) _) _⟩) | (with_reducible refine Row.other ?_ (by first | omega | (simp; done) | (simp; omega)) _)))
      have c_x_0_2 := R_x_2.cell 0 rfl
      have c_x_1_2 := R_x_2.cell 1 rfl
      have c_x_2_2 := R_x_2.cell 2 rfl
      have z_x_0_2 := R_x_2.frozen 0
      have z_x_1_2 := R_x_2.frozen 1
      have z_x_2_2 := R_x_2.frozen 2
      have l_x_2 := R_x_2.lt
      have HB2 : Below w.heap.size w w2 := by (repeat' (first | (with_reducible exact Below.refl _ _) | (with_reducible assumption) | (with_reducible exact Bw.out (by with_reducible assumption)) | (with_reducible refine bw_alloc ?_ _) | (with_reducible refine bw_step ?_ (by with_reducible assumption)) | (with_reducible refine Below.alloc ?_ ?_ _) | (with_reducible refine Below.drew ?_) | (with_reducible refine below_drewN ?_ _) | (with_reducible refine Below.setCell ?_ ?_ _) | (with_reducible refine below_step ?_ (by with_reducible assumption) ?_) | (with_reducible exact Nat.le_refl _) | omega | (simp; omega) | (simp; done)))
      clear R_n_1 c_n_0_1 c_n_1_1 c_n_2_1 R_res_1 c_res_0_1 c_res_1_1 c_res_2_1 z_res_0_1 z_res_1_1 z_res_2_1 R_x_1 c_x_0_1 c_x_1_1 c_x_2_1 z_x_0_1 z_x_1_1 z_x_2_1 hb1 HB1
      go_wp2_with fail
      refine (within_one 800 _ _ _ (by (repeat' (first | (with_reducible assumption) | (with_reducible refine Row.new' _ _ _ (by first | rfl | (simp; done) | omega)) | (with_reducible refine Row.alloc ?_ _) | (with_reducible refine Row.drew ?_) | (with_reducible refine Row.drewN ?_ _) | (with_reducible refine Row.step ?_ (by with_reducible assumption)))))).mono ?_
      rintro e w3 ⟨rfl, hb3⟩
      have R_n_3 : Row w3 (w.heap.size) [.int .i64 rooms, .int .i64 sold, .slice (some ⟨b, off, none⟩) zs.length cap] := by (repeat' (first | (with_reducible assumption) | (with_reducible refine Row.new' _ _ _ (by first | rfl | (simp; done) | omega)) | (with_reducible refine Row.alloc ?_ _) | (with_reducible refine Row.drew ?_) | (with_reducible refine Row.drewN ?_ _) | (with_reducible refine Row.step ?_ (by with_reducible assumption)) | (with_reducible refine Row.set2' ?_ _ _; first | exact ⟨_, _, by with_reducible assumption⟩ | exact ⟨_, _, Row.alloc (by with_reducible assumption) _⟩ | exact ⟨_, _, Row.alloc (Row.alloc (by with_reducible assumption) _) _⟩) | (with_reducible refine Row.other ?_ (by first | omega | (simp; done) | (simp; omega)) _)))
      have c_n_0_3 := R_n_3.cell 0 rfl
      have c_n_1_3 := R_n_3.cell 1 rfl
      have c_n_2_3 := R_n_3.cell 2 rfl
      have l_n_3 := R_n_3.lt
      have R_res_3 : Row w3 (w.heap.size + 1) [.int .i64 0, .int .i64 0, .slice none 0 0] := by (repeat' (first | (with_reducible assumption) | (with_reducible refine Row.new' _ _ _ (by first | rfl | (simp; done) | omega)) | (with_reducible refine Row.alloc ?_ _) | (with_reducible refine Row.drew ?_) | (with_reducible refine Row.drewN ?_ _) | (with_reducible refine Row.step ?_ (by with_reducible assumption)) | (with_reducible refine Row.set2' ?_ _ _; first | exact ⟨_, _, by with_reducible assumption⟩ | exact ⟨_, _, Row.alloc (by with_reducible assumption) _⟩ | exact ⟨_, _, Row.alloc (Row.alloc (by with_reducible assumption) _) _⟩) | (with_reducible refine Row.other ?_ (by first | omega | (simp; done) | (simp; omega)) _)))
      have c_res_0_3 := R_res_3.cell 0 rfl
      have c_res_1_3 := R_res_3.cell 1 rfl
      have c_res_2_3 := R_res_3.cell 2 rfl
      have z_res_0_3 := R_res_3.frozen 0
      have z_res_1_3 := R_res_3.frozen 1
      have z_res_2_3 := R_res_3.frozen 2
      have l_res_3 := R_res_3.lt
      have R_x_3 : Row w3 (w.heap.size + 1 + 1) [.int .i64 rooms, .int .i64 sold, .slice (some ⟨b, off, none⟩) zs.length cap] := by (repeat' (first | (with_reducible assumption) | (with_reducible refine Row.new' _ _ _ (by first | rfl | (simp; done) | omega)) | (with_reducible refine Row.alloc ?_ _) | (with_reducible refine Row.drew ?_) | (with_reducible refine Row.drewN ?_ _) | (with_reducible refine Row.step ?_ (by with_reducible assumption)) | (with_reducible refine Row.set2' ?_ _ _; first | exact ⟨_, _, by with_reducible assumption⟩ | exact ⟨_, _, Row.alloc (by with_reducible assumption) _⟩ | exact ⟨_, _, Row.alloc (Row.alloc (by with_reducible assumption) _) _⟩) | (with_reducible refine Row.other ?_ (by first | omega | (simp; done) | (simp; omega)) _)))
      have c_x_0_3 := R_x_3.cell 0 rfl
      have c_x_1_3 := R_x_3.cell 1 rfl
      have c_x_2_3 := R_x_3.cell 2 rfl
      have z_x_0_3 := R_x_3.frozen 0
      have z_x_1_3 := R_x_3.frozen 1
      have z_x_2_3 := R_x_3.frozen 2
      have l_x_3 := R_x_3.lt
      have HB3 : Below w.heap.size w w3 := by (repeat' (first | (with_reducible exact Below.refl _ _) | (with_reducible assumption) | (with_reducible exact Bw.out (by with_reducible assumption)) | (with_reducible refine bw_alloc ?_ _) | (with_reducible refine bw_step ?_ (by with_reducible assumption)) | (with_reducible refine Below.alloc ?_ ?_ _) | (with_reducible refine Below.drew ?_) | (with_reducible refine below_drewN ?_ _) | (with_reducible refine Below.setCell ?_ ?_ _) | (with_reducible refine below_step ?_ (by with_reducible assumption) ?_) | (with_reducible exact Nat.le_refl _) | omega | (simp; omega) | (simp; done)))
      clear R_n_2 c_n_0_2 c_n_1_2 c_n_2_2 R_res_2 c_res_0_2 c_res_1_2 c_res_2_2 z_res_0_2 z_res_1_2 z_res_2_2 R_x_2 c_x_0_2 c_x_1_2 c_x_2_2 z_x_0_2 z_x_1_2 z_x_2_2 hb2 HB2
      have cz3 := (HB3.cell (p := ⟨b, off + c, none⟩) hbl).trans cz
      go_wp2_with fail
      refine (within_one 400 _ _ _ (by (repeat' (first | (with_reducible assumption) | (with_reducible refine Row.new' _ _ _ (by first | rfl | (simp; done) | omega)) | (with_reducible refine Row.alloc ?_ _) | (with_reducible refine Row.drew ?_) | (with_reducible refine Row.drewN ?_ _) | (with_reducible refine Row.step ?_ (by with_reducible assumption)))))).mono ?_
      rintro e w4 ⟨rfl, hb4⟩
      have R_n_4 : Row w4 (w.heap.size) [.int .i64 rooms, .int .i64 sold, .slice (some ⟨b, off, none⟩) zs.length cap] := by (repeat' (first | (with_reducible assumption) | (with_reducible refine Row.new' _ _ _ (by first | rfl | (simp; done) | omega)) | (with_reducible refine Row.alloc ?_ _) | (with_reducible refine Row.drew ?_) | (with_reducible refine Row.drewN ?_ _) | (with_reducible refine Row.step ?_ (by with_reducible assumption)) | (with_reducible refine Row.set2' ?_ _ _; first | exact ⟨_, _, by with_reducible assumption⟩ | exact ⟨_, _, Row.alloc (by with_reducible assumption) _⟩ | exact ⟨_, _, Row.alloc (Row.alloc (by with_reducible assumption) _) _⟩) | (with_reducible refine Row.other ?_ (by first | omega | (simp; done) | (simp; omega)) _)))
      have c_n_0_4 := R_n_4.cell 0 rfl
      have c_n_1_4 := R_n_4.cell 1 rfl
      have c_n_2_4 := R_n_4.cell 2 rfl
      have l_n_4 := R_n_4.lt
      have R_res_4 : Row w4 (w.heap.size + 1) [.int .i64 0, .int .i64 0, .slice none 0 0] := by (repeat' (first | (with_reducible assumption) | (with_reducible refine Row.new' _ _ _ (by first | rfl | (simp; done) | omega)) | (with_reducible refine Row.alloc ?_ _) | (with_reducible refine Row.drew ?_) | (with_reducible refine Row.drewN ?_ _) | (with_reducible refine Row.step ?_ (by with_reducible assumption)) | (with_reducible refine Row.set2' ?_ _ _; first | exact ⟨_, _, by with_reducible assumption⟩ | exact ⟨_, _, Row.alloc (by with_reducible assumption) _⟩ | exact ⟨_, _, Row.alloc (Row.alloc (by with_reducible assumption) _) _⟩) | (with_reducible refine Row.other ?_ (by first | omega | (simp; done) | (simp; omega)) _)))
      have c_res_0_4 := R_res_4.cell 0 rfl
      have c_res_1_4 := R_res_4.cell 1 rfl
      have c_res_2_4 := R_res_4.cell 2 rfl
      have z_res_0_4 := R_res_4.frozen 0
      have z_res_1_4 := R_res_4.frozen 1
      have z_res_2_4 := R_res_4.frozen 2
      have l_res_4 := R_res_4.lt
      have R_x_4 : Row w4 (w.heap.size + 1 + 1) [.int .i64 rooms, .int .i64 sold, .slice (some ⟨b, off, none⟩) zs.length cap] := by (repeat' (first | (with_reducible assumption) | (with_reducible refine Row.new' _ _ _ (by first | rfl | (simp; done) | omega)) | (with_reducible refine Row.alloc ?_ _) | (with_reducible refine Row.drew ?_) | (with_reducible refine Row.drewN ?_ _) | (with_reducible refine Row.step ?_ (by with_reducible assumption)) | (with_reducible refine Row.set2' ?_ _ _; first | exact ⟨_, _, by with_reducible assumption⟩ | exact ⟨_, _, Row.alloc (by with_reducible assumption) _⟩ | exact ⟨_, _, Row.alloc (Row.alloc (by with_reducible assumption) _) _⟩) | (with_reducible refine Row.other ?_ (by first | omega | (simp; done) | (simp; omega)) _)))
      have c_x_0_4 := R_x_4.cell 0 rfl
      have c_x_1_4 := R_x_4.cell 1 rfl
      have c_x_2_4 := R_x_4.cell 2 rfl
      have z_x_0_4 := R_x_4.frozen 0
      have z_x_1_4 := R_x_4.frozen 1
      have z_x_2_4 := R_x_4.frozen 2
      have l_x_4 := R_x_4.lt
      have HB4 : Below w.heap.size w w4 := by (repeat' (first | (with_reducible exact Below.refl _ _) | (with_reducible assumption) | (with_reducible exact Bw.out (by with_reducible assumption)) | (with_reducible refine bw_alloc ?_ _) | (with_reducible refine bw_step ?_ (by with_reducible assumption)) | (with_reducible refine Below.alloc ?_ ?_ _) | (with_reducible refine Below.drew ?_) | (with_reducible refine below_drewN ?_ _) | (with_reducible refine Below.setCell ?_ ?_ _) | (with_reducible refine below_step ?_ (by with_reducible assumption) ?_) | (with_reducible exact Nat.le_refl _) | omega | (simp; omega) | (simp; done)))
      clear R_n_3 c_n_0_3 c_n_1_3 c_n_2_3 R_res_3 c_res_0_3 c_res_1_3 c_res_2_3 z_res_0_3 z_res_1_3 z_res_2_3 R_x_3 c_x_0_3 c_x_1_3 c_x_2_3 z_x_0_3 z_x_1_3 z_x_2_3 hb3 HB3
      go_wp2_with fail
      refine bodyPost_ret (v := .tuple #[.agg #[.int .i64 0, .int .i64 0, .slice none 0 0], .int .i64 3]) (by simp [results, Try.results25, go_sem, c_res_0_4, c_res_1_4, c_res_2_4, l_res_4]) rfl ⟨_, rfl, SlV.nil _, FromV.nil _ _, ?_⟩
      (repeat' (first | (with_reducible exact Below.refl _ _) | (with_reducible assumption) | (with_reducible exact Bw.out (by with_reducible assumption)) | (with_reducible refine bw_alloc ?_ _) | (with_reducible refine bw_step ?_ (by with_reducible assumption)) | (with_reducible refine Below.alloc ?_ ?_ _) | (with_reducible refine Below.drew ?_) | (with_reducible refine below_drewN ?_ _) | (with_reducible refine Below.setCell ?_ ?_ _) | (with_reducible refine below_step ?_ (by with_reducible assumption) ?_) | (with_reducible exact Nat.le_refl _) | omega | (simp; omega) | (simp; done)))
  · rw [show grE rooms sold zs ch r = 1 from if_neg hA]
    simp only [seR, grZ, show ¬ (1 : Int) = 0 by omega, if_false]
    cases hn : nightB rooms sold zs with
    | false =>
      clear hA
      go_enter Try.func25, Try.ntmps25
      go_wp2_with fail
      refine (right_any _ _ _ _ _ zs _ hm (HS.out.below (by (repeat' (first | (with_reducible exact Below.refl _ _) | (with_reducible assumption) | (with_reducible exact Bw.out (by with_reducible assumption)) | (with_reducible refine bw_alloc ?_ _) | (with_reducible refine bw_step ?_ (by with_reducible assumption)) | (with_reducible refine Below.alloc ?_ ?_ _) | (with_reducible refine Below.drew ?_) | (with_reducible refine below_drewN ?_ _) | (with_reducible refine Below.setCell ?_ ?_ _) | (with_reducible refine below_step ?_ (by with_reducible assumption) ?_) | (with_reducible exact Nat.le_refl _) | omega | (simp; omega) | (simp; done)))))).mono ?_
      rintro e w1 ⟨rfl, hb1⟩
      have R_n_1 : Row w1 (w.heap.size) [.int .i64 rooms, .int .i64 sold, .slice a zs.length cap] := by (repeat' (first | (with_reducible assumption) | (with_reducible refine Row.new' _ _ _ (by first | rfl | (simp; done) | omega)) | (with_reducible refine Row.alloc ?_ _) | (with_reducible refine Row.drew ?_) | (with_reducible refine Row.drewN ?_ _) | (with_reducible refine Row.step ?_ (by with_reducible assumption)) | (with_reducible refine Row.set2' ?_ _ _; first | exact ⟨_, _, by with_reducible assumption⟩ | exact ⟨_, _, Row.alloc (by with_reducible assumption) _⟩ | exact ⟨_, _, Row.alloc (Row.alloc (by with_reducible assumption) _) _⟩) | (with_reducible refine Row.other ?_ (by first | omega | (simp; done) | (simp; omega)) _)))
      have c_n_0_1 := R_n_1.cell 0 rfl
      have c_n_1_1 := R_n_1.cell 1 rfl
      have c_n_2_1 := R_n_1.cell 2 rfl
      have l_n_1 := R_n_1.lt
      have R_res_1 : Row w1 (w.heap.size + 1) [.int .i64 0, .int .i64 0, .slice none 0 0] := by (repeat' (first | (with_reducible assumption) | (with_reducible refine Row.new' _ _ _ (by first | rfl | (simp; done) | omega)) | (with_reducible refine Row.alloc ?_ _) | (with_reducible refine Row.drew ?_) | (with_reducible refine Row.drewN ?_ _) | (with_reducible refine Row.step ?_ (by with_reducible assumption)) | (with_reducible refine Row.set2' ?_ _ _; first | exact ⟨_, _, by with_reducible assumption⟩ | exact ⟨_, _, Row.alloc (by with_reducible assumption) _⟩ | exact ⟨_, _, Row.alloc (Row.alloc (by with_reducible assumption) _) _⟩) | (with_reducible refine Row.other ?_ (by first | omega | (simp; done) | (simp; omega)) _)))
      have c_res_0_1 := R_res_1.cell 0 rfl
      have c_res_1_1 := R_res_1.cell 1 rfl
      have c_res_2_1 := R_res_1.cell 2 rfl
      have z_res_0_1 := R_res_1.frozen 0
      have z_res_1_1 := R_res_1.frozen 1
      have z_res_2_1 := R_res_1.frozen 2
      have l_res_1 := R_res_1.lt
      have R_x_1 : Row w1 (w.heap.size + 1 + 1) [.int .i64 rooms, .int .i64 sold, .slice a zs.length cap] := by (repeat' (first | (with_reducible assumption) | (with_reducible refine Row.new' _ _ _ (by first | rfl | (simp; done) | omega)) | (with_reducible refine Row.alloc ?_ _) | (with_reducible refine Row.drew ?_) | (with_reducible refine Row.drewN ?_ _) | (with_reducible refine Row.step ?_ (by with_reducible assumption)) | (with_reducible refine Row.set2' ?_ _ _; first | exact ⟨_, _, by with_reducible assumption⟩ | exact ⟨_, _, Row.alloc (by with_reducible assumption) _⟩ | exact ⟨_, _, Row.alloc (Row.alloc (by with_reducible assumption) _) _⟩) | (with_reducible refine Row.other ?_ (by first | omega | (simp; done) | (simp; omega)) _)))
      have c_x_0_1 := R_x_1.cell 0 rfl
      have c_x_1_1 := R_x_1.cell 1 rfl
      have c_x_2_1 := R_x_1.cell 2 rfl
      have z_x_0_1 := R_x_1.frozen 0
      have z_x_1_1 := R_x_1.frozen 1
      have z_x_2_1 := R_x_1.frozen 2
      have l_x_1 := R_x_1.lt
      have HB1 : Below w.heap.size w w1 := by (repeat' (first | (with_reducible exact Below.refl _ _) | (with_reducible assumption) | (with_reducible exact Bw.out (by with_reducible assumption)) | (with_reducible refine bw_alloc ?_ _) | (with_reducible refine bw_step ?_ (by with_reducible assumption)) | (with_reducible refine Below.alloc ?_ ?_ _) | (with_reducible refine Below.drew ?_) | (with_reducible refine below_drewN ?_ _) | (with_reducible refine Below.setCell ?_ ?_ _) | (with_reducible refine below_step ?_ (by with_reducible assumption) ?_) | (with_reducible exact Nat.le_refl _) | omega | (simp; omega) | (simp; done)))
      go_wp2_with fail
      refine bodyPost_ret (v := .tuple #[.agg #[.int .i64 0, .int .i64 0, .slice none 0 0], .int .i64 1]) (by simp [results, Try.results25, go_sem, c_res_0_1, c_res_1_1, c_res_2_1, l_res_1]) rfl ⟨_, rfl, SlV.nil _, FromV.nil _ _, ?_⟩
      (repeat' (first | (with_reducible exact Below.refl _ _) | (with_reducible assumption) | (with_reducible exact Bw.out (by with_reducible assumption)) | (with_reducible refine bw_alloc ?_ _) | (with_reducible refine bw_step ?_ (by with_reducible assumption)) | (with_reducible refine Below.alloc ?_ ?_ _) | (with_reducible refine Below.drew ?_) | (with_reducible refine below_drewN ?_ _) | (with_reducible refine Below.setCell ?_ ?_ _) | (with_reducible refine below_step ?_ (by with_reducible assumption) ?_) | (with_reducible exact Nat.le_refl _) | omega | (simp; omega) | (simp; done)))
    | true =>
      by_cases h2 : 0 ≤ ch ∧ ch < zs.length
      · have d1 : decide ((0 : Int) ≤ ch) = true := by simp; omega
        have d2 : decide (ch < (zs.length : Int)) = true := by simp; omega
        have h3 : ¬ (-400 ≤ r ∧ r ≤ 400) := fun h => hA ⟨hn, h2, h⟩
        clear hA
        by_cases h4 : r ≤ 9223372036854775407
        · have ho : outB 800 (r + 400) = true := outB_true (by omega)
          obtain ⟨hr1, hr2⟩ := hr
          go_enter Try.func25, Try.ntmps25
          go_wp2_with fail
          refine (right_any _ _ _ _ _ zs _ hm (HS.out.below (by (repeat' (first | (with_reducible exact Below.refl _ _) | (with_reducible assumption) | (with_reducible exact Bw.out (by with_reducible assumption)) | (with_reducible refine bw_alloc ?_ _) | (with_reducible refine bw_step ?_ (by with_reducible assumption)) | (with_reducible refine Below.alloc ?_ ?_ _) | (with_reducible refine Below.drew ?_) | (with_reducible refine below_drewN ?_ _) | (with_reducible refine Below.setCell ?_ ?_ _) | (with_reducible refine below_step ?_ (by with_reducible assumption) ?_) | (with_reducible exact Nat.le_refl _) | omega | (simp; omega) | (simp; done)))))).mono ?_
          rintro e w1 ⟨rfl, hb1⟩
          have R_n_1 : Row w1 (w.heap.size) [.int .i64 rooms, .int .i64 sold, .slice a zs.length cap] := by (repeat' (first | (with_reducible assumption) | (with_reducible refine Row.new' _ _ _ (by first | rfl | (simp; done) | omega)) | (with_reducible refine Row.alloc ?_ _) | (with_reducible refine Row.drew ?_) | (with_reducible refine Row.drewN ?_ _) | (with_reducible refine Row.step ?_ (by with_reducible assumption)) | (with_reducible refine Row.set2' ?_ _ _; first | exact ⟨_, _, by with_reducible assumption⟩ | exact ⟨_, _, Row.alloc (by with_reducible assumption) _⟩ | exact ⟨_, _, Row.alloc (Row.alloc (by with_reducible assumption) _) _⟩) | (with_reducible refine Row.other ?_ (by first | omega | (simp; done) | (simp; omega)) _)))
          have c_n_0_1 := R_n_1.cell 0 rfl
          have c_n_1_1 := R_n_1.cell 1 rfl
          have c_n_2_1 := R_n_1.cell 2 rfl
          have l_n_1 := R_n_1.lt
          have R_res_1 : Row w1 (w.heap.size + 1) [.int .i64 0, .int .i64 0, .slice none 0 0] := by (repeat' (first | (with_reducible assumption) | (with_reducible refine Row.new' _ _ _ (by first | rfl | (simp; done) | omega)) | (with_reducible refine Row.alloc ?_ _) | (with_reducible refine Row.drew ?_) | (with_reducible refine Row.drewN ?_ _) | (with_reducible refine Row.step ?_ (by with_reducible assumption)) | (with_reducible refine Row.set2' ?_ _ _; first | exact ⟨_, _, by with_reducible assumption⟩ | exact ⟨_, _, Row.alloc (by with_reducible assumption) _⟩ | exact ⟨_, _, Row.alloc (Row.alloc (by with_reducible assumption) _) _⟩) | (with_reducible refine Row.other ?_ (by first | omega | (simp; done) | (simp; omega)) _)))
          have c_res_0_1 := R_res_1.cell 0 rfl
          have c_res_1_1 := R_res_1.cell 1 rfl
          have c_res_2_1 := R_res_1.cell 2 rfl
          have z_res_0_1 := R_res_1.frozen 0
          have z_res_1_1 := R_res_1.frozen 1
          have z_res_2_1 := R_res_1.frozen 2
          have l_res_1 := R_res_1.lt
          have R_x_1 : Row w1 (w.heap.size + 1 + 1) [.int .i64 rooms, .int .i64 sold, .slice a zs.length cap] := by (repeat' (first | (with_reducible assumption) | (with_reducible refine Row.new' _ _ _ (by first | rfl | (simp; done) | omega)) | (with_reducible refine Row.alloc ?_ _) | (with_reducible refine Row.drew ?_) | (with_reducible refine Row.drewN ?_ _) | (with_reducible refine Row.step ?_ (by with_reducible assumption)) | (with_reducible refine Row.set2' ?_ _ _; first | exact ⟨_, _, by with_reducible assumption⟩ | exact ⟨_, _, Row.alloc (by with_reducible assumption) _⟩ | exact ⟨_, _, Row.alloc (Row.alloc (by with_reducible assumption) _) _⟩) | (with_reducible refine Row.other ?_ (by first | omega | (simp; done) | (simp; omega)) _)))
          have c_x_0_1 := R_x_1.cell 0 rfl
          have c_x_1_1 := R_x_1.cell 1 rfl
          have c_x_2_1 := R_x_1.cell 2 rfl
          have z_x_0_1 := R_x_1.frozen 0
          have z_x_1_1 := R_x_1.frozen 1
          have z_x_2_1 := R_x_1.frozen 2
          have l_x_1 := R_x_1.lt
          have HB1 : Below w.heap.size w w1 := by (repeat' (first | (with_reducible exact Below.refl _ _) | (with_reducible assumption) | (with_reducible exact Bw.out (by with_reducible assumption)) | (with_reducible refine bw_alloc ?_ _) | (with_reducible refine bw_step ?_ (by with_reducible assumption)) | (with_reducible refine Below.alloc ?_ ?_ _) | (with_reducible refine Below.drew ?_) | (with_reducible refine below_drewN ?_ _) | (with_reducible refine Below.setCell ?_ ?_ _) | (with_reducible refine below_step ?_ (by with_reducible assumption) ?_) | (with_reducible exact Nat.le_refl _) | omega | (simp; omega) | (simp; done)))
          go_wp2_with fail
          refine (has_any _ _ _ _ _ _ _ hm).mono ?_
          rintro e w2 ⟨rfl, hb2⟩
          have R_n_2 : Row w2 (w.heap.size) [.int .i64 rooms, .int .i64 sold, .slice a zs.length cap] := by (repeat' (first | (with_reducible assumption) | (with_reducible refine Row.new' _ _ _ (by first | rfl | (simp; done) | omega)) | (with_reducible refine Row.alloc ?_ _) | (with_reducible refine Row.drew ?_) | (with_reducible refine Row.drewN ?_ _) | (with_reducible refine Row.step ?_ (by with_reducible assumption)) | (with_reducible refine Row.set2' ?_ _ _; first | exact ⟨_, _, by with_reducible assumption⟩ | exact ⟨_, _, Row.alloc (by with_reducible assumption) _⟩ | exact ⟨_, _, Row.alloc (Row.alloc (by with_reducible assumption) _) _⟩) | (with_reducible refine Row.other ?_ (by first | omega | (simp; done) | (simp; omega)) _)))
          have c_n_0_2 := R_n_2.cell 0 rfl
          have c_n_1_2 := R_n_2.cell 1 rfl
          have c_n_2_2 := R_n_2.cell 2 rfl
          have l_n_2 := R_n_2.lt
          have R_res_2 : Row w2 (w.heap.size + 1) [.int .i64 0, .int .i64 0, .slice none 0 0] := by (repeat' (first | (with_reducible assumption) | (with_reducible refine Row.new' _ _ _ (by first | rfl | (simp; done) | omega)) | (with_reducible refine Row.alloc ?_ _) | (with_reducible refine Row.drew ?_) | (with_reducible refine Row.drewN ?_ _) | (with_reducible refine Row.step ?_ (by with_reducible assumption)) | (with_reducible refine Row.set2' ?_ _ _; first | exact ⟨_, _, by with_reducible assumption⟩ | exact ⟨_, _, Row.alloc (by with_reducible assumption) _⟩ | exact ⟨_, _, Row.alloc (Row.alloc (by with_reducible assumption) _) _⟩) | (with_reducible refine Row.other ?_ (by first | omega | (simp; done) | (simp; omega)) _)))
          have c_res_0_2 := R_res_2.cell 0 rfl
          have c_res_1_2 := R_res_2.cell 1 rfl
          have c_res_2_2 := R_res_2.cell 2 rfl
          have z_res_0_2 := R_res_2.frozen 0
          have z_res_1_2 := R_res_2.frozen 1
          have z_res_2_2 := R_res_2.frozen 2
          have l_res_2 := R_res_2.lt
          have R_x_2 : Row w2 (w.heap.size + 1 + 1) [.int .i64 rooms, .int .i64 sold, .slice a zs.length cap] := by (repeat' (first | (with_reducible assumption) | (with_reducible refine Row.new' _ _ _ (by first | rfl | (simp; done) | omega)) | (with_reducible refine Row.alloc ?_ _) | (with_reducible refine Row.drew ?_) | (with_reducible refine Row.drewN ?_ _) | (with_reducible refine Row.step ?_ (by with_reducible assumption)) | (with_reducible refine Row.set2' ?_ _ _; first | exact ⟨_, _, by with_reducible assumption⟩ | exact ⟨_, _, Row.alloc (by with_reducible assumption) _⟩ | exact ⟨_, _, Row.alloc (Row.alloc (by with_reducible assumption) _) _⟩) | (with_reducible refine Row.other ?_ (by first | omega | (simp; done) | (simp; omega)) _)))
          have c_x_0_2 := R_x_2.cell 0 rfl
          have c_x_1_2 := R_x_2.cell 1 rfl
          have c_x_2_2 := R_x_2.cell 2 rfl
          have z_x_0_2 := R_x_2.frozen 0
          have z_x_1_2 := R_x_2.frozen 1
          have z_x_2_2 := R_x_2.frozen 2
          have l_x_2 := R_x_2.lt
          have HB2 : Below w.heap.size w w2 := by (repeat' (first | (with_reducible exact Below.refl _ _) | (with_reducible assumption) | (with_reducible exact Bw.out (by with_reducible assumption)) | (with_reducible refine bw_alloc ?_ _) | (with_reducible refine bw_step ?_ (by with_reducible assumption)) | (with_reducible refine Below.alloc ?_ ?_ _) | (with_reducible refine Below.drew ?_) | (with_reducible refine below_drewN ?_ _) | (with_reducible refine Below.setCell ?_ ?_ _) | (with_reducible refine below_step ?_ (by with_reducible assumption) ?_) | (with_reducible exact Nat.le_refl _) | omega | (simp; omega) | (simp; done)))
          clear R_n_1 c_n_0_1 c_n_1_1 c_n_2_1 R_res_1 c_res_0_1 c_res_1_1 c_res_2_1 z_res_0_1 z_res_1_1 z_res_2_1 R_x_1 c_x_0_1 c_x_1_1 c_x_2_1 z_x_0_1 z_x_1_1 z_x_2_1 hb1 HB1
          go_wp2_with fail
          refine (within_one 800 _ _ _ (by (repeat' (first | (with_reducible assumption) | (with_reducible refine Row.new' _ _ _ (by first | rfl | (simp; done) | omega)) | (with_reducible refine Row.alloc ?_ _) | (with_reducible refine Row.drew ?_) | (with_reducible refine Row.drewN ?_ _) | (with_reducible refine Row.step ?_ (by with_reducible assumption)))))).mono ?_
          rintro e w3 ⟨rfl, hb3⟩
          have R_n_3 : Row w3 (w.heap.size) [.int .i64 rooms, .int .i64 sold, .slice a zs.length cap] := by (repeat' (first | (with_reducible assumption) | (with_reducible refine Row.new' _ _ _ (by first | rfl | (simp; done) | omega)) | (with_reducible refine Row.alloc ?_ _) | (with_reducible refine Row.drew ?_) | (with_reducible refine Row.drewN ?_ _) | (with_reducible refine Row.step ?_ (by with_reducible assumption)) | (with_reducible refine Row.set2' ?_ _ _; first | exact ⟨_, _, by with_reducible assumption⟩ | exact ⟨_, _, Row.alloc (by with_reducible assumption) _⟩ | exact ⟨_, _, Row.alloc (Row.alloc (by with_reducible assumption) _) _⟩) | (with_reducible refine Row.other ?_ (by first | omega | (simp; done) | (simp; omega)) _)))
          have c_n_0_3 := R_n_3.cell 0 rfl
          have c_n_1_3 := R_n_3.cell 1 rfl
          have c_n_2_3 := R_n_3.cell 2 rfl
          have l_n_3 := R_n_3.lt
          have R_res_3 : Row w3 (w.heap.size + 1) [.int .i64 0, .int .i64 0, .slice none 0 0] := by (repeat' (first | (with_reducible assumption) | (with_reducible refine Row.new' _ _ _ (by first | rfl | (simp; done) | omega)) | (with_reducible refine Row.alloc ?_ _) | (with_reducible refine Row.drew ?_) | (with_reducible refine Row.drewN ?_ _) | (with_reducible refine Row.step ?_ (by with_reducible assumption)) | (with_reducible refine Row.set2' ?_ _ _; first | exact ⟨_, _, by with_reducible assumption⟩ | exact ⟨_, _, Row.alloc (by with_reducible assumption) _⟩ | exact ⟨_, _, Row.alloc (Row.alloc (by with_reducible assumption) _) _⟩) | (with_reducible refine Row.other ?_ (by first | omega | (simp; done) | (simp; omega)) _)))
          have c_res_0_3 := R_res_3.cell 0 rfl
          have c_res_1_3 := R_res_3.cell 1 rfl
          have c_res_2_3 := R_res_3.cell 2 rfl
          have z_res_0_3 := R_res_3.frozen 0
          have z_res_1_3 := R_res_3.frozen 1
          have z_res_2_3 := R_res_3.frozen 2
          have l_res_3 := R_res_3.lt
          have R_x_3 : Row w3 (w.heap.size + 1 + 1) [.int .i64 rooms, .int .i64 sold, .slice a zs.length cap] := by (repeat' (first | (with_reducible assumption) | (with_reducible refine Row.new' _ _ _ (by first | rfl | (simp; done) | omega)) | (with_reducible refine Row.alloc ?_ _) | (with_reducible refine Row.drew ?_) | (with_reducible refine Row.drewN ?_ _) | (with_reducible refine Row.step ?_ (by with_reducible assumption)) | (with_reducible refine Row.set2' ?_ _ _; first | exact ⟨_, _, by with_reducible assumption⟩ | exact ⟨_, _, Row.alloc (by with_reducible assumption) _⟩ | exact ⟨_, _, Row.alloc (Row.alloc (by with_reducible assumption) _) _⟩) | (with_reducible refine Row.other ?_ (by first | omega | (simp; done) | (simp; omega)) _)))
          have c_x_0_3 := R_x_3.cell 0 rfl
          have c_x_1_3 := R_x_3.cell 1 rfl
          have c_x_2_3 := R_x_3.cell 2 rfl
          have z_x_0_3 := R_x_3.frozen 0
          have z_x_1_3 := R_x_3.frozen 1
          have z_x_2_3 := R_x_3.frozen 2
          have l_x_3 := R_x_3.lt
          have HB3 : Below w.heap.size w w3 := by (repeat' (first | (with_reducible exact Below.refl _ _) | (with_reducible assumption) | (with_reducible exact Bw.out (by with_reducible assumption)) | (with_reducible refine bw_alloc ?_ _) | (with_reducible refine bw_step ?_ (by with_reducible assumption)) | (with_reducible refine Below.alloc ?_ ?_ _) | (with_reducible refine Below.drew ?_) | (with_reducible refine below_drewN ?_ _) | (with_reducible refine Below.setCell ?_ ?_ _) | (with_reducible refine below_step ?_ (by with_reducible assumption) ?_) | (with_reducible exact Nat.le_refl _) | omega | (simp; omega) | (simp; done)))
          clear R_n_2 c_n_0_2 c_n_1_2 c_n_2_2 R_res_2 c_res_0_2 c_res_1_2 c_res_2_2 z_res_0_2 z_res_1_2 z_res_2_2 R_x_2 c_x_0_2 c_x_1_2 c_x_2_2 z_x_0_2 z_x_1_2 z_x_2_2 hb2 HB2
          go_wp2_with fail
          refine bodyPost_ret (v := .tuple #[.agg #[.int .i64 0, .int .i64 0, .slice none 0 0], .int .i64 1]) (by simp [results, Try.results25, go_sem, c_res_0_3, c_res_1_3, c_res_2_3, l_res_3]) rfl ⟨_, rfl, SlV.nil _, FromV.nil _ _, ?_⟩
          (repeat' (first | (with_reducible exact Below.refl _ _) | (with_reducible assumption) | (with_reducible exact Bw.out (by with_reducible assumption)) | (with_reducible refine bw_alloc ?_ _) | (with_reducible refine bw_step ?_ (by with_reducible assumption)) | (with_reducible refine Below.alloc ?_ ?_ _) | (with_reducible refine Below.drew ?_) | (with_reducible refine below_drewN ?_ _) | (with_reducible refine Below.setCell ?_ ?_ _) | (with_reducible refine below_step ?_ (by with_reducible assumption) ?_) | (with_reducible exact Nat.le_refl _) | omega | (simp; omega) | (simp; done)))
        · obtain ⟨q, hq⟩ : ∃ q, wrap64 (r + 400) = q := ⟨_, rfl⟩
          have hq0 : q < 0 := by rw [← hq]; unfold wrap64; omega
          have ho : outB 800 q = true := outB_true (by omega)
          go_enter Try.func25, Try.ntmps25
          go_wp2_with fail
          refine (right_any _ _ _ _ _ zs _ hm (HS.out.below (by (repeat' (first | (with_reducible exact Below.refl _ _) | (with_reducible assumption) | (with_reducible exact Bw.out (by with_reducible assumption)) | (with_reducible refine bw_alloc ?_ _) | (with_reducible refine bw_step ?_ (by with_reducible assumption)) | (with_reducible refine Below.alloc ?_ ?_ _) | (with_reducible refine Below.drew ?_) | (with_reducible refine below_drewN ?_ _) | (with_reducible refine Below.setCell ?_ ?_ _) | (with_reducible refine below_step ?_ (by with_reducible assumption) ?_) | (with_reducible exact Nat.le_refl _) | omega | (simp; omega) | (simp; done)))))).mono ?_
          rintro e w1 ⟨rfl, hb1⟩
          have R_n_1 : Row w1 (w.heap.size) [.int .i64 rooms, .int .i64 sold, .slice a zs.length cap] := by (repeat' (first | (with_reducible assumption) | (with_reducible refine Row.new' _ _ _ (by first | rfl | (simp; done) | omega)) | (with_reducible refine Row.alloc ?_ _) | (with_reducible refine Row.drew ?_) | (with_reducible refine Row.drewN ?_ _) | (with_reducible refine Row.step ?_ (by with_reducible assumption)) | (with_reducible refine Row.set2' ?_ _ _; first | exact ⟨_, _, by with_reducible assumption⟩ | exact ⟨_, _, Row.alloc (by with_reducible assumption) _⟩ | exact ⟨_, _, Row.alloc (Row.alloc (by with_reducible assumption) _) _⟩) | (with_reducible refine Row.other ?_ (by first | omega | (simp; done) | (simp; omega)) _)))
          have c_n_0_1 := R_n_1.cell 0 rfl
          have c_n_1_1 := R_n_1.cell 1 rfl
          have c_n_2_1 := R_n_1.cell 2 rfl
          have l_n_1 := R_n_1.lt
          have R_res_1 : Row w1 (w.heap.size + 1) [.int .i64 0, .int .i64 0, .slice none 0 0] := by (repeat' (first | (with_reducible assumption) | (with_reducible refine Row.new' _ _ _ (by first | rfl | (simp; done) | omega)) | (with_reducible refine Row.alloc ?_ _) | (with_reducible refine Row.drew ?_) | (with_reducible refine Row.drewN ?_ _) | (with_reducible refine Row.step ?_ (by with_reducible assumption)) | (with_reducible refine Row.set2' ?_ _ _; first | exact ⟨_, _, by with_reducible assumption⟩ | exact ⟨_, _, Row.alloc (by with_reducible assumption) _⟩ | exact ⟨_, _, Row.alloc (Row.alloc (by with_reducible assumption) _) _⟩) | (with_reducible refine Row.other ?_ (by first | omega | (simp; done) | (simp; omega)) _)))
          have c_res_0_1 := R_res_1.cell 0 rfl
          have c_res_1_1 := R_res_1.cell 1 rfl
          have c_res_2_1 := R_res_1.cell 2 rfl
          have z_res_0_1 := R_res_1.frozen 0
          have z_res_1_1 := R_res_1.frozen 1
          have z_res_2_1 := R_res_1.frozen 2
          have l_res_1 := R_res_1.lt
          have R_x_1 : Row w1 (w.heap.size + 1 + 1) [.int .i64 rooms, .int .i64 sold, .slice a zs.length cap] := by (repeat' (first | (with_reducible assumption) | (with_reducible refine Row.new' _ _ _ (by first | rfl | (simp; done) | omega)) | (with_reducible refine Row.alloc ?_ _) | (with_reducible refine Row.drew ?_) | (with_reducible refine Row.drewN ?_ _) | (with_reducible refine Row.step ?_ (by with_reducible assumption)) | (with_reducible refine Row.set2' ?_ _ _; first | exact ⟨_, _, by with_reducible assumption⟩ | exact ⟨_, _, Row.alloc (by with_reducible assumption) _⟩ | exact ⟨_, _, Row.alloc (Row.alloc (by with_reducible assumption) _) _⟩) | (with_reducible refine Row.other ?_ (by first | omega | (simp; done) | (simp; omega)) _)))
          have c_x_0_1 := R_x_1.cell 0 rfl
          have c_x_1_1 := R_x_1.cell 1 rfl
          have c_x_2_1 := R_x_1.cell 2 rfl
          have z_x_0_1 := R_x_1.frozen 0
          have z_x_1_1 := R_x_1.frozen 1
          have z_x_2_1 := R_x_1.frozen 2
          have l_x_1 := R_x_1.lt
          have HB1 : Below w.heap.size w w1 := by (repeat' (first | (with_reducible exact Below.refl _ _) | (with_reducible assumption) | (with_reducible exact Bw.out (by with_reducible assumption)) | (with_reducible refine bw_alloc ?_ _) | (with_reducible refine bw_step ?_ (by with_reducible assumption)) | (with_reducible refine Below.alloc ?_ ?_ _) | (with_reducible refine Below.drew ?_) | (with_reducible refine below_drewN ?_ _) | (with_reducible refine Below.setCell ?_ ?_ _) | (with_reducible refine below_step ?_ (by with_reducible assumption) ?_) | (with_reducible exact Nat.le_refl _) | omega | (simp; omega) | (simp; done)))
          go_wp2_with fail
          refine (has_any _ _ _ _ _ _ _ hm).mono ?_
          rintro e w2 ⟨rfl, hb2⟩
          have R_n_2 : Row w2 (w.heap.size) [.int .i64 rooms, .int .i64 sold, .slice a zs.length cap] := by (repeat' (first | (with_reducible assumption) | (with_reducible refine Row.new' _ _ _ (by first | rfl | (simp; done) | omega)) | (with_reducible refine Row.alloc ?_ _) | (with_reducible refine Row.drew ?_) | (with_reducible refine Row.drewN ?_ _) | (with_reducible refine Row.step ?_ (by with_reducible assumption)) | (with_reducible refine Row.set2' ?_ _ _; first | exact ⟨_, _, by with_reducible assumption⟩ | exact ⟨_, _, Row.alloc (by with_reducible assumption) _⟩ | exact ⟨_, _, Row.alloc (Row.alloc (by with_reducible assumption) _) _⟩) | (with_reducible refine Row.other ?_ (by first | omega | (simp; done) | (simp; omega)) _)))
          have c_n_0_2 := R_n_2.cell 0 rfl
          have c_n_1_2 := R_n_2.cell 1 rfl
          have c_n_2_2 := R_n_2.cell 2 rfl
          have l_n_2 := R_n_2.lt
          have R_res_2 : Row w2 (w.heap.size + 1) [.int .i64 0, .int .i64 0, .slice none 0 0] := by (repeat' (first | (with_reducible assumption) | (with_reducible refine Row.new' _ _ _ (by first | rfl | (simp; done) | omega)) | (with_reducible refine Row.alloc ?_ _) | (with_reducible refine Row.drew ?_) | (with_reducible refine Row.drewN ?_ _) | (with_reducible refine Row.step ?_ (by with_reducible assumption)) | (with_reducible refine Row.set2' ?_ _ _; first | exact ⟨_, _, by with_reducible assumption⟩ | exact ⟨_, _, Row.alloc (by with_reducible assumption) _⟩ | exact ⟨_, _, Row.alloc (Row.alloc (by with_reducible assumption) _) _⟩) | (with_reducible refine Row.other ?_ (by first | omega | (simp; done) | (simp; omega)) _)))
          have c_res_0_2 := R_res_2.cell 0 rfl
          have c_res_1_2 := R_res_2.cell 1 rfl
          have c_res_2_2 := R_res_2.cell 2 rfl
          have z_res_0_2 := R_res_2.frozen 0
          have z_res_1_2 := R_res_2.frozen 1
          have z_res_2_2 := R_res_2.frozen 2
          have l_res_2 := R_res_2.lt
          have R_x_2 : Row w2 (w.heap.size + 1 + 1) [.int .i64 rooms, .int .i64 sold, .slice a zs.length cap] := by (repeat' (first | (with_reducible assumption) | (with_reducible refine Row.new' _ _ _ (by first | rfl | (simp; done) | omega)) | (with_reducible refine Row.alloc ?_ _) | (with_reducible refine Row.drew ?_) | (with_reducible refine Row.drewN ?_ _) | (with_reducible refine Row.step ?_ (by with_reducible assumption)) | (with_reducible refine Row.set2' ?_ _ _; first | exact ⟨_, _, by with_reducible assumption⟩ | exact ⟨_, _, Row.alloc (by with_reducible assumption) _⟩ | exact ⟨_, _, Row.alloc (Row.alloc (by with_reducible assumption) _) _⟩) | (with_reducible refine Row.other ?_ (by first | omega | (simp; done) | (simp; omega)) _)))
          have c_x_0_2 := R_x_2.cell 0 rfl
          have c_x_1_2 := R_x_2.cell 1 rfl
          have c_x_2_2 := R_x_2.cell 2 rfl
          have z_x_0_2 := R_x_2.frozen 0
          have z_x_1_2 := R_x_2.frozen 1
          have z_x_2_2 := R_x_2.frozen 2
          have l_x_2 := R_x_2.lt
          have HB2 : Below w.heap.size w w2 := by (repeat' (first | (with_reducible exact Below.refl _ _) | (with_reducible assumption) | (with_reducible exact Bw.out (by with_reducible assumption)) | (with_reducible refine bw_alloc ?_ _) | (with_reducible refine bw_step ?_ (by with_reducible assumption)) | (with_reducible refine Below.alloc ?_ ?_ _) | (with_reducible refine Below.drew ?_) | (with_reducible refine below_drewN ?_ _) | (with_reducible refine Below.setCell ?_ ?_ _) | (with_reducible refine below_step ?_ (by with_reducible assumption) ?_) | (with_reducible exact Nat.le_refl _) | omega | (simp; omega) | (simp; done)))
          clear R_n_1 c_n_0_1 c_n_1_1 c_n_2_1 R_res_1 c_res_0_1 c_res_1_1 c_res_2_1 z_res_0_1 z_res_1_1 z_res_2_1 R_x_1 c_x_0_1 c_x_1_1 c_x_2_1 z_x_0_1 z_x_1_1 z_x_2_1 hb1 HB1
          go_wp2_with fail
          refine (within_one 800 _ _ _ (by (repeat' (first | (with_reducible assumption) | (with_reducible refine Row.new' _ _ _ (by first | rfl | (simp; done) | omega)) | (with_reducible refine Row.alloc ?_ _) | (with_reducible refine Row.drew ?_) | (with_reducible refine Row.drewN ?_ _) | (with_reducible refine Row.step ?_ (by with_reducible assumption)))))).mono ?_
          rintro e w3 ⟨rfl, hb3⟩
          have R_n_3 : Row w3 (w.heap.size) [.int .i64 rooms, .int .i64 sold, .slice a zs.length cap] := by (repeat' (first | (with_reducible assumption) | (with_reducible refine Row.new' _ _ _ (by first | rfl | (simp; done) | omega)) | (with_reducible refine Row.alloc ?_ _) | (with_reducible refine Row.drew ?_) | (with_reducible refine Row.drewN ?_ _) | (with_reducible refine Row.step ?_ (by with_reducible assumption)) | (with_reducible refine Row.set2' ?_ _ _; first | exact ⟨_, _, by with_reducible assumption⟩ | exact ⟨_, _, Row.alloc (by with_reducible assumption) _⟩ | exact ⟨_, _, Row.alloc (Row.alloc (by with_reducible assumption) _) _⟩) | (with_reducible refine Row.other ?_ (by first | omega | (simp; done) | (simp; omega)) _)))
          have c_n_0_3 := R_n_3.cell 0 rfl
          have c_n_1_3 := R_n_3.cell 1 rfl
          have c_n_2_3 := R_n_3.cell 2 rfl
          have l_n_3 := R_n_3.lt
          have R_res_3 : Row w3 (w.heap.size + 1) [.int .i64 0, .int .i64 0, .slice none 0 0] := by (repeat' (first | (with_reducible assumption) | (with_reducible refine Row.new' _ _ _ (by first | rfl | (simp; done) | omega)) | (with_reducible refine Row.alloc ?_ _) | (with_reducible refine Row.drew ?_) | (with_reducible refine Row.drewN ?_ _) | (with_reducible refine Row.step ?_ (by with_reducible assumption)) | (with_reducible refine Row.set2' ?_ _ _; first | exact ⟨_, _, by with_reducible assumption⟩ | exact ⟨_, _, Row.alloc (by with_reducible assumption) _⟩ | exact ⟨_, _, Row.alloc (Row.alloc (by with_reducible assumption) _) _⟩) | (with_reducible refine Row.other ?_ (by first | omega | (simp; done) | (simp; omega)) _)))
          have c_res_0_3 := R_res_3.cell 0 rfl
          have c_res_1_3 := R_res_3.cell 1 rfl
          have c_res_2_3 := R_res_3.cell 2 rfl
          have z_res_0_3 := R_res_3.frozen 0
          have z_res_1_3 := R_res_3.frozen 1
          have z_res_2_3 := R_res_3.frozen 2
          have l_res_3 := R_res_3.lt
          have R_x_3 : Row w3 (w.heap.size + 1 + 1) [.int .i64 rooms, .int .i64 sold, .slice a zs.length cap] := by (repeat' (first | (with_reducible assumption) | (with_reducible refine Row.new' _ _ _ (by first | rfl | (simp; done) | omega)) | (with_reducible refine Row.alloc ?_ _) | (with_reducible refine Row.drew ?_) | (with_reducible refine Row.drewN ?_ _) | (with_reducible refine Row.step ?_ (by with_reducible assumption)) | (with_reducible refine Row.set2' ?_ _ _; first | exact ⟨_, _, by with_reducible assumption⟩ | exact ⟨_, _, Row.alloc (by with_reducible assumption) _⟩ | exact ⟨_, _, Row.alloc (Row.alloc (by with_reducible assumption) _) _⟩) | (with_reducible refine Row.other ?_ (by first | omega | (simp; done) | (simp; omega)) _)))
          have c_x_0_3 := R_x_3.cell 0 rfl
          have c_x_1_3 := R_x_3.cell 1 rfl
          have c_x_2_3 := R_x_3.cell 2 rfl
          have z_x_0_3 := R_x_3.frozen 0
          have z_x_1_3 := R_x_3.frozen 1
          have z_x_2_3 := R_x_3.frozen 2
          have l_x_3 := R_x_3.lt
          have HB3 : Below w.heap.size w w3 := by (repeat' (first | (with_reducible exact Below.refl _ _) | (with_reducible assumption) | (with_reducible exact Bw.out (by with_reducible assumption)) | (with_reducible refine bw_alloc ?_ _) | (with_reducible refine bw_step ?_ (by with_reducible assumption)) | (with_reducible refine Below.alloc ?_ ?_ _) | (with_reducible refine Below.drew ?_) | (with_reducible refine below_drewN ?_ _) | (with_reducible refine Below.setCell ?_ ?_ _) | (with_reducible refine below_step ?_ (by with_reducible assumption) ?_) | (with_reducible exact Nat.le_refl _) | omega | (simp; omega) | (simp; done)))
          clear R_n_2 c_n_0_2 c_n_1_2 c_n_2_2 R_res_2 c_res_0_2 c_res_1_2 c_res_2_2 z_res_0_2 z_res_1_2 z_res_2_2 R_x_2 c_x_0_2 c_x_1_2 c_x_2_2 z_x_0_2 z_x_1_2 z_x_2_2 hb2 HB2
          go_wp2_with fail
          refine bodyPost_ret (v := .tuple #[.agg #[.int .i64 0, .int .i64 0, .slice none 0 0], .int .i64 1]) (by simp [results, Try.results25, go_sem, c_res_0_3, c_res_1_3, c_res_2_3, l_res_3]) rfl ⟨_, rfl, SlV.nil _, FromV.nil _ _, ?_⟩
          (repeat' (first | (with_reducible exact Below.refl _ _) | (with_reducible assumption) | (with_reducible exact Bw.out (by with_reducible assumption)) | (with_reducible refine bw_alloc ?_ _) | (with_reducible refine bw_step ?_ (by with_reducible assumption)) | (with_reducible refine Below.alloc ?_ ?_ _) | (with_reducible refine Below.drew ?_) | (with_reducible refine below_drewN ?_ _) | (with_reducible refine Below.setCell ?_ ?_ _) | (with_reducible refine below_step ?_ (by with_reducible assumption) ?_) | (with_reducible exact Nat.le_refl _) | omega | (simp; omega) | (simp; done)))
      · have d1 : (decide ((0 : Int) ≤ ch) && decide (ch < (zs.length : Int))) = false := by
          rw [Bool.and_eq_false_iff]; simp; omega
        clear hA
        go_enter Try.func25, Try.ntmps25
        go_wp2_with fail
        refine (right_any _ _ _ _ _ zs _ hm (HS.out.below (by (repeat' (first | (with_reducible exact Below.refl _ _) | (with_reducible assumption) | (with_reducible exact Bw.out (by with_reducible assumption)) | (with_reducible refine bw_alloc ?_ _) | (with_reducible refine bw_step ?_ (by with_reducible assumption)) | (with_reducible refine Below.alloc ?_ ?_ _) | (with_reducible refine Below.drew ?_) | (with_reducible refine below_drewN ?_ _) | (with_reducible refine Below.setCell ?_ ?_ _) | (with_reducible refine below_step ?_ (by with_reducible assumption) ?_) | (with_reducible exact Nat.le_refl _) | omega | (simp; omega) | (simp; done)))))).mono ?_
        rintro e w1 ⟨rfl, hb1⟩
        have R_n_1 : Row w1 (w.heap.size) [.int .i64 rooms, .int .i64 sold, .slice a zs.length cap] := by (repeat' (first | (with_reducible assumption) | (with_reducible refine Row.new' _ _ _ (by first | rfl | (simp; done) | omega)) | (with_reducible refine Row.alloc ?_ _) | (with_reducible refine Row.drew ?_) | (with_reducible refine Row.drewN ?_ _) | (with_reducible refine Row.step ?_ (by with_reducible assumption)) | (with_reducible refine Row.set2' ?_ _ _; first | exact ⟨_, _, by with_reducible assumption⟩ | exact ⟨_, _, Row.alloc (by with_reducible assumption) _⟩ | exact ⟨_, _, Row.alloc (Row.alloc (by with_reducible assumption) _) _⟩) | (with_reducible refine Row.other ?_ (by first | omega | (simp; done) | (simp; omega)) _)))
        have c_n_0_1 := R_n_1.cell 0 rfl
        have c_n_1_1 := R_n_1.cell 1 rfl
        have c_n_2_1 := R_n_1.cell 2 rfl
        have l_n_1 := R_n_1.lt
        have R_res_1 : Row w1 (w.heap.size + 1) [.int .i64 0, .int .i64 0, .slice none 0 0] := by (repeat' (first | (with_reducible assumption) | (with_reducible refine Row.new' _ _ _ (by first | rfl | (simp; done) | omega)) | (with_reducible refine Row.alloc ?_ _) | (with_reducible refine Row.drew ?_) | (with_reducible refine Row.drewN ?_ _) | (with_reducible refine Row.step ?_ (by with_reducible assumption)) | (with_reducible refine Row.set2' ?_ _ _; first | exact ⟨_, _, by with_reducible assumption⟩ | exact ⟨_, _, Row.alloc (by with_reducible assumption) _⟩ | exact ⟨_, _, Row.alloc (Row.alloc (by with_reducible assumption) _) _⟩) | (with_reducible refine Row.other ?_ (by first | omega | (simp; done) | (simp; omega)) _)))
        have c_res_0_1 := R_res_1.cell 0 rfl
        have c_res_1_1 := R_res_1.cell 1 rfl
        have c_res_2_1 := R_res_1.cell 2 rfl
        have z_res_0_1 := R_res_1.frozen 0
        have z_res_1_1 := R_res_1.frozen 1
        have z_res_2_1 := R_res_1.frozen 2
        have l_res_1 := R_res_1.lt
        have R_x_1 : Row w1 (w.heap.size + 1 + 1) [.int .i64 rooms, .int .i64 sold, .slice a zs.length cap] := by (repeat' (first | (with_reducible assumption) | (with_reducible refine Row.new' _ _ _ (by first | rfl | (simp; done) | omega)) | (with_reducible refine Row.alloc ?_ _) | (with_reducible refine Row.drew ?_) | (with_reducible refine Row.drewN ?_ _) | (with_reducible refine Row.step ?_ (by with_reducible assumption)) | (with_reducible refine Row.set2' ?_ _ _; first | exact ⟨_, _, by with_reducible assumption⟩ | exact ⟨_, _, Row.alloc (by with_reducible assumption) _⟩ | exact ⟨_, _, Row.alloc (Row.alloc (by with_reducible assumption) _) _⟩) | (with_reducible refine Row.other ?_ (by first | omega | (simp; done) | (simp; omega)) _)))
        have c_x_0_1 := R_x_1.cell 0 rfl
        have c_x_1_1 := R_x_1.cell 1 rfl
        have c_x_2_1 := R_x_1.cell 2 rfl
        have z_x_0_1 := R_x_1.frozen 0
        have z_x_1_1 := R_x_1.frozen 1
        have z_x_2_1 := R_x_1.frozen 2
        have l_x_1 := R_x_1.lt
        have HB1 : Below w.heap.size w w1 := by (repeat' (first | (with_reducible exact Below.refl _ _) | (with_reducible assumption) | (with_reducible exact Bw.out (by with_reducible assumption)) | (with_reducible refine bw_alloc ?_ _) | (with_reducible refine bw_step ?_ (by with_reducible assumption)) | (with_reducible refine Below.alloc ?_ ?_ _) | (with_reducible refine Below.drew ?_) | (with_reducible refine below_drewN ?_ _) | (with_reducible refine Below.setCell ?_ ?_ _) | (with_reducible refine below_step ?_ (by with_reducible assumption) ?_) | (with_reducible exact Nat.le_refl _) | omega | (simp; omega) | (simp; done)))
        go_wp2_with fail
        refine (has_any _ _ _ _ _ _ _ hm).mono ?_
        rintro e w2 ⟨rfl, hb2⟩
        have R_n_2 : Row w2 (w.heap.size) [.int .i64 rooms, .int .i64 sold, .slice a zs.length cap] := by (repeat' (first | (with_reducible assumption) | (with_reducible refine Row.new' _ _ _ (by first | rfl | (simp; done) | omega)) | (with_reducible refine Row.alloc ?_ _) | (with_reducible refine Row.drew ?_) | (with_reducible refine Row.drewN ?_ _) | (with_reducible refine Row.step ?_ (by with_reducible assumption)) | (with_reducible refine Row.set2' ?_ _ _; first | exact ⟨_, _, by with_reducible assumption⟩ | exact ⟨_, _, Row.alloc (by with_reducible assumption) _⟩ | exact ⟨_, _, Row.alloc (Row.alloc (by with_reducible assumption) _) _⟩) | (with_reducible refine Row.other ?_ (by first | omega | (simp; done) | (simp; omega)) _)))
        have c_n_0_2 := R_n_2.cell 0 rfl
        have c_n_1_2 := R_n_2.cell 1 rfl
        have c_n_2_2 := R_n_2.cell 2 rfl
        have l_n_2 := R_n_2.lt
        have R_res_2 : Row w2 (w.heap.size + 1) [.int .i64 0, .int .i64 0, .slice none 0 0] := by (repeat' (first | (with_reducible assumption) | (with_reducible refine Row.new' _ _ _ (by first | rfl | (simp; done) | omega)) | (with_reducible refine Row.alloc ?_ _) | (with_reducible refine Row.drew ?_) | (with_reducible refine Row.drewN ?_ _) | (with_reducible refine Row.step ?_ (by with_reducible assumption)) | (with_reducible refine Row.set2' ?_ _ _; first | exact ⟨_, _, by with_reducible assumption⟩ | exact ⟨_, _, Row.alloc (by with_reducible assumption) _⟩ | exact ⟨_, _, Row.alloc (Row.alloc (by with_reducible assumption) _) _⟩) | (with_reducible refine Row.other ?_ (by first | omega | (simp; done) | (simp; omega)) _)))
        have c_res_0_2 := R_res_2.cell 0 rfl
        have c_res_1_2 := R_res_2.cell 1 rfl
        have c_res_2_2 := R_res_2.cell 2 rfl
        have z_res_0_2 := R_res_2.frozen 0
        have z_res_1_2 := R_res_2.frozen 1
        have z_res_2_2 := R_res_2.frozen 2
        have l_res_2 := R_res_2.lt
        have R_x_2 : Row w2 (w.heap.size + 1 + 1) [.int .i64 rooms, .int .i64 sold, .slice a zs.length cap] := by (repeat' (first | (with_reducible assumption) | (with_reducible refine Row.new' _ _ _ (by first | rfl | (simp; done) | omega)) | (with_reducible refine Row.alloc ?_ _) | (with_reducible refine Row.drew ?_) | (with_reducible refine Row.drewN ?_ _) | (with_reducible refine Row.step ?_ (by with_reducible assumption)) | (with_reducible refine Row.set2' ?_ _ _; first | exact ⟨_, _, by with_reducible assumption⟩ | exact ⟨_, _, Row.alloc (by with_reducible assumption) _⟩ | exact ⟨_, _, Row.alloc (Row.alloc (by with_reducible assumption) _) _⟩) | (with_reducible refine Row.other ?_ (by first | omega | (simp; done) | (simp; omega)) _)))
        have c_x_0_2 := R_x_2.cell 0 rfl
        have c_x_1_2 := R_x_2.cell 1 rfl
        have c_x_2_2 := R_x_2.cell 2 rfl
        have z_x_0_2 := R_x_2.frozen 0
        have z_x_1_2 := R_x_2.frozen 1
        have z_x_2_2 := R_x_2.frozen 2
        have l_x_2 := R_x_2.lt
        have HB2 : Below w.heap.size w w2 := by (repeat' (first | (with_reducible exact Below.refl _ _) | (with_reducible assumption) | (with_reducible exact Bw.out (by with_reducible assumption)) | (with_reducible refine bw_alloc ?_ _) | (with_reducible refine bw_step ?_ (by with_reducible assumption)) | (with_reducible refine Below.alloc ?_ ?_ _) | (with_reducible refine Below.drew ?_) | (with_reducible refine below_drewN ?_ _) | (with_reducible refine Below.setCell ?_ ?_ _) | (with_reducible refine below_step ?_ (by with_reducible assumption) ?_) | (with_reducible exact Nat.le_refl _) | omega | (simp; omega) | (simp; done)))
        clear R_n_1 c_n_0_1 c_n_1_1 c_n_2_1 R_res_1 c_res_0_1 c_res_1_1 c_res_2_1 z_res_0_1 z_res_1_1 z_res_2_1 R_x_1 c_x_0_1 c_x_1_1 c_x_2_1 z_x_0_1 z_x_1_1 z_x_2_1 hb1 HB1
        go_wp2_with fail
        refine bodyPost_ret (v := .tuple #[.agg #[.int .i64 0, .int .i64 0, .slice none 0 0], .int .i64 1]) (by simp [results, Try.results25, go_sem, c_res_0_2, c_res_1_2, c_res_2_2, l_res_2]) rfl ⟨_, rfl, SlV.nil _, FromV.nil _ _, ?_⟩
        (repeat' (first | (with_reducible exact Below.refl _ _) | (with_reducible assumption) | (with_reducible exact Bw.out (by with_reducible assumption)) | (with_reducible refine bw_alloc ?_ _) | (with_reducible refine bw_step ?_ (by with_reducible assumption)) | (with_reducible refine Below.alloc ?_ ?_ _) | (with_reducible refine Below.drew ?_) | (with_reducible refine below_drewN ?_ _) | (with_reducible refine Below.setCell ?_ ?_ _) | (with_reducible refine below_step ?_ (by with_reducible assumption) ?_) | (with_reducible exact Nat.le_refl _) | omega | (simp; omega) | (simp; done)))

end Go.Proofs.Ytegkonedeledeaa
