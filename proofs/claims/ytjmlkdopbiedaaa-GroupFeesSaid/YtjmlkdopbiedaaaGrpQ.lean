/-
  The walk of group.Pick, second part: where the span's nights are the block's.
-/
import Derived.Test.YtjmlkdopbiedaaaGrpP
namespace Go.Proofs.Ytjmlkdopbiedaaa
set_option linter.unusedSimpArgs false
set_option linter.unusedVariables false
open Go.RowKit

theorem OwnI.splice {w : World} {g : Nat} {cur : List Value} {T : TypeId} {zs : List Int} (h : w.heap[g]? = some (.cells (splice cur 0 (zs.map (Value.int .i64))).toArray T (0, 0))) : OwnI w g zs :=
  ⟨cur.drop (0 + (zs.map (Value.int .i64)).length), T, by simpa [Go.splice] using h⟩

theorem Row.setAt {w : World} {b : Nat} {cs ds : List Value} (h : Row w b cs) (i : Nat) (v : Value) (hd : cs.set i v = ds) : Row (w.setCell ⟨b, i, none⟩ v) b ds := by
  obtain ⟨T, h⟩ := h
  subst hd
  exact ⟨T, by simp [World.setCell, Array.getElem?_modify, h]⟩

theorem fullB_of {L : Int} {lo hi : Nat} {zs : List Int} (h : ∀ i, lo ≤ i → i < hi → zs.getD i 0 < L) : fullB L lo hi zs = false := by
  cases hf : fullB L lo hi zs with
  | false => rfl
  | true =>
    obtain ⟨i, _, h2, h3, h4⟩ := fullB_iff.1 hf
    have := h i h2 h3
    omega
/-- What Pick returns, where the span's nights are the block's. -/
def PiPost (B : Blk) (L s0 s1 : Int) (ca : Option Addr) (cn cc pm : Nat) (w : World) (e : Ending) (w' : World) : Prop :=
  Below w.heap.size w w' ∧
  ((fullB L (ixA B s0) (ixA B s1) B.picked = true ∧ e = .returned (.tuple #[.agg #[.int .i64 0, .int .i64 0, .int .i64 0, .int .i64 0, .int .i64 0, .slice none 0 0, .int .i64 0, .int .i64 0, .int .i64 0, .slice none 0 0], .int .i64 31])) ∨
   (fullB L (ixA B s0) (ixA B s1) B.picked = false ∧ ∃ g : Nat, w.heap.size ≤ g ∧ OwnI w' g (incR (ixA B s0) (ixA B s1) B.picked) ∧
      e = .returned (.tuple #[.agg #[.int .i64 B.id, .int .i64 B.kind, .int .i64 B.rooms, .int .i64 B.fr, .int .i64 B.un, .slice ca cn cc, .int .i64 B.pn, .int .i64 B.pd, .int .i64 B.fee, .slice (some ⟨g, 0, none⟩) pm pm], .int .i64 0])))

set_option maxRecDepth 100000 in
set_option maxHeartbeats 6400000 in
theorem g_Pick_in (B : Blk) (day s0 s1 : Int) (L : Int) (ca : Option Addr) (cn cc : Nat) (pa : Option Addr) (pm pc : Nat) (w : World) (hin : BlkIn w B ca cn cc pa pm pc) (hv : blkB B = true) (hd : inR day 0 366 = true) (hs : s0 < s1) (h1 : B.fr ≤ s0) (h2 : s1 ≤ B.un) (hL : limI B day = L) :
    Calls Try.prog 15 #[.agg #[.int .i64 B.id, .int .i64 B.kind, .int .i64 B.rooms, .int .i64 B.fr, .int .i64 B.un, .slice ca cn cc, .int .i64 B.pn, .int .i64 B.pd, .int .i64 B.fee, .slice pa pm pc], .int .i64 day, .agg #[.int .i64 s0, .int .i64 s1]] w (PiPost B L s0 s1 ca cn cc pm w) := by
  have ok := blkB_ok hv
  obtain ⟨a, ha⟩ := Int.eq_ofNat_of_zero_le (show 0 ≤ s0 - B.fr by omega)
  obtain ⟨c, hc⟩ := Int.eq_ofNat_of_zero_le (show 0 ≤ s1 - B.fr by have := ok.lt; omega)
  have HXA : Hid (ixA B s0 = a) := by show _ = _; unfold ixA; omega
  have HXC : Hid (ixA B s1 = c) := by show _ = _; unfold ixA; omega
  have HLP : Hid (B.picked.length = pm) := hin.picked.1
  have hcp : c ≤ pm := by have := ok.len; rw [HLP.out] at this; omega
  have hac : a < c := by omega
  have HS0 : Hid (s0 = B.fr + a) := by show _ = _; omega
  have HS1 : Hid (s1 = B.fr + c) := by show _ = _; omega
  have o1 := ok.fr
  have o2 : B.fr ≤ 366 := by have := ok.lt; have := ok.un; omega
  have o3 : pm ≤ 366 := by have := ok.len; rw [HLP.out] at this; have := ok.un; omega
  have o4 : s1 ≤ 366 := by have := ok.un; omega
  have HIN := Lib.hid hin
  have HV := Lib.hid hv
  have HOK := Lib.hid ok
  have HL := Lib.hid hL
  have hh1 : hasB B.fr B.un s0 = true := by rw [hasB_iff]; omega
  have hh2 : hasB B.fr B.un (s1 - 1) = true := by rw [hasB_iff]; omega
  obtain ⟨i0, hi, hz0, hz1, hz2⟩ := info_parts info_int
  have HI := Lib.hid (And.intro hi (And.intro hz0 (And.intro hz1 hz2)))
  have hsz : (Try.prog.info? 3).map (·.size) = some 1 := by kernel_rfl
  clear hi hz0 hz1 hz2 hin hv ok hL ha hc
  go_enter Try.func15, Try.ntmps15
  go_wp2_with fail
  refine (g_valid_any B ca cn cc pa pm pc _ (HIN.out.below (by (repeat' (first | (with_reducible exact Below.refl _ _) | (with_reducible assumption) | (with_reducible exact Bw.out (by with_reducible assumption)) | (with_reducible refine bw_alloc ?_ _) | (with_reducible refine bw_step ?_ (by with_reducible assumption)) | (with_reducible refine Below.alloc ?_ ?_ _) | (with_reducible refine Below.drew ?_) | (with_reducible refine below_drewN ?_ _) | (with_reducible refine Below.setCell ?_ ?_ _) | (with_reducible refine below_step ?_ (by with_reducible assumption) ?_) | (with_reducible exact Nat.le_refl _) | omega | (simp; omega) | (simp; done))))) true HV.out).mono ?_
  rintro e w1 ⟨rfl, hb1⟩
  have R_b_1 : Row w1 (w.heap.size) [.int .i64 B.id, .int .i64 B.kind, .int .i64 B.rooms, .int .i64 B.fr, .int .i64 B.un, .slice ca cn cc, .int .i64 B.pn, .int .i64 B.pd, .int .i64 B.fee, .slice pa pm pc] := by (repeat' (first | (with_reducible assumption) | (with_reducible refine Row.new' _ _ _ (by first | rfl | (simp; done) | omega)) | (with_reducible refine Row.alloc ?_ _) | (with_reducible refine Row.drew ?_) | (with_reducible refine Row.drewN ?_ _) | (with_reducible refine Row.step ?_ (by with_reducible assumption)) | (with_reducible refine Row.set2' ?_ _ _; first | exact ⟨_, _, by with_reducible assumption⟩ | exact ⟨_, _, Row.alloc (by with_reducible assumption) _⟩ | exact ⟨_, _, Row.alloc (Row.alloc (by with_reducible assumption) _) _⟩) | (with_reducible refine Row.other ?_ (by first | omega | (simp; done) | (simp; omega)) _)))
  have c_b_0_1 := R_b_1.cell 0 rfl
  have c_b_1_1 := R_b_1.cell 1 rfl
  have c_b_2_1 := R_b_1.cell 2 rfl
  have c_b_3_1 := R_b_1.cell 3 rfl
  have c_b_4_1 := R_b_1.cell 4 rfl
  have c_b_5_1 := R_b_1.cell 5 rfl
  have c_b_6_1 := R_b_1.cell 6 rfl
  have c_b_7_1 := R_b_1.cell 7 rfl
  have c_b_8_1 := R_b_1.cell 8 rfl
  have c_b_9_1 := R_b_1.cell 9 rfl
  have z_b_0_1 := R_b_1.frozen 0
  have z_b_1_1 := R_b_1.frozen 1
  have z_b_2_1 := R_b_1.frozen 2
  have z_b_3_1 := R_b_1.frozen 3
  have z_b_4_1 := R_b_1.frozen 4
  have z_b_5_1 := R_b_1.frozen 5
  have z_b_6_1 := R_b_1.frozen 6
  have z_b_7_1 := R_b_1.frozen 7
  have z_b_8_1 := R_b_1.frozen 8
  have z_b_9_1 := R_b_1.frozen 9
  have l_b_1 := R_b_1.lt
  have R_s_1 : Row w1 (w.heap.size + 1) [.int .i64 (s0), .int .i64 (s1)] := by (repeat' (first | (with_reducible assumption) | (with_reducible refine Row.new' _ _ _ (by first | rfl | (simp; done) | omega)) | (with_reducible refine Row.alloc ?_ _) | (with_reducible refine Row.drew ?_) | (with_reducible refine Row.drewN ?_ _) | (with_reducible refine Row.step ?_ (by with_reducible assumption)) | (with_reducible refine Row.set2' ?_ _ _; first | exact ⟨_, _, by with_reducible assumption⟩ | exact ⟨_, _, Row.alloc (by with_reducible assumption) _⟩ | exact ⟨_, _, Row.alloc (Row.alloc (by with_reducible assumption) _) _⟩) | (with_reducible refine Row.other ?_ (by first | omega | (simp; done) | (simp; omega)) _)))
  have c_s_0_1 := R_s_1.cell 0 rfl
  have c_s_1_1 := R_s_1.cell 1 rfl
  have l_s_1 := R_s_1.lt
  have R_r_1 : Row w1 (w.heap.size + 2) [.int .i64 (0), .int .i64 (0), .int .i64 (0), .int .i64 (0), .int .i64 (0), .slice none 0 0, .int .i64 (0), .int .i64 (0), .int .i64 (0), .slice none 0 0] := by (repeat' (first | (with_reducible assumption) | (with_reducible refine Row.new' _ _ _ (by first | rfl | (simp; done) | omega)) | (with_reducible refine Row.alloc ?_ _) | (with_reducible refine Row.drew ?_) | (with_reducible refine Row.drewN ?_ _) | (with_reducible refine Row.step ?_ (by with_reducible assumption)) | (with_reducible refine Row.set2' ?_ _ _; first | exact ⟨_, _, by with_reducible assumption⟩ | exact ⟨_, _, Row.alloc (by with_reducible assumption) _⟩ | exact ⟨_, _, Row.alloc (Row.alloc (by with_reducible assumption) _) _⟩) | (with_reducible refine Row.other ?_ (by first | omega | (simp; done) | (simp; omega)) _)))
  have c_r_0_1 := R_r_1.cell 0 rfl
  have c_r_1_1 := R_r_1.cell 1 rfl
  have c_r_2_1 := R_r_1.cell 2 rfl
  have c_r_3_1 := R_r_1.cell 3 rfl
  have c_r_4_1 := R_r_1.cell 4 rfl
  have c_r_5_1 := R_r_1.cell 5 rfl
  have c_r_6_1 := R_r_1.cell 6 rfl
  have c_r_7_1 := R_r_1.cell 7 rfl
  have c_r_8_1 := R_r_1.cell 8 rfl
  have c_r_9_1 := R_r_1.cell 9 rfl
  have z_r_0_1 := R_r_1.frozen 0
  have z_r_1_1 := R_r_1.frozen 1
  have z_r_2_1 := R_r_1.frozen 2
  have z_r_3_1 := R_r_1.frozen 3
  have z_r_4_1 := R_r_1.frozen 4
  have z_r_5_1 := R_r_1.frozen 5
  have z_r_6_1 := R_r_1.frozen 6
  have z_r_7_1 := R_r_1.frozen 7
  have z_r_8_1 := R_r_1.frozen 8
  have z_r_9_1 := R_r_1.frozen 9
  have l_r_1 := R_r_1.lt
  have R_c_1 : Row w1 (w.heap.size + 3) [.int .i64 B.id, .int .i64 B.kind, .int .i64 B.rooms, .int .i64 B.fr, .int .i64 B.un, .slice ca cn cc, .int .i64 B.pn, .int .i64 B.pd, .int .i64 B.fee, .slice pa pm pc] := by (repeat' (first | (with_reducible assumption) | (with_reducible refine Row.new' _ _ _ (by first | rfl | (simp; done) | omega)) | (with_reducible refine Row.alloc ?_ _) | (with_reducible refine Row.drew ?_) | (with_reducible refine Row.drewN ?_ _) | (with_reducible refine Row.step ?_ (by with_reducible assumption)) | (with_reducible refine Row.set2' ?_ _ _; first | exact ⟨_, _, by with_reducible assumption⟩ | exact ⟨_, _, Row.alloc (by with_reducible assumption) _⟩ | exact ⟨_, _, Row.alloc (Row.alloc (by with_reducible assumption) _) _⟩) | (with_reducible refine Row.other ?_ (by first | omega | (simp; done) | (simp; omega)) _)))
  have c_c_0_1 := R_c_1.cell 0 rfl
  have c_c_1_1 := R_c_1.cell 1 rfl
  have c_c_2_1 := R_c_1.cell 2 rfl
  have c_c_3_1 := R_c_1.cell 3 rfl
  have c_c_4_1 := R_c_1.cell 4 rfl
  have c_c_5_1 := R_c_1.cell 5 rfl
  have c_c_6_1 := R_c_1.cell 6 rfl
  have c_c_7_1 := R_c_1.cell 7 rfl
  have c_c_8_1 := R_c_1.cell 8 rfl
  have c_c_9_1 := R_c_1.cell 9 rfl
  have l_c_1 := R_c_1.lt
  have HB1 : Below w.heap.size w w1 := by (repeat' (first | (with_reducible exact Below.refl _ _) | (with_reducible assumption) | (with_reducible exact Bw.out (by with_reducible assumption)) | (with_reducible refine bw_alloc ?_ _) | (with_reducible refine bw_step ?_ (by with_reducible assumption)) | (with_reducible refine Below.alloc ?_ ?_ _) | (with_reducible refine Below.drew ?_) | (with_reducible refine below_drewN ?_ _) | (with_reducible refine Below.setCell ?_ ?_ _) | (with_reducible refine below_step ?_ (by with_reducible assumption) ?_) | (with_reducible exact Nat.le_refl _) | omega | (simp; omega) | (simp; done)))
  go_wp2_with fail
  refine (g_isDay day _).mono ?_
  rintro e w' ⟨rfl, rfl⟩
  rw [hd]
  go_wp2_with fail
  refine (g_has B s0 ca cn cc pa pm pc _ true hh1).mono ?_
  rintro e w2 ⟨rfl, hb2⟩
  have R_b_2 : Row w2 (w.heap.size) [.int .i64 B.id, .int .i64 B.kind, .int .i64 B.rooms, .int .i64 B.fr, .int .i64 B.un, .slice ca cn cc, .int .i64 B.pn, .int .i64 B.pd, .int .i64 B.fee, .slice pa pm pc] := by (repeat' (first | (with_reducible assumption) | (with_reducible refine Row.new' _ _ _ (by first | rfl | (simp; done) | omega)) | (with_reducible refine Row.alloc ?_ _) | (with_reducible refine Row.drew ?_) | (with_reducible refine Row.drewN ?_ _) | (with_reducible refine Row.step ?_ (by with_reducible assumption)) | (with_reducible refine Row.set2' ?_ _ _; first | exact ⟨_, _, by with_reducible assumption⟩ | exact ⟨_, _, Row.alloc (by with_reducible assumption) _⟩ | exact ⟨_, _, Row.alloc (Row.alloc (by with_reducible assumption) _) _⟩) | (with_reducible refine Row.other ?_ (by first | omega | (simp; done) | (simp; omega)) _)))
  have c_b_0_2 := R_b_2.cell 0 rfl
  have c_b_1_2 := R_b_2.cell 1 rfl
  have c_b_2_2 := R_b_2.cell 2 rfl
  have c_b_3_2 := R_b_2.cell 3 rfl
  have c_b_4_2 := R_b_2.cell 4 rfl
  have c_b_5_2 := R_b_2.cell 5 rfl
  have c_b_6_2 := R_b_2.cell 6 rfl
  have c_b_7_2 := R_b_2.cell 7 rfl
  have c_b_8_2 := R_b_2.cell 8 rfl
  have c_b_9_2 := R_b_2.cell 9 rfl
  have z_b_0_2 := R_b_2.frozen 0
  have z_b_1_2 := R_b_2.frozen 1
  have z_b_2_2 := R_b_2.frozen 2
  have z_b_3_2 := R_b_2.frozen 3
  have z_b_4_2 := R_b_2.frozen 4
  have z_b_5_2 := R_b_2.frozen 5
  have z_b_6_2 := R_b_2.frozen 6
  have z_b_7_2 := R_b_2.frozen 7
  have z_b_8_2 := R_b_2.frozen 8
  have z_b_9_2 := R_b_2.frozen 9
  have l_b_2 := R_b_2.lt
  have R_s_2 : Row w2 (w.heap.size + 1) [.int .i64 (s0), .int .i64 (s1)] := by (repeat' (first | (with_reducible assumption) | (with_reducible refine Row.new' _ _ _ (by first | rfl | (simp; done) | omega)) | (with_reducible refine Row.alloc ?_ _) | (with_reducible refine Row.drew ?_) | (with_reducible refine Row.drewN ?_ _) | (with_reducible refine Row.step ?_ (by with_reducible assumption)) | (with_reducible refine Row.set2' ?_ _ _; first | exact ⟨_, _, by with_reducible assumption⟩ | exact ⟨_, _, Row.alloc (by with_reducible assumption) _⟩ | exact ⟨_, _, Row.alloc (Row.alloc (by with_reducible assumption) _) _⟩) | (with_reducible refine Row.other ?_ (by first | omega | (simp; done) | (simp; omega)) _)))
  have c_s_0_2 := R_s_2.cell 0 rfl
  have c_s_1_2 := R_s_2.cell 1 rfl
  have l_s_2 := R_s_2.lt
  have R_r_2 : Row w2 (w.heap.size + 2) [.int .i64 (0), .int .i64 (0), .int .i64 (0), .int .i64 (0), .int .i64 (0), .slice none 0 0, .int .i64 (0), .int .i64 (0), .int .i64 (0), .slice none 0 0] := by (repeat' (first | (with_reducible assumption) | (with_reducible refine Row.new' _ _ _ (by first | rfl | (simp; done) | omega)) | (with_reducible refine Row.alloc ?_ _) | (with_reducible refine Row.drew ?_) | (with_reducible refine Row.drewN ?_ _) | (with_reducible refine Row.step ?_ (by with_reducible assumption)) | (with_reducible refine Row.set2' ?_ _ _; first | exact ⟨_, _, by with_reducible assumption⟩ | exact ⟨_, _, Row.alloc (by with_reducible assumption) _⟩ | exact ⟨_, _, Row.alloc (Row.alloc (by with_reducible assumption) _) _⟩) | (with_reducible refine Row.other ?_ (by first | omega | (simp; done) | (simp; omega)) _)))
  have c_r_0_2 := R_r_2.cell 0 rfl
  have c_r_1_2 := R_r_2.cell 1 rfl
  have c_r_2_2 := R_r_2.cell 2 rfl
  have c_r_3_2 := R_r_2.cell 3 rfl
  have c_r_4_2 := R_r_2.cell 4 rfl
  have c_r_5_2 := R_r_2.cell 5 rfl
  have c_r_6_2 := R_r_2.cell 6 rfl
  have c_r_7_2 := R_r_2.cell 7 rfl
  have c_r_8_2 := R_r_2.cell 8 rfl
  have c_r_9_2 := R_r_2.cell 9 rfl
  have z_r_0_2 := R_r_2.frozen 0
  have z_r_1_2 := R_r_2.frozen 1
  have z_r_2_2 := R_r_2.frozen 2
  have z_r_3_2 := R_r_2.frozen 3
  have z_r_4_2 := R_r_2.frozen 4
  have z_r_5_2 := R_r_2.frozen 5
  have z_r_6_2 := R_r_2.frozen 6
  have z_r_7_2 := R_r_2.frozen 7
  have z_r_8_2 := R_r_2.frozen 8
  have z_r_9_2 := R_r_2.frozen 9
  have l_r_2 := R_r_2.lt
  have R_c_2 : Row w2 (w.heap.size + 3) [.int .i64 B.id, .int .i64 B.kind, .int .i64 B.rooms, .int .i64 B.fr, .int .i64 B.un, .slice ca cn cc, .int .i64 B.pn, .int .i64 B.pd, .int .i64 B.fee, .slice pa pm pc] := by (repeat' (first | (with_reducible assumption) | (with_reducible refine Row.new' _ _ _ (by first | rfl | (simp; done) | omega)) | (with_reducible refine Row.alloc ?_ _) | (with_reducible refine Row.drew ?_) | (with_reducible refine Row.drewN ?_ _) | (with_reducible refine Row.step ?_ (by with_reducible assumption)) | (with_reducible refine Row.set2' ?_ _ _; first | exact ⟨_, _, by with_reducible assumption⟩ | exact ⟨_, _, Row.alloc (by with_reducible assumption) _⟩ | exact ⟨_, _, Row.alloc (Row.alloc (by with_reducible assumption) _) _⟩) | (with_reducible refine Row.other ?_ (by first | omega | (simp; done) | (simp; omega)) _)))
  have c_c_0_2 := R_c_2.cell 0 rfl
  have c_c_1_2 := R_c_2.cell 1 rfl
  have c_c_2_2 := R_c_2.cell 2 rfl
  have c_c_3_2 := R_c_2.cell 3 rfl
  have c_c_4_2 := R_c_2.cell 4 rfl
  have c_c_5_2 := R_c_2.cell 5 rfl
  have c_c_6_2 := R_c_2.cell 6 rfl
  have c_c_7_2 := R_c_2.cell 7 rfl
  have c_c_8_2 := R_c_2.cell 8 rfl
  have c_c_9_2 := R_c_2.cell 9 rfl
  have l_c_2 := R_c_2.lt
  have HB2 : Below w.heap.size w w2 := by (repeat' (first | (with_reducible exact Below.refl _ _) | (with_reducible assumption) | (with_reducible exact Bw.out (by with_reducible assumption)) | (with_reducible refine bw_alloc ?_ _) | (with_reducible refine bw_step ?_ (by with_reducible assumption)) | (with_reducible refine Below.alloc ?_ ?_ _) | (with_reducible refine Below.drew ?_) | (with_reducible refine below_drewN ?_ _) | (with_reducible refine Below.setCell ?_ ?_ _) | (with_reducible refine below_step ?_ (by with_reducible assumption) ?_) | (with_reducible exact Nat.le_refl _) | omega | (simp; omega) | (simp; done)))
  clear R_b_1 c_b_0_1 c_b_1_1 c_b_2_1 c_b_3_1 c_b_4_1 c_b_5_1 c_b_6_1 c_b_7_1 c_b_8_1 c_b_9_1 z_b_0_1 z_b_1_1 z_b_2_1 z_b_3_1 z_b_4_1 z_b_5_1 z_b_6_1 z_b_7_1 z_b_8_1 z_b_9_1 R_s_1 c_s_0_1 c_s_1_1 R_r_1 c_r_0_1 c_r_1_1 c_r_2_1 c_r_3_1 c_r_4_1 c_r_5_1 c_r_6_1 c_r_7_1 c_r_8_1 c_r_9_1 z_r_0_1 z_r_1_1 z_r_2_1 z_r_3_1 z_r_4_1 z_r_5_1 z_r_6_1 z_r_7_1 z_r_8_1 z_r_9_1 R_c_1 c_c_0_1 c_c_1_1 c_c_2_1 c_c_3_1 c_c_4_1 c_c_5_1 c_c_6_1 c_c_7_1 c_c_8_1 c_c_9_1 hb1 HB1
  go_wp2_with fail
  refine (g_has B (s1 - 1) ca cn cc pa pm pc _ true hh2).mono ?_
  rintro e w3 ⟨rfl, hb3⟩
  have R_b_3 : Row w3 (w.heap.size) [.int .i64 B.id, .int .i64 B.kind, .int .i64 B.rooms, .int .i64 B.fr, .int .i64 B.un, .slice ca cn cc, .int .i64 B.pn, .int .i64 B.pd, .int .i64 B.fee, .slice pa pm pc] := by (repeat' (first | (with_reducible assumption) | (with_reducible refine Row.new' _ _ _ (by first | rfl | (simp; done) | omega)) | (with_reducible refine Row.alloc ?_ _) | (with_reducible refine Row.drew ?_) | (with_reducible refine Row.drewN ?_ _) | (with_reducible refine Row.step ?_ (by with_reducible assumption)) | (with_reducible refine Row.set2' ?_ _ _; first | exact ⟨_, _, by with_reducible assumption⟩ | exact ⟨_, _, Row.alloc (by with_reducible assumption) _⟩ | exact ⟨_, _, Row.alloc (Row.alloc (by with_reducible assumption) _) _⟩) | (with_reducible refine Row.other ?_ (by first | omega | (simp; done) | (simp; omega)) _)))
  have c_b_0_3 := R_b_3.cell 0 rfl
  have c_b_1_3 := R_b_3.cell 1 rfl
  have c_b_2_3 := R_b_3.cell 2 rfl
  have c_b_3_3 := R_b_3.cell 3 rfl
  have c_b_4_3 := R_b_3.cell 4 rfl
  have c_b_5_3 := R_b_3.cell 5 rfl
  have c_b_6_3 := R_b_3.cell 6 rfl
  have c_b_7_3 := R_b_3.cell 7 rfl
  have c_b_8_3 := R_b_3.cell 8 rfl
  have c_b_9_3 := R_b_3.cell 9 rfl
  have z_b_0_3 := R_b_3.frozen 0
  have z_b_1_3 := R_b_3.frozen 1
  have z_b_2_3 := R_b_3.frozen 2
  have z_b_3_3 := R_b_3.frozen 3
  have z_b_4_3 := R_b_3.frozen 4
  have z_b_5_3 := R_b_3.frozen 5
  have z_b_6_3 := R_b_3.frozen 6
  have z_b_7_3 := R_b_3.frozen 7
  have z_b_8_3 := R_b_3.frozen 8
  have z_b_9_3 := R_b_3.frozen 9
  have l_b_3 := R_b_3.lt
  have R_s_3 : Row w3 (w.heap.size + 1) [.int .i64 (s0), .int .i64 (s1)] := by (repeat' (first | (with_reducible assumption) | (with_reducible refine Row.new' _ _ _ (by first | rfl | (simp; done) | omega)) | (with_reducible refine Row.alloc ?_ _) | (with_reducible refine Row.drew ?_) | (with_reducible refine Row.drewN ?_ _) | (with_reducible refine Row.step ?_ (by with_reducible assumption)) | (with_reducible refine Row.set2' ?_ _ _; first | exact ⟨_, _, by with_reducible assumption⟩ | exact ⟨_, _, Row.alloc (by with_reducible assumption) _⟩ | exact ⟨_, _, Row.alloc (Row.alloc (by with_reducible assumption) _) _⟩) | (with_reducible refine Row.other ?_ (by first | omega | (simp; done) | (simp; omega)) _)))
  have c_s_0_3 := R_s_3.cell 0 rfl
  have c_s_1_3 := R_s_3.cell 1 rfl
  have l_s_3 := R_s_3.lt
  have R_r_3 : Row w3 (w.heap.size + 2) [.int .i64 (0), .int .i64 (0), .int .i64 (0), .int .i64 (0), .int .i64 (0), .slice none 0 0, .int .i64 (0), .int .i64 (0), .int .i64 (0), .slice none 0 0] := by (repeat' (first | (with_reducible assumption) | (with_reducible refine Row.new' _ _ _ (by first | rfl | (simp; done) | omega)) | (with_reducible refine Row.alloc ?_ _) | (with_reducible refine Row.drew ?_) | (with_reducible refine Row.drewN ?_ _) | (with_reducible refine Row.step ?_ (by with_reducible assumption)) | (with_reducible refine Row.set2' ?_ _ _; first | exact ⟨_, _, by with_reducible assumption⟩ | exact ⟨_, _, Row.alloc (by with_reducible assumption) _⟩ | exact ⟨_, _, Row.alloc (Row.alloc (by with_reducible assumption) _) _⟩) | (with_reducible refine Row.other ?_ (by first | omega | (simp; done) | (simp; omega)) _)))
  have c_r_0_3 := R_r_3.cell 0 rfl
  have c_r_1_3 := R_r_3.cell 1 rfl
  have c_r_2_3 := R_r_3.cell 2 rfl
  have c_r_3_3 := R_r_3.cell 3 rfl
  have c_r_4_3 := R_r_3.cell 4 rfl
  have c_r_5_3 := R_r_3.cell 5 rfl
  have c_r_6_3 := R_r_3.cell 6 rfl
  have c_r_7_3 := R_r_3.cell 7 rfl
  have c_r_8_3 := R_r_3.cell 8 rfl
  have c_r_9_3 := R_r_3.cell 9 rfl
  have z_r_0_3 := R_r_3.frozen 0
  have z_r_1_3 := R_r_3.frozen 1
  have z_r_2_3 := R_r_3.frozen 2
  have z_r_3_3 := R_r_3.frozen 3
  have z_r_4_3 := R_r_3.frozen 4
  have z_r_5_3 := R_r_3.frozen 5
  have z_r_6_3 := R_r_3.frozen 6
  have z_r_7_3 := R_r_3.frozen 7
  have z_r_8_3 := R_r_3.frozen 8
  have z_r_9_3 := R_r_3.frozen 9
  have l_r_3 := R_r_3.lt
  have R_c_3 : Row w3 (w.heap.size + 3) [.int .i64 B.id, .int .i64 B.kind, .int .i64 B.rooms, .int .i64 B.fr, .int .i64 B.un, .slice ca cn cc, .int .i64 B.pn, .int .i64 B.pd, .int .i64 B.fee, .slice pa pm pc] := by (repeat' (first | (with_reducible assumption) | (with_reducible refine Row.new' _ _ _ (by first | rfl | (simp; done) | omega)) | (with_reducible refine Row.alloc ?_ _) | (with_reducible refine Row.drew ?_) | (with_reducible refine Row.drewN ?_ _) | (with_reducible refine Row.step ?_ (by with_reducible assumption)) | (with_reducible refine Row.set2' ?_ _ _; first | exact ⟨_, _, by with_reducible assumption⟩ | exact ⟨_, _, Row.alloc (by with_reducible assumption) _⟩ | exact ⟨_, _, Row.alloc (Row.alloc (by with_reducible assumption) _) _⟩) | (with_reducible refine Row.other ?_ (by first | omega | (simp; done) | (simp; omega)) _)))
  have c_c_0_3 := R_c_3.cell 0 rfl
  have c_c_1_3 := R_c_3.cell 1 rfl
  have c_c_2_3 := R_c_3.cell 2 rfl
  have c_c_3_3 := R_c_3.cell 3 rfl
  have c_c_4_3 := R_c_3.cell 4 rfl
  have c_c_5_3 := R_c_3.cell 5 rfl
  have c_c_6_3 := R_c_3.cell 6 rfl
  have c_c_7_3 := R_c_3.cell 7 rfl
  have c_c_8_3 := R_c_3.cell 8 rfl
  have c_c_9_3 := R_c_3.cell 9 rfl
  have l_c_3 := R_c_3.lt
  have HB3 : Below w.heap.size w w3 := by (repeat' (first | (with_reducible exact Below.refl _ _) | (with_reducible assumption) | (with_reducible exact Bw.out (by with_reducible assumption)) | (with_reducible refine bw_alloc ?_ _) | (with_reducible refine bw_step ?_ (by with_reducible assumption)) | (with_reducible refine Below.alloc ?_ ?_ _) | (with_reducible refine Below.drew ?_) | (with_reducible refine below_drewN ?_ _) | (with_reducible refine Below.setCell ?_ ?_ _) | (with_reducible refine below_step ?_ (by with_reducible assumption) ?_) | (with_reducible exact Nat.le_refl _) | omega | (simp; omega) | (simp; done)))
  clear R_b_2 c_b_0_2 c_b_1_2 c_b_2_2 c_b_3_2 c_b_4_2 c_b_5_2 c_b_6_2 c_b_7_2 c_b_8_2 c_b_9_2 z_b_0_2 z_b_1_2 z_b_2_2 z_b_3_2 z_b_4_2 z_b_5_2 z_b_6_2 z_b_7_2 z_b_8_2 z_b_9_2 R_s_2 c_s_0_2 c_s_1_2 R_r_2 c_r_0_2 c_r_1_2 c_r_2_2 c_r_3_2 c_r_4_2 c_r_5_2 c_r_6_2 c_r_7_2 c_r_8_2 c_r_9_2 z_r_0_2 z_r_1_2 z_r_2_2 z_r_3_2 z_r_4_2 z_r_5_2 z_r_6_2 z_r_7_2 z_r_8_2 z_r_9_2 R_c_2 c_c_0_2 c_c_1_2 c_c_2_2 c_c_3_2 c_c_4_2 c_c_5_2 c_c_6_2 c_c_7_2 c_c_8_2 c_c_9_2 hb2 HB2
  go_upto_region 7 with (refine wpList_make_full _ rfl _ _ 27 rfl w.heap.size 3 i0 (.int .i64 0) 1 Try.underlying27 HI.out.1 HI.out.2.1 HI.out.2.2.1 .i64 .i64 (pm : Int) (pm : Int) pm rfl rfl rfl rfl (by rw [HI.out.2.2.2]; omega) (by unfold maxLen; omega) (by have := HB3.size; omega) ?_; intro w4 hown4 hgrow4)
  have hb4 : Below w3.heap.size w3 w4 := (Below.refl _ _).grown hgrow4 (Nat.le_refl _) (fun k e => by cases e)
  obtain ⟨G, hG⟩ : ∃ G, w3.heap.size = G := ⟨_, rfl⟩
  have hGw : w.heap.size + 3 < G := by omega
  have R_b_4 : Row w4 (w.heap.size) [.int .i64 B.id, .int .i64 B.kind, .int .i64 B.rooms, .int .i64 B.fr, .int .i64 B.un, .slice ca cn cc, .int .i64 B.pn, .int .i64 B.pd, .int .i64 B.fee, .slice pa pm pc] := by (repeat' (first | (with_reducible assumption) | (with_reducible refine Row.new' _ _ _ (by first | rfl | (simp; done) | omega)) | (with_reducible refine Row.alloc ?_ _) | (with_reducible refine Row.drew ?_) | (with_reducible refine Row.drewN ?_ _) | (with_reducible refine Row.step ?_ (by with_reducible assumption)) | (with_reducible refine Row.set2' ?_ _ _; first | exact ⟨_, _, by with_reducible assumption⟩ | exact ⟨_, _, Row.alloc (by with_reducible assumption) _⟩ | exact ⟨_, _, Row.alloc (Row.alloc (by with_reducible assumption) _) _⟩) | (with_reducible refine Row.other ?_ (by first | omega | (simp; done) | (simp; omega)) _)))
  have c_b_0_4 := R_b_4.cell 0 rfl
  have c_b_1_4 := R_b_4.cell 1 rfl
  have c_b_2_4 := R_b_4.cell 2 rfl
  have c_b_3_4 := R_b_4.cell 3 rfl
  have c_b_4_4 := R_b_4.cell 4 rfl
  have c_b_5_4 := R_b_4.cell 5 rfl
  have c_b_6_4 := R_b_4.cell 6 rfl
  have c_b_7_4 := R_b_4.cell 7 rfl
  have c_b_8_4 := R_b_4.cell 8 rfl
  have c_b_9_4 := R_b_4.cell 9 rfl
  have z_b_0_4 := R_b_4.frozen 0
  have z_b_1_4 := R_b_4.frozen 1
  have z_b_2_4 := R_b_4.frozen 2
  have z_b_3_4 := R_b_4.frozen 3
  have z_b_4_4 := R_b_4.frozen 4
  have z_b_5_4 := R_b_4.frozen 5
  have z_b_6_4 := R_b_4.frozen 6
  have z_b_7_4 := R_b_4.frozen 7
  have z_b_8_4 := R_b_4.frozen 8
  have z_b_9_4 := R_b_4.frozen 9
  have l_b_4 := R_b_4.lt
  have R_s_4 : Row w4 (w.heap.size + 1) [.int .i64 (s0), .int .i64 (s1)] := by (repeat' (first | (with_reducible assumption) | (with_reducible refine Row.new' _ _ _ (by first | rfl | (simp; done) | omega)) | (with_reducible refine Row.alloc ?_ _) | (with_reducible refine Row.drew ?_) | (with_reducible refine Row.drewN ?_ _) | (with_reducible refine Row.step ?_ (by with_reducible assumption)) | (with_reducible refine Row.set2' ?_ _ _; first | exact ⟨_, _, by with_reducible assumption⟩ | exact ⟨_, _, Row.alloc (by with_reducible assumption) _⟩ | exact ⟨_, _, Row.alloc (Row.alloc (by with_reducible assumption) _) _⟩) | (with_reducible refine Row.other ?_ (by first | omega | (simp; done) | (simp; omega)) _)))
  have c_s_0_4 := R_s_4.cell 0 rfl
  have c_s_1_4 := R_s_4.cell 1 rfl
  have l_s_4 := R_s_4.lt
  have R_r_4 : Row w4 (w.heap.size + 2) [.int .i64 (0), .int .i64 (0), .int .i64 (0), .int .i64 (0), .int .i64 (0), .slice none 0 0, .int .i64 (0), .int .i64 (0), .int .i64 (0), .slice none 0 0] := by (repeat' (first | (with_reducible assumption) | (with_reducible refine Row.new' _ _ _ (by first | rfl | (simp; done) | omega)) | (with_reducible refine Row.alloc ?_ _) | (with_reducible refine Row.drew ?_) | (with_reducible refine Row.drewN ?_ _) | (with_reducible refine Row.step ?_ (by with_reducible assumption)) | (with_reducible refine Row.set2' ?_ _ _; first | exact ⟨_, _, by with_reducible assumption⟩ | exact ⟨_, _, Row.alloc (by with_reducible assumption) _⟩ | exact ⟨_, _, Row.alloc (Row.alloc (by with_reducible assumption) _) _⟩) | (with_reducible refine Row.other ?_ (by first | omega | (simp; done) | (simp; omega)) _)))
  have c_r_0_4 := R_r_4.cell 0 rfl
  have c_r_1_4 := R_r_4.cell 1 rfl
  have c_r_2_4 := R_r_4.cell 2 rfl
  have c_r_3_4 := R_r_4.cell 3 rfl
  have c_r_4_4 := R_r_4.cell 4 rfl
  have c_r_5_4 := R_r_4.cell 5 rfl
  have c_r_6_4 := R_r_4.cell 6 rfl
  have c_r_7_4 := R_r_4.cell 7 rfl
  have c_r_8_4 := R_r_4.cell 8 rfl
  have c_r_9_4 := R_r_4.cell 9 rfl
  have z_r_0_4 := R_r_4.frozen 0
  have z_r_1_4 := R_r_4.frozen 1
  have z_r_2_4 := R_r_4.frozen 2
  have z_r_3_4 := R_r_4.frozen 3
  have z_r_4_4 := R_r_4.frozen 4
  have z_r_5_4 := R_r_4.frozen 5
  have z_r_6_4 := R_r_4.frozen 6
  have z_r_7_4 := R_r_4.frozen 7
  have z_r_8_4 := R_r_4.frozen 8
  have z_r_9_4 := R_r_4.frozen 9
  have l_r_4 := R_r_4.lt
  have R_c_4 : Row w4 (w.heap.size + 3) [.int .i64 B.id, .int .i64 B.kind, .int .i64 B.rooms, .int .i64 B.fr, .int .i64 B.un, .slice ca cn cc, .int .i64 B.pn, .int .i64 B.pd, .int .i64 B.fee, .slice pa pm pc] := by (repeat' (first | (with_reducible assumption) | (with_reducible refine Row.new' _ _ _ (by first | rfl | (simp; done) | omega)) | (with_reducible refine Row.alloc ?_ _) | (with_reducible refine Row.drew ?_) | (with_reducible refine Row.drewN ?_ _) | (with_reducible refine Row.step ?_ (by with_reducible assumption)) | (with_reducible refine Row.set2' ?_ _ _; first | exact ⟨_, _, by with_reducible assumption⟩ | exact ⟨_, _, Row.alloc (by with_reducible assumption) _⟩ | exact ⟨_, _, Row.alloc (Row.alloc (by with_reducible assumption) _) _⟩) | (with_reducible refine Row.other ?_ (by first | omega | (simp; done) | (simp; omega)) _)))
  have c_c_0_4 := R_c_4.cell 0 rfl
  have c_c_1_4 := R_c_4.cell 1 rfl
  have c_c_2_4 := R_c_4.cell 2 rfl
  have c_c_3_4 := R_c_4.cell 3 rfl
  have c_c_4_4 := R_c_4.cell 4 rfl
  have c_c_5_4 := R_c_4.cell 5 rfl
  have c_c_6_4 := R_c_4.cell 6 rfl
  have c_c_7_4 := R_c_4.cell 7 rfl
  have c_c_8_4 := R_c_4.cell 8 rfl
  have c_c_9_4 := R_c_4.cell 9 rfl
  have l_c_4 := R_c_4.lt
  have HB4 : Below w.heap.size w w4 := by (repeat' (first | (with_reducible exact Below.refl _ _) | (with_reducible assumption) | (with_reducible exact Bw.out (by with_reducible assumption)) | (with_reducible refine bw_alloc ?_ _) | (with_reducible refine bw_step ?_ (by with_reducible assumption)) | (with_reducible refine Below.alloc ?_ ?_ _) | (with_reducible refine Below.drew ?_) | (with_reducible refine below_drewN ?_ _) | (with_reducible refine Below.setCell ?_ ?_ _) | (with_reducible refine below_step ?_ (by with_reducible assumption) ?_) | (with_reducible exact Nat.le_refl _) | omega | (simp; omega) | (simp; done)))
  clear R_b_3 c_b_0_3 c_b_1_3 c_b_2_3 c_b_3_3 c_b_4_3 c_b_5_3 c_b_6_3 c_b_7_3 c_b_8_3 c_b_9_3 z_b_0_3 z_b_1_3 z_b_2_3 z_b_3_3 z_b_4_3 z_b_5_3 z_b_6_3 z_b_7_3 z_b_8_3 z_b_9_3 R_s_3 c_s_0_3 c_s_1_3 R_r_3 c_r_0_3 c_r_1_3 c_r_2_3 c_r_3_3 c_r_4_3 c_r_5_3 c_r_6_3 c_r_7_3 c_r_8_3 c_r_9_3 z_r_0_3 z_r_1_3 z_r_2_3 z_r_3_3 z_r_4_3 z_r_5_3 z_r_6_3 z_r_7_3 z_r_8_3 z_r_9_3 R_c_3 c_c_0_3 c_c_1_3 c_c_2_3 c_c_3_3 c_c_4_3 c_c_5_3 c_c_6_3 c_c_7_3 c_c_8_3 c_c_9_3 hb3 HB3
  rw [hG] at hown4 ⊢
  obtain ⟨cur, hcur, hcl⟩ : ∃ cur : Array Value, w4.heap[G]? = some (.cells cur 3 (0, 0)) ∧ pm ≤ cur.size := by
    rcases hown4.2 with ⟨e, _⟩ | ⟨g, cap, cur, e1, e2, e3, e4, e5, e6, e7⟩
    · cases e
    · simp only [Value.slice.injEq, Option.some.injEq, Addr.mk.injEq, and_true, true_and] at e1
      obtain ⟨rfl, _, rfl⟩ := e1
      exact ⟨cur, e3, by have := e6; simp at this; omega⟩
  have HCUR := Lib.hid hcur
  have KP4 := Lib.hid (HIN.out.picked.below HB4)
  clear hown4 hgrow4 hcur
  have HSRC : Hid (∃ ad, pa = some ad ∧ ∀ j v, (B.picked.map (Value.int .i64))[j]? = some v → w4.cell? (ad.add j) = some v) := by
    obtain ⟨b, off, e, _, hcell⟩ := KP4.out.at (show 0 < pm by omega)
    refine ⟨_, e, fun j v hj => ?_⟩
    have hjl : j < B.picked.length := by simpa using (List.getElem?_eq_some_iff.1 hj).1
    have h := hcell j (by rw [HLP.out] at hjl; exact hjl)
    simp [hjl] at hj
    rw [show (⟨b, off, none⟩ : Addr).add j = ⟨b, off + j, none⟩ by simp [Addr.add], h, ← hj]
    simp [List.getD, hjl]
  have HMIN : Hid ((B.picked.map (Value.int .i64)).length = Nat.min pm pm) := by show _ = _; rw [List.length_map, HLP.out]; exact (Nat.min_self _).symm
  have HFIT : Hid (0 + (B.picked.map (Value.int .i64)).length ≤ cur.toList.length) := by show _ ≤ _; rw [List.length_map, HLP.out]; simpa using hcl
  have HONE : Hid (∀ v ∈ B.picked.map (Value.int .i64), v.oneCell' = true) := by intro v hv; simp at hv; obtain ⟨z, _, rfl⟩ := hv; rfl
  have HCU2 : Hid (w4.heap[G]? = some (.cells cur.toList.toArray 3 (0, 0))) := by show _ = _; simpa using HCUR.out
  go_upto_region 8 with (refine wpList_copy_splice (o := ⟨some 53, _, _, _, _, _⟩) rfl (.tmp 50) (.tmp 52) 27 27 rfl 3 Try.underlying27 hsz (some ⟨G, 0, none⟩) pa pm pm pm pc rfl rfl G 0 cur.toList 3 HCU2.out (B.picked.map (Value.int .i64)) HMIN.out (fun _ => ⟨rfl, HSRC.out⟩) HFIT.out HONE.out G w4 (Below.refl _ _) (Nat.le_refl _) ?_; intro w5 hh5 hb5)
  have R_b_5 : Row w5 (w.heap.size) [.int .i64 B.id, .int .i64 B.kind, .int .i64 B.rooms, .int .i64 B.fr, .int .i64 B.un, .slice ca cn cc, .int .i64 B.pn, .int .i64 B.pd, .int .i64 B.fee, .slice pa pm pc] := R_b_4.below hb5 (by omega)
  have c_b_0_5 := R_b_5.cell 0 rfl
  have c_b_1_5 := R_b_5.cell 1 rfl
  have c_b_2_5 := R_b_5.cell 2 rfl
  have c_b_3_5 := R_b_5.cell 3 rfl
  have c_b_4_5 := R_b_5.cell 4 rfl
  have c_b_5_5 := R_b_5.cell 5 rfl
  have c_b_6_5 := R_b_5.cell 6 rfl
  have c_b_7_5 := R_b_5.cell 7 rfl
  have c_b_8_5 := R_b_5.cell 8 rfl
  have c_b_9_5 := R_b_5.cell 9 rfl
  have z_b_0_5 := R_b_5.frozen 0
  have z_b_1_5 := R_b_5.frozen 1
  have z_b_2_5 := R_b_5.frozen 2
  have z_b_3_5 := R_b_5.frozen 3
  have z_b_4_5 := R_b_5.frozen 4
  have z_b_5_5 := R_b_5.frozen 5
  have z_b_6_5 := R_b_5.frozen 6
  have z_b_7_5 := R_b_5.frozen 7
  have z_b_8_5 := R_b_5.frozen 8
  have z_b_9_5 := R_b_5.frozen 9
  have l_b_5 := R_b_5.lt
  have R_s_5 : Row w5 (w.heap.size + 1) [.int .i64 (s0), .int .i64 (s1)] := R_s_4.below hb5 (by omega)
  have c_s_0_5 := R_s_5.cell 0 rfl
  have c_s_1_5 := R_s_5.cell 1 rfl
  have l_s_5 := R_s_5.lt
  have R_r_5 : Row w5 (w.heap.size + 2) [.int .i64 (0), .int .i64 (0), .int .i64 (0), .int .i64 (0), .int .i64 (0), .slice none 0 0, .int .i64 (0), .int .i64 (0), .int .i64 (0), .slice none 0 0] := R_r_4.below hb5 (by omega)
  have c_r_0_5 := R_r_5.cell 0 rfl
  have c_r_1_5 := R_r_5.cell 1 rfl
  have c_r_2_5 := R_r_5.cell 2 rfl
  have c_r_3_5 := R_r_5.cell 3 rfl
  have c_r_4_5 := R_r_5.cell 4 rfl
  have c_r_5_5 := R_r_5.cell 5 rfl
  have c_r_6_5 := R_r_5.cell 6 rfl
  have c_r_7_5 := R_r_5.cell 7 rfl
  have c_r_8_5 := R_r_5.cell 8 rfl
  have c_r_9_5 := R_r_5.cell 9 rfl
  have z_r_0_5 := R_r_5.frozen 0
  have z_r_1_5 := R_r_5.frozen 1
  have z_r_2_5 := R_r_5.frozen 2
  have z_r_3_5 := R_r_5.frozen 3
  have z_r_4_5 := R_r_5.frozen 4
  have z_r_5_5 := R_r_5.frozen 5
  have z_r_6_5 := R_r_5.frozen 6
  have z_r_7_5 := R_r_5.frozen 7
  have z_r_8_5 := R_r_5.frozen 8
  have z_r_9_5 := R_r_5.frozen 9
  have l_r_5 := R_r_5.lt
  have R_c_5 : Row w5 (w.heap.size + 3) [.int .i64 B.id, .int .i64 B.kind, .int .i64 B.rooms, .int .i64 B.fr, .int .i64 B.un, .slice ca cn cc, .int .i64 B.pn, .int .i64 B.pd, .int .i64 B.fee, .slice pa pm pc] := R_c_4.below hb5 (by omega)
  have c_c_0_5 := R_c_5.cell 0 rfl
  have c_c_1_5 := R_c_5.cell 1 rfl
  have c_c_2_5 := R_c_5.cell 2 rfl
  have c_c_3_5 := R_c_5.cell 3 rfl
  have c_c_4_5 := R_c_5.cell 4 rfl
  have c_c_5_5 := R_c_5.cell 5 rfl
  have c_c_6_5 := R_c_5.cell 6 rfl
  have c_c_7_5 := R_c_5.cell 7 rfl
  have c_c_8_5 := R_c_5.cell 8 rfl
  have c_c_9_5 := R_c_5.cell 9 rfl
  have l_c_5 := R_c_5.lt
  have HB5 : Below w.heap.size w w5 := HB4.trans (hb5.mono (by omega))
  clear R_b_4 c_b_0_4 c_b_1_4 c_b_2_4 c_b_3_4 c_b_4_4 c_b_5_4 c_b_6_4 c_b_7_4 c_b_8_4 c_b_9_4 z_b_0_4 z_b_1_4 z_b_2_4 z_b_3_4 z_b_4_4 z_b_5_4 z_b_6_4 z_b_7_4 z_b_8_4 z_b_9_4 R_s_4 c_s_0_4 c_s_1_4 R_r_4 c_r_0_4 c_r_1_4 c_r_2_4 c_r_3_4 c_r_4_4 c_r_5_4 c_r_6_4 c_r_7_4 c_r_8_4 c_r_9_4 z_r_0_4 z_r_1_4 z_r_2_4 z_r_3_4 z_r_4_4 z_r_5_4 z_r_6_4 z_r_7_4 z_r_8_4 z_r_9_4 R_c_4 c_c_0_4 c_c_1_4 c_c_2_4 c_c_3_4 c_c_4_4 c_c_5_4 c_c_6_4 c_c_7_4 c_c_8_4 c_c_9_4 hb4 HB4
  have OG5 := Lib.hid (OwnI.splice hh5)
  have lG5 := (OwnI.splice hh5).lt
  clear hh5 HCUR HCU2 HSRC HMIN HFIT HONE KP4 hcl
  go_wp2_with fail
  refine (limit_c B day L ca cn cc pa pm pc _ (HIN.out.below (by (repeat' (first | (with_reducible exact Below.refl _ _) | (with_reducible assumption) | (with_reducible exact Bw.out (by with_reducible assumption)) | (with_reducible refine bw_alloc ?_ _) | (with_reducible refine bw_step ?_ (by with_reducible assumption)) | (with_reducible refine Below.alloc ?_ ?_ _) | (with_reducible refine Below.drew ?_) | (with_reducible refine below_drewN ?_ _) | (with_reducible refine Below.setCell ?_ ?_ _) | (with_reducible refine below_step ?_ (by with_reducible assumption) ?_) | (with_reducible exact Nat.le_refl _) | omega | (simp; omega) | (simp; done))))) HOK.out HL.out).mono ?_
  rintro e w6 ⟨rfl, hb6⟩
  have R_b_6 : Row w6 (w.heap.size) [.int .i64 B.id, .int .i64 B.kind, .int .i64 B.rooms, .int .i64 B.fr, .int .i64 B.un, .slice ca cn cc, .int .i64 B.pn, .int .i64 B.pd, .int .i64 B.fee, .slice pa pm pc] := by (repeat' (first | (with_reducible assumption) | (with_reducible refine Row.new' _ _ _ (by first | rfl | (simp; done) | omega)) | (with_reducible refine Row.alloc ?_ _) | (with_reducible refine Row.drew ?_) | (with_reducible refine Row.drewN ?_ _) | (with_reducible refine Row.step ?_ (by with_reducible assumption)) | (with_reducible refine Row.set2' ?_ _ _; first | exact ⟨_, _, by with_reducible assumption⟩ | exact ⟨_, _, Row.alloc (by with_reducible assumption) _⟩ | exact ⟨_, _, Row.alloc (Row.alloc (by with_reducible assumption) _) _⟩) | (with_reducible refine Row.other ?_ (by first | omega | (simp; done) | (simp; omega)) _)))
  have c_b_0_6 := R_b_6.cell 0 rfl
  have c_b_1_6 := R_b_6.cell 1 rfl
  have c_b_2_6 := R_b_6.cell 2 rfl
  have c_b_3_6 := R_b_6.cell 3 rfl
  have c_b_4_6 := R_b_6.cell 4 rfl
  have c_b_5_6 := R_b_6.cell 5 rfl
  have c_b_6_6 := R_b_6.cell 6 rfl
  have c_b_7_6 := R_b_6.cell 7 rfl
  have c_b_8_6 := R_b_6.cell 8 rfl
  have c_b_9_6 := R_b_6.cell 9 rfl
  have z_b_0_6 := R_b_6.frozen 0
  have z_b_1_6 := R_b_6.frozen 1
  have z_b_2_6 := R_b_6.frozen 2
  have z_b_3_6 := R_b_6.frozen 3
  have z_b_4_6 := R_b_6.frozen 4
  have z_b_5_6 := R_b_6.frozen 5
  have z_b_6_6 := R_b_6.frozen 6
  have z_b_7_6 := R_b_6.frozen 7
  have z_b_8_6 := R_b_6.frozen 8
  have z_b_9_6 := R_b_6.frozen 9
  have l_b_6 := R_b_6.lt
  have R_s_6 : Row w6 (w.heap.size + 1) [.int .i64 (s0), .int .i64 (s1)] := by (repeat' (first | (with_reducible assumption) | (with_reducible refine Row.new' _ _ _ (by first | rfl | (simp; done) | omega)) | (with_reducible refine Row.alloc ?_ _) | (with_reducible refine Row.drew ?_) | (with_reducible refine Row.drewN ?_ _) | (with_reducible refine Row.step ?_ (by with_reducible assumption)) | (with_reducible refine Row.set2' ?_ _ _; first | exact ⟨_, _, by with_reducible assumption⟩ | exact ⟨_, _, Row.alloc (by with_reducible assumption) _⟩ | exact ⟨_, _, Row.alloc (Row.alloc (by with_reducible assumption) _) _⟩) | (with_reducible refine Row.other ?_ (by first | omega | (simp; done) | (simp; omega)) _)))
  have c_s_0_6 := R_s_6.cell 0 rfl
  have c_s_1_6 := R_s_6.cell 1 rfl
  have l_s_6 := R_s_6.lt
  have R_r_6 : Row w6 (w.heap.size + 2) [.int .i64 (0), .int .i64 (0), .int .i64 (0), .int .i64 (0), .int .i64 (0), .slice none 0 0, .int .i64 (0), .int .i64 (0), .int .i64 (0), .slice none 0 0] := by (repeat' (first | (with_reducible assumption) | (with_reducible refine Row.new' _ _ _ (by first | rfl | (simp; done) | omega)) | (with_reducible refine Row.alloc ?_ _) | (with_reducible refine Row.drew ?_) | (with_reducible refine Row.drewN ?_ _) | (with_reducible refine Row.step ?_ (by with_reducible assumption)) | (with_reducible refine Row.set2' ?_ _ _; first | exact ⟨_, _, by with_reducible assumption⟩ | exact ⟨_, _, Row.alloc (by with_reducible assumption) _⟩ | exact ⟨_, _, Row.alloc (Row.alloc (by with_reducible assumption) _) _⟩) | (with_reducible refine Row.other ?_ (by first | omega | (simp; done) | (simp; omega)) _)))
  have c_r_0_6 := R_r_6.cell 0 rfl
  have c_r_1_6 := R_r_6.cell 1 rfl
  have c_r_2_6 := R_r_6.cell 2 rfl
  have c_r_3_6 := R_r_6.cell 3 rfl
  have c_r_4_6 := R_r_6.cell 4 rfl
  have c_r_5_6 := R_r_6.cell 5 rfl
  have c_r_6_6 := R_r_6.cell 6 rfl
  have c_r_7_6 := R_r_6.cell 7 rfl
  have c_r_8_6 := R_r_6.cell 8 rfl
  have c_r_9_6 := R_r_6.cell 9 rfl
  have z_r_0_6 := R_r_6.frozen 0
  have z_r_1_6 := R_r_6.frozen 1
  have z_r_2_6 := R_r_6.frozen 2
  have z_r_3_6 := R_r_6.frozen 3
  have z_r_4_6 := R_r_6.frozen 4
  have z_r_5_6 := R_r_6.frozen 5
  have z_r_6_6 := R_r_6.frozen 6
  have z_r_7_6 := R_r_6.frozen 7
  have z_r_8_6 := R_r_6.frozen 8
  have z_r_9_6 := R_r_6.frozen 9
  have l_r_6 := R_r_6.lt
  have R_c_6 : Row w6 (w.heap.size + 3) [.int .i64 B.id, .int .i64 B.kind, .int .i64 B.rooms, .int .i64 B.fr, .int .i64 B.un, .slice ca cn cc, .int .i64 B.pn, .int .i64 B.pd, .int .i64 B.fee, .slice pa pm pc] := by (repeat' (first | (with_reducible assumption) | (with_reducible refine Row.new' _ _ _ (by first | rfl | (simp; done) | omega)) | (with_reducible refine Row.alloc ?_ _) | (with_reducible refine Row.drew ?_) | (with_reducible refine Row.drewN ?_ _) | (with_reducible refine Row.step ?_ (by with_reducible assumption)) | (with_reducible refine Row.set2' ?_ _ _; first | exact ⟨_, _, by with_reducible assumption⟩ | exact ⟨_, _, Row.alloc (by with_reducible assumption) _⟩ | exact ⟨_, _, Row.alloc (Row.alloc (by with_reducible assumption) _) _⟩) | (with_reducible refine Row.other ?_ (by first | omega | (simp; done) | (simp; omega)) _)))
  have c_c_0_6 := R_c_6.cell 0 rfl
  have c_c_1_6 := R_c_6.cell 1 rfl
  have c_c_2_6 := R_c_6.cell 2 rfl
  have c_c_3_6 := R_c_6.cell 3 rfl
  have c_c_4_6 := R_c_6.cell 4 rfl
  have c_c_5_6 := R_c_6.cell 5 rfl
  have c_c_6_6 := R_c_6.cell 6 rfl
  have c_c_7_6 := R_c_6.cell 7 rfl
  have c_c_8_6 := R_c_6.cell 8 rfl
  have c_c_9_6 := R_c_6.cell 9 rfl
  have l_c_6 := R_c_6.lt
  have HB6 : Below w.heap.size w w6 := by (repeat' (first | (with_reducible exact Below.refl _ _) | (with_reducible assumption) | (with_reducible exact Bw.out (by with_reducible assumption)) | (with_reducible refine bw_alloc ?_ _) | (with_reducible refine bw_step ?_ (by with_reducible assumption)) | (with_reducible refine Below.alloc ?_ ?_ _) | (with_reducible refine Below.drew ?_) | (with_reducible refine below_drewN ?_ _) | (with_reducible refine Below.setCell ?_ ?_ _) | (with_reducible refine below_step ?_ (by with_reducible assumption) ?_) | (with_reducible exact Nat.le_refl _) | omega | (simp; omega) | (simp; done)))
  clear R_b_5 c_b_0_5 c_b_1_5 c_b_2_5 c_b_3_5 c_b_4_5 c_b_5_5 c_b_6_5 c_b_7_5 c_b_8_5 c_b_9_5 z_b_0_5 z_b_1_5 z_b_2_5 z_b_3_5 z_b_4_5 z_b_5_5 z_b_6_5 z_b_7_5 z_b_8_5 z_b_9_5 R_s_5 c_s_0_5 c_s_1_5 R_r_5 c_r_0_5 c_r_1_5 c_r_2_5 c_r_3_5 c_r_4_5 c_r_5_5 c_r_6_5 c_r_7_5 c_r_8_5 c_r_9_5 z_r_0_5 z_r_1_5 z_r_2_5 z_r_3_5 z_r_4_5 z_r_5_5 z_r_6_5 z_r_7_5 z_r_8_5 z_r_9_5 R_c_5 c_c_0_5 c_c_1_5 c_c_2_5 c_c_3_5 c_c_4_5 c_c_5_5 c_c_6_5 c_c_7_5 c_c_8_5 c_c_9_5 hb5 HB5
  have OG6 := Lib.hid (OG5.out.step hb6)
  clear OG5 lG5
  go_wp2_with fail
  go_loopw [11] (fun i wr => ∃ k : Nat, a ≤ k ∧ k ≤ c ∧ i = .int .i64 (B.fr + k) ∧ Hid (∀ j, a ≤ j → j < k → B.picked.getD j 0 < L) ∧ Hid (OwnI wr G (incR a k B.picked)) ∧ Hid (Row wr w.heap.size [.int .i64 B.id, .int .i64 B.kind, .int .i64 B.rooms, .int .i64 B.fr, .int .i64 B.un, .slice ca cn cc, .int .i64 B.pn, .int .i64 B.pd, .int .i64 B.fee, .slice pa pm pc]) ∧ Hid (Row wr (w.heap.size + 1) [.int .i64 s0, .int .i64 s1]) ∧
      Hid (Row wr (w.heap.size + 2) [.int .i64 0, .int .i64 0, .int .i64 0, .int .i64 0, .int .i64 0, .slice none 0 0, .int .i64 0, .int .i64 0, .int .i64 0, .slice none 0 0]) ∧ Hid (Row wr (w.heap.size + 3) [.int .i64 B.id, .int .i64 B.kind, .int .i64 B.rooms, .int .i64 B.fr, .int .i64 B.un, .slice ca cn cc, .int .i64 B.pn, .int .i64 B.pd, .int .i64 B.fee, .slice pa pm pc]) ∧ Bw w.heap.size w wr) (fun i _ => (s1 - intOf i).toNat)
  case atStart => exact ⟨a, Nat.le_refl _, by omega, by rw [HS0.out], fun j h1 h2 => by omega, by show OwnI _ _ _; rw [incR_none]; exact OG6.out, R_b_6, R_s_6, R_r_6, R_c_6, HB6⟩
  case round =>
    obtain ⟨k, hk1, hk2, rfl, hT, hO, hRb, hRs, hRr, hRc, hB⟩ := hrel
    obtain ⟨w7, hw7⟩ : ∃ wd : World, wd = wr := ⟨_, rfl⟩
    subst hw7
    have HB7 := hB.out
    have R_b_7 := hRb.out
    have R_s_7 := hRs.out
    have R_r_7 := hRr.out
    have R_c_7 := hRc.out
    clear hRb hRs hRr hRc hB R_b_6 c_b_0_6 c_b_1_6 c_b_2_6 c_b_3_6 c_b_4_6 c_b_5_6 c_b_6_6 c_b_7_6 c_b_8_6 c_b_9_6 z_b_0_6 z_b_1_6 z_b_2_6 z_b_3_6 z_b_4_6 z_b_5_6 z_b_6_6 z_b_7_6 z_b_8_6 z_b_9_6 R_s_6 c_s_0_6 c_s_1_6 R_r_6 c_r_0_6 c_r_1_6 c_r_2_6 c_r_3_6 c_r_4_6 c_r_5_6 c_r_6_6 c_r_7_6 c_r_8_6 c_r_9_6 z_r_0_6 z_r_1_6 z_r_2_6 z_r_3_6 z_r_4_6 z_r_5_6 z_r_6_6 z_r_7_6 z_r_8_6 z_r_9_6 R_c_6 c_c_0_6 c_c_1_6 c_c_2_6 c_c_3_6 c_c_4_6 c_c_5_6 c_c_6_6 c_c_7_6 c_c_8_6 c_c_9_6 hb6 HB6 OG6
    have c_b_0_7 := R_b_7.cell 0 rfl
    have c_b_3_7 := R_b_7.cell 3 rfl
    have c_b_7_7 := R_b_7.cell 7 rfl
    have l_b_7 := R_b_7.lt
    have c_s_0_7 := R_s_7.cell 0 rfl
    have c_s_1_7 := R_s_7.cell 1 rfl
    have l_s_7 := R_s_7.lt
    have c_c_0_7 := R_c_7.cell 0 rfl
    have c_c_1_7 := R_c_7.cell 1 rfl
    have c_c_2_7 := R_c_7.cell 2 rfl
    have c_c_3_7 := R_c_7.cell 3 rfl
    have c_c_4_7 := R_c_7.cell 4 rfl
    have c_c_5_7 := R_c_7.cell 5 rfl
    have c_c_6_7 := R_c_7.cell 6 rfl
    have c_c_7_7 := R_c_7.cell 7 rfl
    have c_c_8_7 := R_c_7.cell 8 rfl
    have c_c_9_7 := R_c_7.cell 9 rfl
    have l_c_7 := R_c_7.lt
    have l_r_7 := R_r_7.lt
    by_cases hlt : k < c
    · obtain ⟨z, hz⟩ : ∃ z, B.picked.getD k 0 = z := ⟨_, rfl⟩
      have hkl : k < B.picked.length := by rw [HLP.out]; omega
      have hzb : 0 ≤ z ∧ z ≤ 400 := by
        have := HOK.out.picks z (by rw [← hz]; exact getD_mem 0 hkl)
        have := HOK.out.rooms
        omega
      obtain ⟨hz0, hz1⟩ := hzb
      have HZ := Lib.hid hz
      have hlt2 : B.fr + (k : Int) < s1 := by rw [HS1.out]; omega
      clear hz hkl
      go_wp2_with fail
      refine (g_picked B (B.fr + k) k z ca cn cc pa pm pc _ (HIN.out.picked.below (by (repeat' (first | (with_reducible exact Below.refl _ _) | (with_reducible assumption) | (with_reducible exact Bw.out (by with_reducible assumption)) | (with_reducible refine bw_alloc ?_ _) | (with_reducible refine bw_step ?_ (by with_reducible assumption)) | (with_reducible refine Below.alloc ?_ ?_ _) | (with_reducible refine Below.drew ?_) | (with_reducible refine below_drewN ?_ _) | (with_reducible refine Below.setCell ?_ ?_ _) | (with_reducible refine below_step ?_ (by with_reducible assumption) ?_) | (with_reducible exact Nat.le_refl _) | omega | (simp; omega) | (simp; done))))) (by omega) rfl o1 o2 o3 HZ.out).mono ?_
      rintro e w8 ⟨rfl, hb8⟩
      have R_b_8 : Row w8 (w.heap.size) [.int .i64 B.id, .int .i64 B.kind, .int .i64 B.rooms, .int .i64 B.fr, .int .i64 B.un, .slice ca cn cc, .int .i64 B.pn, .int .i64 B.pd, .int .i64 B.fee, .slice pa pm pc] := by (repeat' (first | (with_reducible assumption) | (with_reducible refine Row.new' _ _ _ (by first | rfl | (simp; done) | omega)) | (with_reducible refine Row.alloc ?_ _) | (with_reducible refine Row.drew ?_) | (with_reducible refine Row.drewN ?_ _) | (with_reducible refine Row.step ?_ (by with_reducible assumption)) | (with_reducible refine Row.set2' ?_ _ _; first | exact ⟨_, _, by with_reducible assumption⟩ | exact ⟨_, _, Row.alloc (by with_reducible assumption) _⟩ | exact ⟨_, _, Row.alloc (Row.alloc (by with_reducible assumption) _) _⟩) | (with_reducible refine Row.other ?_ (by first | omega | (simp; done) | (simp; omega)) _)))
      have c_b_0_8 := R_b_8.cell 0 rfl
      have c_b_1_8 := R_b_8.cell 1 rfl
      have c_b_2_8 := R_b_8.cell 2 rfl
      have c_b_3_8 := R_b_8.cell 3 rfl
      have c_b_4_8 := R_b_8.cell 4 rfl
      have c_b_5_8 := R_b_8.cell 5 rfl
      have c_b_6_8 := R_b_8.cell 6 rfl
      have c_b_7_8 := R_b_8.cell 7 rfl
      have c_b_8_8 := R_b_8.cell 8 rfl
      have c_b_9_8 := R_b_8.cell 9 rfl
      have z_b_0_8 := R_b_8.frozen 0
      have z_b_1_8 := R_b_8.frozen 1
      have z_b_2_8 := R_b_8.frozen 2
      have z_b_3_8 := R_b_8.frozen 3
      have z_b_4_8 := R_b_8.frozen 4
      have z_b_5_8 := R_b_8.frozen 5
      have z_b_6_8 := R_b_8.frozen 6
      have z_b_7_8 := R_b_8.frozen 7
      have z_b_8_8 := R_b_8.frozen 8
      have z_b_9_8 := R_b_8.frozen 9
      have l_b_8 := R_b_8.lt
      have R_s_8 : Row w8 (w.heap.size + 1) [.int .i64 (s0), .int .i64 (s1)] := by (repeat' (first | (with_reducible assumption) | (with_reducible refine Row.new' _ _ _ (by first | rfl | (simp; done) | omega)) | (with_reducible refine Row.alloc ?_ _) | (with_reducible refine Row.drew ?_) | (with_reducible refine Row.drewN ?_ _) | (with_reducible refine Row.step ?_ (by with_reducible assumption)) | (with_reducible refine Row.set2' ?_ _ _; first | exact ⟨_, _, by with_reducible assumption⟩ | exact ⟨_, _, Row.alloc (by with_reducible assumption) _⟩ | exact ⟨_, _, Row.alloc (Row.alloc (by with_reducible assumption) _) _⟩) | (with_reducible refine Row.other ?_ (by first | omega | (simp; done) | (simp; omega)) _)))
      have c_s_0_8 := R_s_8.cell 0 rfl
      have c_s_1_8 := R_s_8.cell 1 rfl
      have l_s_8 := R_s_8.lt
      have R_r_8 : Row w8 (w.heap.size + 2) [.int .i64 (0), .int .i64 (0), .int .i64 (0), .int .i64 (0), .int .i64 (0), .slice none 0 0, .int .i64 (0), .int .i64 (0), .int .i64 (0), .slice none 0 0] := by (repeat' (first | (with_reducible assumption) | (with_reducible refine Row.new' _ _ _ (by first | rfl | (simp; done) | omega)) | (with_reducible refine Row.alloc ?_ _) | (with_reducible refine Row.drew ?_) | (with_reducible refine Row.drewN ?_ _) | (with_reducible refine Row.step ?_ (by with_reducible assumption)) | (with_reducible refine Row.set2' ?_ _ _; first | exact ⟨_, _, by with_reducible assumption⟩ | exact ⟨_, _, Row.alloc (by with_reducible assumption) _⟩ | exact ⟨_, _, Row.alloc (Row.alloc (by with_reducible assumption) _) _⟩) | (with_reducible refine Row.other ?_ (by first | omega | (simp; done) | (simp; omega)) _)))
      have c_r_0_8 := R_r_8.cell 0 rfl
      have c_r_1_8 := R_r_8.cell 1 rfl
      have c_r_2_8 := R_r_8.cell 2 rfl
      have c_r_3_8 := R_r_8.cell 3 rfl
      have c_r_4_8 := R_r_8.cell 4 rfl
      have c_r_5_8 := R_r_8.cell 5 rfl
      have c_r_6_8 := R_r_8.cell 6 rfl
      have c_r_7_8 := R_r_8.cell 7 rfl
      have c_r_8_8 := R_r_8.cell 8 rfl
      have c_r_9_8 := R_r_8.cell 9 rfl
      have z_r_0_8 := R_r_8.frozen 0
      have z_r_1_8 := R_r_8.frozen 1
      have z_r_2_8 := R_r_8.frozen 2
      have z_r_3_8 := R_r_8.frozen 3
      have z_r_4_8 := R_r_8.frozen 4
      have z_r_5_8 := R_r_8.frozen 5
      have z_r_6_8 := R_r_8.frozen 6
      have z_r_7_8 := R_r_8.frozen 7
      have z_r_8_8 := R_r_8.frozen 8
      have z_r_9_8 := R_r_8.frozen 9
      have l_r_8 := R_r_8.lt
      have R_c_8 : Row w8 (w.heap.size + 3) [.int .i64 B.id, .int .i64 B.kind, .int .i64 B.rooms, .int .i64 B.fr, .int .i64 B.un, .slice ca cn cc, .int .i64 B.pn, .int .i64 B.pd, .int .i64 B.fee, .slice pa pm pc] := by (repeat' (first | (with_reducible assumption) | (with_reducible refine Row.new' _ _ _ (by first | rfl | (simp; done) | omega)) | (with_reducible refine Row.alloc ?_ _) | (with_reducible refine Row.drew ?_) | (with_reducible refine Row.drewN ?_ _) | (with_reducible refine Row.step ?_ (by with_reducible assumption)) | (with_reducible refine Row.set2' ?_ _ _; first | exact ⟨_, _, by with_reducible assumption⟩ | exact ⟨_, _, Row.alloc (by with_reducible assumption) _⟩ | exact ⟨_, _, Row.alloc (Row.alloc (by with_reducible assumption) _) _⟩) | (with_reducible refine Row.other ?_ (by first | omega | (simp; done) | (simp; omega)) _)))
      have c_c_0_8 := R_c_8.cell 0 rfl
      have c_c_1_8 := R_c_8.cell 1 rfl
      have c_c_2_8 := R_c_8.cell 2 rfl
      have c_c_3_8 := R_c_8.cell 3 rfl
      have c_c_4_8 := R_c_8.cell 4 rfl
      have c_c_5_8 := R_c_8.cell 5 rfl
      have c_c_6_8 := R_c_8.cell 6 rfl
      have c_c_7_8 := R_c_8.cell 7 rfl
      have c_c_8_8 := R_c_8.cell 8 rfl
      have c_c_9_8 := R_c_8.cell 9 rfl
      have l_c_8 := R_c_8.lt
      have HB8 : Below w.heap.size w w8 := by (repeat' (first | (with_reducible exact Below.refl _ _) | (with_reducible assumption) | (with_reducible exact Bw.out (by with_reducible assumption)) | (with_reducible refine bw_alloc ?_ _) | (with_reducible refine bw_step ?_ (by with_reducible assumption)) | (with_reducible refine Below.alloc ?_ ?_ _) | (with_reducible refine Below.drew ?_) | (with_reducible refine below_drewN ?_ _) | (with_reducible refine Below.setCell ?_ ?_ _) | (with_reducible refine below_step ?_ (by with_reducible assumption) ?_) | (with_reducible exact Nat.le_refl _) | omega | (simp; omega) | (simp; done)))
      have OG8 := Lib.hid (hO.out.step hb8)
      by_cases hzL : L ≤ z
      ·
        go_wp2_with fail
        refine bodyPost_ret (v := .tuple #[.agg #[.int .i64 0, .int .i64 0, .int .i64 0, .int .i64 0, .int .i64 0, .slice none 0 0, .int .i64 0, .int .i64 0, .int .i64 0, .slice none 0 0], .int .i64 31]) (by simp [results, Try.results15, go_sem, c_r_0_8, c_r_1_8, c_r_2_8, c_r_3_8, c_r_4_8, c_r_5_8, c_r_6_8, c_r_7_8, c_r_8_8, c_r_9_8, l_r_8]) rfl ?_
        refine ⟨by (repeat' (first | (with_reducible exact Below.refl _ _) | (with_reducible assumption) | (with_reducible exact Bw.out (by with_reducible assumption)) | (with_reducible refine bw_alloc ?_ _) | (with_reducible refine bw_step ?_ (by with_reducible assumption)) | (with_reducible refine Below.alloc ?_ ?_ _) | (with_reducible refine Below.drew ?_) | (with_reducible refine below_drewN ?_ _) | (with_reducible refine Below.setCell ?_ ?_ _) | (with_reducible refine below_step ?_ (by with_reducible assumption) ?_) | (with_reducible exact Nat.le_refl _) | omega | (simp; omega) | (simp; done))), Or.inl ⟨fullB_iff.2 ⟨k, by rw [HLP.out]; omega, by rw [HXA.out]; exact hk1, by rw [HXC.out]; exact hlt, by rw [HZ.out]; exact hzL⟩, rfl⟩⟩
      · have hzL2 : z < L := by omega
        clear hzL
        have hkl : k < (incR a k B.picked).length := by rw [incR_length, HLP.out]; omega
        have cG : w8.cell? ⟨G, k, none⟩ = some (.int .i64 z) := by
          have := OG8.out.cell hkl
          rw [incR_getD (by rw [HLP.out]; omega), if_neg (by omega), HZ.out] at this
          simpa using this
        have fG := OG8.out.frozen k
        have j1 : (0 : Int) ≤ (k : Int) := by omega
        have j2 : (k : Int) < (pm : Int) := by omega
        have e1 : B.fr + (k : Int) - B.fr = (k : Int) := by omega
        have e2 : IntKind.i64.wrap (k : Int) = (k : Int) := IntWalk.i64_in _ (by omega)
        go_wp2_with fail
        go_roundw
        case rel =>
          refine ⟨k + 1, by omega, by omega, congrArg (Value.int .i64) (by omega), ?_, ?_, R_b_8.other (by simp; omega) _, R_s_8.other (by simp; omega) _, R_r_8.other (by simp; omega) _, R_c_8.other (by simp; omega) _, ?_⟩
          · intro j hj1 hj2
            rcases Nat.lt_or_ge j k with hjk | hjk
            · exact hT.out j hj1 hjk
            · obtain rfl : j = k := by omega
              rw [HZ.out]; exact hzL2
          · have h := OG8.out.set hkl (z + 1)
            rw [← HZ.out, incR_set hk1 (by rw [HLP.out]; omega), HZ.out] at h
            exact h
          · show Below _ _ _
            (repeat' (first | (with_reducible exact Below.refl _ _) | (with_reducible assumption) | (with_reducible exact Bw.out (by with_reducible assumption)) | (with_reducible refine bw_alloc ?_ _) | (with_reducible refine bw_step ?_ (by with_reducible assumption)) | (with_reducible refine Below.alloc ?_ ?_ _) | (with_reducible refine Below.drew ?_) | (with_reducible refine below_drewN ?_ _) | (with_reducible refine Below.setCell ?_ ?_ _) | (with_reducible refine below_step ?_ (by with_reducible assumption) ?_) | (with_reducible exact Nat.le_refl _) | omega | (simp; omega) | (simp; done)))
        case measure => simp [intOf]; omega
    · obtain rfl : k = c := by omega
      have hFull : Hid (fullB L (ixA B s0) (ixA B s1) B.picked = false) := fullB_of (fun i h1 h2 => hT.out i (by rw [HXA.out] at h1; exact h1) (by rw [HXC.out] at h2; exact h2))
      have HOG : Hid (OwnI w7 G (incR (ixA B s0) (ixA B s1) B.picked)) := by show OwnI _ _ _; rw [HXA.out, HXC.out]; exact hO.out
      have hnlt : ¬ B.fr + (k : Int) < s1 := by rw [HS1.out]; omega
      clear hT hO hlt
      have c_b_9_7 := R_b_7.cell 9 rfl
      have z_b_9_7 := R_b_7.frozen 9
      have hrG : ¬ (w.heap.size + 2 = G) := by omega
      clear c_c_0_7 c_c_1_7 c_c_2_7 c_c_3_7 c_c_4_7 c_c_5_7 c_c_6_7 c_c_7_7 c_c_8_7 c_c_9_7 c_b_0_7 c_b_3_7 c_b_7_7
      go_upto_region 16 with fail
      obtain ⟨w8, hw8⟩ : ∃ w8, w7.setCell ⟨w.heap.size, 9, none⟩ (.slice (some ⟨G, 0, none⟩) pm pm) = w8 := ⟨_, rfl⟩
      rw [hw8]
      have R_b_8 : Row w8 w.heap.size [.int .i64 B.id, .int .i64 B.kind, .int .i64 B.rooms, .int .i64 B.fr, .int .i64 B.un, .slice ca cn cc, .int .i64 B.pn, .int .i64 B.pd, .int .i64 B.fee, .slice (some ⟨G, 0, none⟩) pm pm] := by
        rw [← hw8]; exact R_b_7.setAt 9 _ (by simp)
      have R_r_8 : Row w8 (w.heap.size + 2) [.int .i64 0, .int .i64 0, .int .i64 0, .int .i64 0, .int .i64 0, .slice none 0 0, .int .i64 0, .int .i64 0, .int .i64 0, .slice none 0 0] := by
        rw [← hw8]; exact R_r_7.other (by simp) _
      have HOG8 : Hid (OwnI w8 G (incR (ixA B s0) (ixA B s1) B.picked)) := by
        rw [← hw8]; exact HOG.out.of_block (Below.heap_setCell _ _ _ _ (by simp; omega))
      have HB8 : Below w.heap.size w w8 := by rw [← hw8]; exact HB7.setCell (by simp) _
      clear hw8 R_b_7 R_s_7 R_r_7 R_c_7 HB7 HOG c_b_9_7 z_b_9_7 c_s_0_7 c_s_1_7 l_b_7 l_s_7 l_c_7 l_r_7
      have c_b_0_8 := R_b_8.cell 0 rfl
      have c_b_1_8 := R_b_8.cell 1 rfl
      have c_b_2_8 := R_b_8.cell 2 rfl
      have c_b_3_8 := R_b_8.cell 3 rfl
      have c_b_4_8 := R_b_8.cell 4 rfl
      have c_b_5_8 := R_b_8.cell 5 rfl
      have c_b_6_8 := R_b_8.cell 6 rfl
      have c_b_7_8 := R_b_8.cell 7 rfl
      have c_b_8_8 := R_b_8.cell 8 rfl
      have c_b_9_8 := R_b_8.cell 9 rfl
      have c_r_0_8 := R_r_8.cell 0 rfl
      have z_r_0_8 := R_r_8.frozen 0
      have c_r_1_8 := R_r_8.cell 1 rfl
      have z_r_1_8 := R_r_8.frozen 1
      have c_r_2_8 := R_r_8.cell 2 rfl
      have z_r_2_8 := R_r_8.frozen 2
      have c_r_3_8 := R_r_8.cell 3 rfl
      have z_r_3_8 := R_r_8.frozen 3
      have c_r_4_8 := R_r_8.cell 4 rfl
      have z_r_4_8 := R_r_8.frozen 4
      have c_r_5_8 := R_r_8.cell 5 rfl
      have z_r_5_8 := R_r_8.frozen 5
      have c_r_6_8 := R_r_8.cell 6 rfl
      have z_r_6_8 := R_r_8.frozen 6
      have c_r_7_8 := R_r_8.cell 7 rfl
      have z_r_7_8 := R_r_8.frozen 7
      have c_r_8_8 := R_r_8.cell 8 rfl
      have z_r_8_8 := R_r_8.frozen 8
      have c_r_9_8 := R_r_8.cell 9 rfl
      have z_r_9_8 := R_r_8.frozen 9
      have l_b_8 := R_b_8.lt
      have l_r_8 := R_r_8.lt
      go_wp2_with fail
      refine bodyPost_ret (v := .tuple #[.agg #[.int .i64 B.id, .int .i64 B.kind, .int .i64 B.rooms, .int .i64 B.fr, .int .i64 B.un, .slice ca cn cc, .int .i64 B.pn, .int .i64 B.pd, .int .i64 B.fee, .slice (some ⟨G, 0, none⟩) pm pm], .int .i64 0]) (by simp [results, Try.results15, go_sem, l_r_8, c_r_0_8, c_r_1_8, c_r_2_8, c_r_3_8, c_r_4_8, c_r_5_8, c_r_6_8, c_r_7_8, c_r_8_8, c_r_9_8]) rfl ?_
      refine ⟨by (repeat' (first | (with_reducible exact Below.refl _ _) | (with_reducible assumption) | (with_reducible exact Bw.out (by with_reducible assumption)) | (with_reducible refine bw_alloc ?_ _) | (with_reducible refine bw_step ?_ (by with_reducible assumption)) | (with_reducible refine Below.alloc ?_ ?_ _) | (with_reducible refine Below.drew ?_) | (with_reducible refine below_drewN ?_ _) | (with_reducible refine Below.setCell ?_ ?_ _) | (with_reducible refine below_step ?_ (by with_reducible assumption) ?_) | (with_reducible exact Nat.le_refl _) | omega | (simp; omega) | (simp; done))), Or.inr ⟨hFull.out, G, by omega, HOG8.out.of_block (by simp [World.setCell, Array.getElem?_modify, hrG]), rfl⟩⟩

end Go.Proofs.Ytjmlkdopbiedaaa
