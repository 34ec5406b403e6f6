/-
  The walk of the reference's Pick, second part: where the span's nights are the block's.
-/
import Derived.Test.YtjmlkdopbiedaaaGrpU
namespace Go.Proofs.Ytjmlkdopbiedaaa
set_option linter.unusedSimpArgs false
set_option linter.unusedVariables false
open Go.RowKit

/-- What the reference's Pick returns, where the span's nights are the block's. -/
def RiPost (B : Blk) (L s0 s1 : Int) (ca : Option Addr) (cn cc pm : Nat) (w : World) (e : Ending) (w' : World) : Prop :=
  Below w.heap.size w w' ∧
  ((fullB L (ixA B s0) (ixA B s1) B.picked = true ∧ e = .returned (.tuple #[.agg #[.int .i64 0, .int .i64 0, .int .i64 0, .int .i64 0, .int .i64 0, .slice none 0 0, .int .i64 0, .int .i64 0, .int .i64 0, .slice none 0 0], .int .i64 31])) ∨
   (fullB L (ixA B s0) (ixA B s1) B.picked = false ∧ ∃ g cp : Nat, w.heap.size ≤ g ∧ pm ≤ cp ∧ cp ≤ maxLen ∧ OwnI w' g (incR (ixA B s0) (ixA B s1) B.picked) ∧
      e = .returned (.tuple #[.agg #[.int .i64 B.id, .int .i64 B.kind, .int .i64 B.rooms, .int .i64 B.fr, .int .i64 B.un, .slice ca cn cc, .int .i64 B.pn, .int .i64 B.pd, .int .i64 B.fee, .slice (some ⟨g, 0, none⟩) pm cp], .int .i64 0])))

theorem OwnV.form2 {w : World} {base : Nat} {v : Value} {zs : List Int} (h : OwnV w base v zs) (n : Nat) (hn : zs.length = n) : ∃ ad cap, v = .slice ad n cap ∧ OwnV w base (.slice ad n cap) zs := by
  subst hn
  obtain ⟨ad, cap, e, _⟩ := h.sl
  exact ⟨ad, cap, e, e ▸ h⟩
theorem OwnV.below {w w1 : World} {base B : Nat} {v : Value} {zs : List Int} (h : OwnV w base v zs) (hb : Below w.heap.size w w1) : OwnV w1 base v zs := h.step hb

set_option maxRecDepth 100000 in
set_option maxHeartbeats 6400000 in
theorem r_Pick_in (B : Blk) (day s0 s1 : Int) (L : Int) (ca : Option Addr) (cn cc : Nat) (pa : Option Addr) (pm pc : Nat) (w : World) (hin : BlkIn w B ca cn cc pa pm pc) (hv : blkB B = true) (hd : inR day 0 366 = true) (hs : s0 < s1) (h1 : B.fr ≤ s0) (h2 : s1 ≤ B.un) (hL : limI B day = L) :
    Calls Try.prog 16 #[.agg #[.int .i64 B.id, .int .i64 B.kind, .int .i64 B.rooms, .int .i64 B.fr, .int .i64 B.un, .slice ca cn cc, .int .i64 B.pn, .int .i64 B.pd, .int .i64 B.fee, .slice pa pm pc], .int .i64 day, .agg #[.int .i64 s0, .int .i64 s1]] w (RiPost B L s0 s1 ca cn cc pm w) := by
  have ok := blkB_ok hv
  obtain ⟨a, ha⟩ := Int.eq_ofNat_of_zero_le (show 0 ≤ s0 - B.fr by omega)
  obtain ⟨c, hc⟩ := Int.eq_ofNat_of_zero_le (show 0 ≤ s1 - B.fr by have := ok.lt; omega)
  have HXA : Hid (ixA B s0 = a) := by show _ = _; unfold ixA; omega
  have HXC : Hid (ixA B s1 = c) := by show _ = _; unfold ixA; omega
  have HLP : Hid (B.picked.length = pm) := hin.picked.1
  have hcp : c ≤ pm := by have := ok.len; rw [HLP.out] at this; omega
  have hac : a < c := by omega
  have HS0 : Hid (s0 = B.fr + a) := by show _ = _; omega
  have HS1 : Hid (s1 = B.fr + c) := by show _ = _; omega
  have o1 := ok.fr
  have o2 : B.fr ≤ 366 := by have := ok.lt; have := ok.un; omega
  have o3 : pm ≤ 366 := by have := ok.len; rw [HLP.out] at this; have := ok.un; omega
  have HIN := Lib.hid hin
  have HV := Lib.hid hv
  have HOK := Lib.hid ok
  have HL := Lib.hid hL
  clear hin hv ok hL ha hc
  go_enter Try.func16, Try.ntmps16
  go_wp2_with fail
  refine (r_valid_any B ca cn cc pa pm pc _ (HIN.out.below (by (repeat' (first | (with_reducible exact Below.refl _ _) | (with_reducible assumption) | (with_reducible exact Bw.out (by with_reducible assumption)) | (with_reducible refine bw_alloc ?_ _) | (with_reducible refine bw_step ?_ (by with_reducible assumption)) | (with_reducible refine Below.alloc ?_ ?_ _) | (with_reducible refine Below.drew ?_) | (with_reducible refine below_drewN ?_ _) | (with_reducible refine Below.setCell ?_ ?_ _) | (with_reducible refine below_step ?_ (by with_reducible assumption) ?_) | (with_reducible exact Nat.le_refl _) | omega | (simp; omega) | (simp; done))))) true HV.out).mono ?_
  rintro e w1 ⟨rfl, hb1⟩
  have R_b_1 : Row w1 (w.heap.size) [.int .i64 B.id, .int .i64 B.kind, .int .i64 B.rooms, .int .i64 B.fr, .int .i64 B.un, .slice ca cn cc, .int .i64 B.pn, .int .i64 B.pd, .int .i64 B.fee, .slice pa pm pc] := by (repeat' (first | (with_reducible assumption) | (with_reducible refine Row.new' _ _ _ (by first | rfl | (simp; done) | omega)) | (with_reducible refine Row.alloc ?_ _) | (with_reducible refine Row.drew ?_) | (with_reducible refine Row.drewN ?_ _) | (with_reducible refine Row.step ?_ (by with_reducible assumption)) | (with_reducible refine Row.set2' ?_ _ _; first | exact ⟨_, _, by with_reducible assumption⟩ | exact ⟨_, _, Row.alloc (by with_reducible assumption) _⟩ | exact ⟨_, _, Row.alloc (Row.alloc (by with_reducible assumption) _) _⟩) | (with_reducible refine Row.other ?_ (by first | omega | (simp; done) | (simp; omega)) _)))
  have c_b_0_1 := R_b_1.cell 0 rfl
  have c_b_1_1 := R_b_1.cell 1 rfl
  have c_b_2_1 := R_b_1.cell 2 rfl
  have c_b_3_1 := R_b_1.cell 3 rfl
  have c_b_4_1 := R_b_1.cell 4 rfl
  have c_b_5_1 := R_b_1.cell 5 rfl
  have c_b_6_1 := R_b_1.cell 6 rfl
  have c_b_7_1 := R_b_1.cell 7 rfl
  have c_b_8_1 := R_b_1.cell 8 rfl
  have c_b_9_1 := R_b_1.cell 9 rfl
  have z_b_0_1 := R_b_1.frozen 0
  have z_b_1_1 := R_b_1.frozen 1
  have z_b_2_1 := R_b_1.frozen 2
  have z_b_3_1 := R_b_1.frozen 3
  have z_b_4_1 := R_b_1.frozen 4
  have z_b_5_1 := R_b_1.frozen 5
  have z_b_6_1 := R_b_1.frozen 6
  have z_b_7_1 := R_b_1.frozen 7
  have z_b_8_1 := R_b_1.frozen 8
  have z_b_9_1 := R_b_1.frozen 9
  have l_b_1 := R_b_1.lt
  have R_s_1 : Row w1 (w.heap.size + 1) [.int .i64 (s0), .int .i64 (s1)] := by (repeat' (first | (with_reducible assumption) | (with_reducible refine Row.new' _ _ _ (by first | rfl | (simp; done) | omega)) | (with_reducible refine Row.alloc ?_ _) | (with_reducible refine Row.drew ?_) | (with_reducible refine Row.drewN ?_ _) | (with_reducible refine Row.step ?_ (by with_reducible assumption)) | (with_reducible refine Row.set2' ?_ _ _; first | exact ⟨_, _, by with_reducible assumption⟩ | exact ⟨_, _, Row.alloc (by with_reducible assumption) _⟩ | exact ⟨_, _, Row.alloc (Row.alloc (by with_reducible assumption) _) _⟩) | (with_reducible refine Row.other ?_ (by first | omega | (simp; done) | (simp; omega)) _)))
  have c_s_0_1 := R_s_1.cell 0 rfl
  have c_s_1_1 := R_s_1.cell 1 rfl
  have l_s_1 := R_s_1.lt
  have R_r_1 : Row w1 (w.heap.size + 2) [.int .i64 (0), .int .i64 (0), .int .i64 (0), .int .i64 (0), .int .i64 (0), .slice none 0 0, .int .i64 (0), .int .i64 (0), .int .i64 (0), .slice none 0 0] := by (repeat' (first | (with_reducible assumption) | (with_reducible refine Row.new' _ _ _ (by first | rfl | (simp; done) | omega)) | (with_reducible refine Row.alloc ?_ _) | (with_reducible refine Row.drew ?_) | (with_reducible refine Row.drewN ?_ _) | (with_reducible refine Row.step ?_ (by with_reducible assumption)) | (with_reducible refine Row.set2' ?_ _ _; first | exact ⟨_, _, by with_reducible assumption⟩ | exact ⟨_, _, Row.alloc (by with_reducible assumption) _⟩ | exact ⟨_, _, Row.alloc (Row.alloc (by with_reducible assumption) _) _⟩) | (with_reducible refine Row.other ?_ (by first | omega | (simp; done) | (simp; omega)) _)))
  have c_r_0_1 := R_r_1.cell 0 rfl
  have c_r_1_1 := R_r_1.cell 1 rfl
  have c_r_2_1 := R_r_1.cell 2 rfl
  have c_r_3_1 := R_r_1.cell 3 rfl
  have c_r_4_1 := R_r_1.cell 4 rfl
  have c_r_5_1 := R_r_1.cell 5 rfl
  have c_r_6_1 := R_r_1.cell 6 rfl
  have c_r_7_1 := R_r_1.cell 7 rfl
  have c_r_8_1 := R_r_1.cell 8 rfl
  have c_r_9_1 := R_r_1.cell 9 rfl
  have z_r_0_1 := R_r_1.frozen 0
  have z_r_1_1 := R_r_1.frozen 1
  have z_r_2_1 := R_r_1.frozen 2
  have z_r_3_1 := R_r_1.frozen 3
  have z_r_4_1 := R_r_1.frozen 4
  have z_r_5_1 := R_r_1.frozen 5
  have z_r_6_1 := R_r_1.frozen 6
  have z_r_7_1 := R_r_1.frozen 7
  have z_r_8_1 := R_r_1.frozen 8
  have z_r_9_1 := R_r_1.frozen 9
  have l_r_1 := R_r_1.lt
  have HB1 : Below w.heap.size w w1 := by (repeat' (first | (with_reducible exact Below.refl _ _) | (with_reducible assumption) | (with_reducible exact Bw.out (by with_reducible assumption)) | (with_reducible refine bw_alloc ?_ _) | (with_reducible refine bw_step ?_ (by with_reducible assumption)) | (with_reducible refine Below.alloc ?_ ?_ _) | (with_reducible refine Below.drew ?_) | (with_reducible refine below_drewN ?_ _) | (with_reducible refine Below.setCell ?_ ?_ _) | (with_reducible refine below_step ?_ (by with_reducible assumption) ?_) | (with_reducible exact Nat.le_refl _) | omega | (simp; omega) | (simp; done)))
  go_wp2_with fail
  refine (r_Day day _).mono ?_
  rintro e w' ⟨rfl, rfl⟩
  rw [hd]
  go_wp2_with fail
  refine (r_limit B day L ca cn cc pa pm pc _ (HIN.out.below (by (repeat' (first | (with_reducible exact Below.refl _ _) | (with_reducible assumption) | (with_reducible exact Bw.out (by with_reducible assumption)) | (with_reducible refine bw_alloc ?_ _) | (with_reducible refine bw_step ?_ (by with_reducible assumption)) | (with_reducible refine Below.alloc ?_ ?_ _) | (with_reducible refine Below.drew ?_) | (with_reducible refine below_drewN ?_ _) | (with_reducible refine Below.setCell ?_ ?_ _) | (with_reducible refine below_step ?_ (by with_reducible assumption) ?_) | (with_reducible exact Nat.le_refl _) | omega | (simp; omega) | (simp; done))))) HOK.out HL.out).mono ?_
  rintro e w2 ⟨rfl, hb2⟩
  have R_b_2 : Row w2 (w.heap.size) [.int .i64 B.id, .int .i64 B.kind, .int .i64 B.rooms, .int .i64 B.fr, .int .i64 B.un, .slice ca cn cc, .int .i64 B.pn, .int .i64 B.pd, .int .i64 B.fee, .slice pa pm pc] := by (repeat' (first | (with_reducible assumption) | (with_reducible refine Row.new' _ _ _ (by first | rfl | (simp; done) | omega)) | (with_reducible refine Row.alloc ?_ _) | (with_reducible refine Row.drew ?_) | (with_reducible refine Row.drewN ?_ _) | (with_reducible refine Row.step ?_ (by with_reducible assumption)) | (with_reducible refine Row.set2' ?_ _ _; first | exact ⟨_, _, by with_reducible assumption⟩ | exact ⟨_, _, Row.alloc (by with_reducible assumption) _⟩ | exact ⟨_, _, Row.alloc (Row.alloc (by with_reducible assumption) _) _⟩) | (with_reducible refine Row.other ?_ (by first | omega | (simp; done) | (simp; omega)) _)))
  have c_b_0_2 := R_b_2.cell 0 rfl
  have c_b_1_2 := R_b_2.cell 1 rfl
  have c_b_2_2 := R_b_2.cell 2 rfl
  have c_b_3_2 := R_b_2.cell 3 rfl
  have c_b_4_2 := R_b_2.cell 4 rfl
  have c_b_5_2 := R_b_2.cell 5 rfl
  have c_b_6_2 := R_b_2.cell 6 rfl
  have c_b_7_2 := R_b_2.cell 7 rfl
  have c_b_8_2 := R_b_2.cell 8 rfl
  have c_b_9_2 := R_b_2.cell 9 rfl
  have z_b_0_2 := R_b_2.frozen 0
  have z_b_1_2 := R_b_2.frozen 1
  have z_b_2_2 := R_b_2.frozen 2
  have z_b_3_2 := R_b_2.frozen 3
  have z_b_4_2 := R_b_2.frozen 4
  have z_b_5_2 := R_b_2.frozen 5
  have z_b_6_2 := R_b_2.frozen 6
  have z_b_7_2 := R_b_2.frozen 7
  have z_b_8_2 := R_b_2.frozen 8
  have z_b_9_2 := R_b_2.frozen 9
  have l_b_2 := R_b_2.lt
  have R_s_2 : Row w2 (w.heap.size + 1) [.int .i64 (s0), .int .i64 (s1)] := by (repeat' (first | (with_reducible assumption) | (with_reducible refine Row.new' _ _ _ (by first | rfl | (simp; done) | omega)) | (with_reducible refine Row.alloc ?_ _) | (with_reducible refine Row.drew ?_) | (with_reducible refine Row.drewN ?_ _) | (with_reducible refine Row.step ?_ (by with_reducible assumption)) | (with_reducible refine Row.set2' ?_ _ _; first | exact ⟨_, _, by with_reducible assumption⟩ | exact ⟨_, _, Row.alloc (by with_reducible assumption) _⟩ | exact ⟨_, _, Row.alloc (Row.alloc (by with_reducible assumption) _) _⟩) | (with_reducible refine Row.other ?_ (by first | omega | (simp; done) | (simp; omega)) _)))
  have c_s_0_2 := R_s_2.cell 0 rfl
  have c_s_1_2 := R_s_2.cell 1 rfl
  have l_s_2 := R_s_2.lt
  have R_r_2 : Row w2 (w.heap.size + 2) [.int .i64 (0), .int .i64 (0), .int .i64 (0), .int .i64 (0), .int .i64 (0), .slice none 0 0, .int .i64 (0), .int .i64 (0), .int .i64 (0), .slice none 0 0] := by (repeat' (first | (with_reducible assumption) | (with_reducible refine Row.new' _ _ _ (by first | rfl | (simp; done) | omega)) | (with_reducible refine Row.alloc ?_ _) | (with_reducible refine Row.drew ?_) | (with_reducible refine Row.drewN ?_ _) | (with_reducible refine Row.step ?_ (by with_reducible assumption)) | (with_reducible refine Row.set2' ?_ _ _; first | exact ⟨_, _, by with_reducible assumption⟩ | exact ⟨_, _, Row.alloc (by with_reducible assumption) _⟩ | exact ⟨_, _, Row.alloc (Row.alloc (by with_reducible assumption) _) _⟩) | (with_reducible refine Row.other ?_ (by first | omega | (simp; done) | (simp; omega)) _)))
  have c_r_0_2 := R_r_2.cell 0 rfl
  have c_r_1_2 := R_r_2.cell 1 rfl
  have c_r_2_2 := R_r_2.cell 2 rfl
  have c_r_3_2 := R_r_2.cell 3 rfl
  have c_r_4_2 := R_r_2.cell 4 rfl
  have c_r_5_2 := R_r_2.cell 5 rfl
  have c_r_6_2 := R_r_2.cell 6 rfl
  have c_r_7_2 := R_r_2.cell 7 rfl
  have c_r_8_2 := R_r_2.cell 8 rfl
  have c_r_9_2 := R_r_2.cell 9 rfl
  have z_r_0_2 := R_r_2.frozen 0
  have z_r_1_2 := R_r_2.frozen 1
  have z_r_2_2 := R_r_2.frozen 2
  have z_r_3_2 := R_r_2.frozen 3
  have z_r_4_2 := R_r_2.frozen 4
  have z_r_5_2 := R_r_2.frozen 5
  have z_r_6_2 := R_r_2.frozen 6
  have z_r_7_2 := R_r_2.frozen 7
  have z_r_8_2 := R_r_2.frozen 8
  have z_r_9_2 := R_r_2.frozen 9
  have l_r_2 := R_r_2.lt
  have HB2 : Below w.heap.size w w2 := by (repeat' (first | (with_reducible exact Below.refl _ _) | (with_reducible assumption) | (with_reducible exact Bw.out (by with_reducible assumption)) | (with_reducible refine bw_alloc ?_ _) | (with_reducible refine bw_step ?_ (by with_reducible assumption)) | (with_reducible refine Below.alloc ?_ ?_ _) | (with_reducible refine Below.drew ?_) | (with_reducible refine below_drewN ?_ _) | (with_reducible refine Below.setCell ?_ ?_ _) | (with_reducible refine below_step ?_ (by with_reducible assumption) ?_) | (with_reducible exact Nat.le_refl _) | omega | (simp; omega) | (simp; done)))
  clear R_b_1 c_b_0_1 c_b_1_1 c_b_2_1 c_b_3_1 c_b_4_1 c_b_5_1 c_b_6_1 c_b_7_1 c_b_8_1 c_b_9_1 z_b_0_1 z_b_1_1 z_b_2_1 z_b_3_1 z_b_4_1 z_b_5_1 z_b_6_1 z_b_7_1 z_b_8_1 z_b_9_1 R_s_1 c_s_0_1 c_s_1_1 R_r_1 c_r_0_1 c_r_1_1 c_r_2_1 c_r_3_1 c_r_4_1 c_r_5_1 c_r_6_1 c_r_7_1 c_r_8_1 c_r_9_1 z_r_0_1 z_r_1_1 z_r_2_1 z_r_3_1 z_r_4_1 z_r_5_1 z_r_6_1 z_r_7_1 z_r_8_1 z_r_9_1 hb1 HB1
  obtain ⟨G, hG⟩ : ∃ G, w2.heap.size = G := ⟨_, rfl⟩
  have hGw : w.heap.size + 2 < G := by omega
  go_wp2_with fail
  go_loopw [9, 10] (fun v i wr => ∃ (k : Nat) (ad : Option Addr) (cp : Nat), k ≤ pm ∧ i = .int .i64 k ∧ v = .slice ad k cp ∧ Hid (OwnV wr G (.slice ad k cp) ((incR a c B.picked).take k)) ∧ Hid (∀ j, a ≤ j → j < c → j < k → B.picked.getD j 0 < L) ∧ Hid (Below G w2 wr)) (fun _ i _ => pm - (intOf i).toNat)
  case atStart => exact ⟨0, none, 0, Nat.zero_le _, rfl, rfl, by show OwnV _ _ _ _; rw [List.take_zero]; exact OwnV.nil _ _, fun j _ _ h => by omega, Below.refl _ _⟩
  case round =>
    obtain ⟨k, ad, cp, hk, rfl, rfl, hO, hT, hB⟩ := hrel
    have Rb := R_b_2.below hB.out (by omega)
    have Rs := R_s_2.below hB.out (by omega)
    have Rr := R_r_2.below hB.out (by omega)
    have HBw : Below w.heap.size w wr := HB2.trans (hB.out.mono (by omega))
    have b3 := Rb.cell 3 rfl
    have b9 := Rb.cell 9 rfl
    have s0' := Rs.cell 0 rfl
    have s1' := Rs.cell 1 rfl
    have lb := Rb.lt
    have ls := Rs.lt
    have lr := Rr.lt
    by_cases hlt : k < pm
    · obtain ⟨b, off, z, hpa, hbl, cz, gz, _, gm⟩ := (HIN.out.picked.below HBw).get hlt
      subst hpa
      have hzb : 0 ≤ z ∧ z ≤ 400 := by
        have := HOK.out.picks z gm.out
        have := HOK.out.rooms
        omega
      obtain ⟨hz0, hz1⟩ := hzb
      have i1 : (0 : Int) ≤ (k : Int) := by omega
      have i2 : (k : Int) < (pm : Int) := by omega
      have HLk : Hid (((incR a c B.picked).take k).length = k) := by show _ = _; rw [List.length_take, incR_length, HLP.out]; omega
      have hkl : k < B.picked.length := by rw [HLP.out]; exact hlt
      have hTK : (incR a c B.picked).take k ++ [z + (if a ≤ k ∧ k < c then 1 else 0)] = (incR a c B.picked).take (k + 1) := by
        rw [List.take_succ_eq_append_getElem (by rw [incR_length]; exact hkl)]
        have e := incR_getD (lo := a) (hi := c) hkl
        rw [gz.out] at e
        rw [← e]
        simp [List.getD, incR_length, hkl]
      have HTT := Lib.hid hTK
      have HZZ : Hid (B.picked.getD k 0 = z) := gz.out
      clear hTK hkl gz gm
      rcases (show k < a ∨ (a ≤ k ∧ k < c) ∨ c ≤ k by omega) with hka | ⟨hka, hkc⟩ | hka
      · have q1 : B.fr + (k : Int) < s0 := by have := HS0.out; omega
        have HTK : Hid ((incR a c B.picked).take k ++ [z] = (incR a c B.picked).take (k + 1)) := by
          have h := HTT.out
          rw [if_neg (by omega), Int.add_zero] at h
          exact h
        have HC2 : Hid (∀ j, a ≤ j → j < c → j < k + 1 → B.picked.getD j 0 < L) := fun j h1 h2 h3 => by omega
        go_wp2_with (at_builtin; refine wpList_append_int rfl _ _ _ rfl Try.underlying27 G _ ((incR a c B.picked).take k) rfl (hO.out.alloc _) wr.heap.size 1 _ rfl ((Row.new' wr [_] _ rfl).cell 0 rfl) (by rw [HLk.out]; omega) (by have := hB.out.size; simp; omega) ?_; intro v' w5 hown1 hbl1 hsz1)
        have H7 := Lib.hid (hbl1 w2 ((hB.out).alloc (by have := hB.out.size; omega) _))
        rw [HTK.out] at hown1
        obtain ⟨ad3, cp3, rfl, ho3⟩ := hown1.form2 (k + 1) (by rw [List.length_take, incR_length, HLP.out]; omega)
        have H1 := Lib.hid ho3
        clear hown1 hbl1 ho3
        go_wp2_with fail
        go_roundw
        case rel => exact ⟨k + 1, ad3, cp3, by omega, by go_num, rfl, H1.out, HC2.out, H7.out⟩
        case measure => simp [intOf]; omega
      · have q1 : s0 ≤ B.fr + (k : Int) := by have := HS0.out; omega
        have q2 : B.fr + (k : Int) < s1 := by have := HS1.out; omega
        by_cases hzL : L ≤ z
        · have Rr0 := Lib.hid Rr
          have c_r_0 := Rr.cell 0 rfl
          have z_r_0 := Rr.frozen 0
          have c_r_1 := Rr.cell 1 rfl
          have z_r_1 := Rr.frozen 1
          have c_r_2 := Rr.cell 2 rfl
          have z_r_2 := Rr.frozen 2
          have c_r_3 := Rr.cell 3 rfl
          have z_r_3 := Rr.frozen 3
          have c_r_4 := Rr.cell 4 rfl
          have z_r_4 := Rr.frozen 4
          have c_r_5 := Rr.cell 5 rfl
          have z_r_5 := Rr.frozen 5
          have c_r_6 := Rr.cell 6 rfl
          have z_r_6 := Rr.frozen 6
          have c_r_7 := Rr.cell 7 rfl
          have z_r_7 := Rr.frozen 7
          have c_r_8 := Rr.cell 8 rfl
          have z_r_8 := Rr.frozen 8
          have c_r_9 := Rr.cell 9 rfl
          have z_r_9 := Rr.frozen 9
          go_wp2_with fail
          refine bodyPost_ret (v := .tuple #[.agg #[.int .i64 0, .int .i64 0, .int .i64 0, .int .i64 0, .int .i64 0, .slice none 0 0, .int .i64 0, .int .i64 0, .int .i64 0, .slice none 0 0], .int .i64 31]) (by simp [results, Try.results16, go_sem, lr, c_r_0, c_r_1, c_r_2, c_r_3, c_r_4, c_r_5, c_r_6, c_r_7, c_r_8, c_r_9]) rfl ?_
          refine ⟨by (repeat' (first | (with_reducible exact Below.refl _ _) | (with_reducible assumption) | (with_reducible exact Bw.out (by with_reducible assumption)) | (with_reducible refine bw_alloc ?_ _) | (with_reducible refine bw_step ?_ (by with_reducible assumption)) | (with_reducible refine Below.alloc ?_ ?_ _) | (with_reducible refine Below.drew ?_) | (with_reducible refine below_drewN ?_ _) | (with_reducible refine Below.setCell ?_ ?_ _) | (with_reducible refine below_step ?_ (by with_reducible assumption) ?_) | (with_reducible exact Nat.le_refl _) | omega | (simp; omega) | (simp; done))), Or.inl ⟨fullB_iff.2 ⟨k, by rw [HLP.out]; omega, by rw [HXA.out]; exact hka, by rw [HXC.out]; exact hkc, ?_⟩, rfl⟩⟩
          rw [HZZ.out]; exact hzL
        · have hzL2 : z < L := by omega
          have HTK : Hid ((incR a c B.picked).take k ++ [z + 1] = (incR a c B.picked).take (k + 1)) := by
            have h := HTT.out
            rw [if_pos ⟨hka, hkc⟩] at h
            exact h
          have HC2 : Hid (∀ j, a ≤ j → j < c → j < k + 1 → B.picked.getD j 0 < L) := fun j h1 h2 h3 => by
            rcases Nat.lt_or_ge j k with hjk | hjk
            · exact hT.out j h1 h2 hjk
            · obtain rfl : j = k := by omega
              rw [HZZ.out]; exact hzL2
          clear hzL
          go_wp2_with (at_builtin; refine wpList_append_int rfl _ _ _ rfl Try.underlying27 G _ ((incR a c B.picked).take k) rfl (hO.out.alloc _) wr.heap.size 1 _ rfl ((Row.new' wr [_] _ rfl).cell 0 rfl) (by rw [HLk.out]; omega) (by have := hB.out.size; simp; omega) ?_; intro v' w5 hown1 hbl1 hsz1)
          have H7 := Lib.hid (hbl1 w2 ((hB.out).alloc (by have := hB.out.size; omega) _))
          rw [HTK.out] at hown1
          obtain ⟨ad3, cp3, rfl, ho3⟩ := hown1.form2 (k + 1) (by rw [List.length_take, incR_length, HLP.out]; omega)
          have H1 := Lib.hid ho3
          clear hown1 hbl1 ho3
          go_wp2_with fail
          go_roundw
          case rel => exact ⟨k + 1, ad3, cp3, by omega, by go_num, rfl, H1.out, HC2.out, H7.out⟩
          case measure => simp [intOf]; omega
      · have q1 : s0 ≤ B.fr + (k : Int) := by have := HS0.out; omega
        have q2 : s1 ≤ B.fr + (k : Int) := by have := HS1.out; omega
        have HTK : Hid ((incR a c B.picked).take k ++ [z] = (incR a c B.picked).take (k + 1)) := by
          have h := HTT.out
          rw [if_neg (by omega), Int.add_zero] at h
          exact h
        have HC2 : Hid (∀ j, a ≤ j → j < c → j < k + 1 → B.picked.getD j 0 < L) := fun j h1 h2 h3 => hT.out j h1 h2 (by omega)
        go_wp2_with (at_builtin; refine wpList_append_int rfl _ _ _ rfl Try.underlying27 G _ ((incR a c B.picked).take k) rfl (hO.out.alloc _) wr.heap.size 1 _ rfl ((Row.new' wr [_] _ rfl).cell 0 rfl) (by rw [HLk.out]; omega) (by have := hB.out.size; simp; omega) ?_; intro v' w5 hown1 hbl1 hsz1)
        have H7 := Lib.hid (hbl1 w2 ((hB.out).alloc (by have := hB.out.size; omega) _))
        rw [HTK.out] at hown1
        obtain ⟨ad3, cp3, rfl, ho3⟩ := hown1.form2 (k + 1) (by rw [List.length_take, incR_length, HLP.out]; omega)
        have H1 := Lib.hid ho3
        clear hown1 hbl1 ho3
        go_wp2_with fail
        go_roundw
        case rel => exact ⟨k + 1, ad3, cp3, by omega, by go_num, rfl, H1.out, HC2.out, H7.out⟩
        case measure => simp [intOf]; omega
    · obtain rfl : k = pm := by omega
      have hFull : Hid (fullB L (ixA B s0) (ixA B s1) B.picked = false) := fullB_of (fun i h1 h2 => hT.out i (by rw [HXA.out] at h1; exact h1) (by rw [HXC.out] at h2; exact h2) (by rw [HXC.out] at h2; omega))
      have hO2 : OwnV wr G (.slice ad k cp) (incR a c B.picked) := by
        have h := hO.out
        rwa [List.take_of_length_le (by rw [incR_length, HLP.out]; omega)] at h
      obtain ⟨g, cap, e, hGg, hOI, hcap1, hcap2⟩ := hO2.own (by rw [incR_length, HLP.out]; omega)
      have hlen : (incR a c B.picked).length = k := by rw [incR_length, HLP.out]
      rw [hlen] at e hcap1
      simp only [Value.slice.injEq, true_and] at e
      obtain ⟨rfl, rfl⟩ := e
      have HOG : Hid (OwnI wr g (incR (ixA B s0) (ixA B s1) B.picked)) := by show OwnI _ _ _; rw [HXA.out, HXC.out]; exact hOI
      have z9 := Rb.frozen 9
      have hbg : ¬ (w.heap.size = g) := by omega
      have hrg : ¬ (w.heap.size + 2 = g) := by omega
      clear hO hO2 hOI hT hlen hlt
      go_upto_region 18 with fail
      obtain ⟨w8, hw8⟩ : ∃ w8, wr.setCell ⟨w.heap.size, 9, none⟩ (.slice (some ⟨g, 0, none⟩) k cp) = w8 := ⟨_, rfl⟩
      rw [hw8]
      have R_b_8 : Row w8 w.heap.size [.int .i64 B.id, .int .i64 B.kind, .int .i64 B.rooms, .int .i64 B.fr, .int .i64 B.un, .slice ca cn cc, .int .i64 B.pn, .int .i64 B.pd, .int .i64 B.fee, .slice (some ⟨g, 0, none⟩) k cp] := by
        rw [← hw8]; exact Rb.setAt 9 _ (by simp)
      have R_r_8 : Row w8 (w.heap.size + 2) [.int .i64 0, .int .i64 0, .int .i64 0, .int .i64 0, .int .i64 0, .slice none 0 0, .int .i64 0, .int .i64 0, .int .i64 0, .slice none 0 0] := by
        rw [← hw8]; exact Rr.other (by simp) _
      have HOG8 : Hid (OwnI w8 g (incR (ixA B s0) (ixA B s1) B.picked)) := by
        rw [← hw8]; exact HOG.out.of_block (Below.heap_setCell _ _ _ _ (by simp; omega))
      have HB8 : Below w.heap.size w w8 := by rw [← hw8]; exact HBw.setCell (by simp) _
      clear hw8 Rb Rs Rr HBw HOG b3 b9 s0' s1' lb ls lr z9 hB
      have c_b_0_8 := R_b_8.cell 0 rfl
      have c_b_1_8 := R_b_8.cell 1 rfl
      have c_b_2_8 := R_b_8.cell 2 rfl
      have c_b_3_8 := R_b_8.cell 3 rfl
      have c_b_4_8 := R_b_8.cell 4 rfl
      have c_b_5_8 := R_b_8.cell 5 rfl
      have c_b_6_8 := R_b_8.cell 6 rfl
      have c_b_7_8 := R_b_8.cell 7 rfl
      have c_b_8_8 := R_b_8.cell 8 rfl
      have c_b_9_8 := R_b_8.cell 9 rfl
      have c_r_0_8 := R_r_8.cell 0 rfl
      have z_r_0_8 := R_r_8.frozen 0
      have c_r_1_8 := R_r_8.cell 1 rfl
      have z_r_1_8 := R_r_8.frozen 1
      have c_r_2_8 := R_r_8.cell 2 rfl
      have z_r_2_8 := R_r_8.frozen 2
      have c_r_3_8 := R_r_8.cell 3 rfl
      have z_r_3_8 := R_r_8.frozen 3
      have c_r_4_8 := R_r_8.cell 4 rfl
      have z_r_4_8 := R_r_8.frozen 4
      have c_r_5_8 := R_r_8.cell 5 rfl
      have z_r_5_8 := R_r_8.frozen 5
      have c_r_6_8 := R_r_8.cell 6 rfl
      have z_r_6_8 := R_r_8.frozen 6
      have c_r_7_8 := R_r_8.cell 7 rfl
      have z_r_7_8 := R_r_8.frozen 7
      have c_r_8_8 := R_r_8.cell 8 rfl
      have z_r_8_8 := R_r_8.frozen 8
      have c_r_9_8 := R_r_8.cell 9 rfl
      have z_r_9_8 := R_r_8.frozen 9
      have l_b_8 := R_b_8.lt
      have l_r_8 := R_r_8.lt
      go_wp2_with fail
      refine bodyPost_ret (v := .tuple #[.agg #[.int .i64 B.id, .int .i64 B.kind, .int .i64 B.rooms, .int .i64 B.fr, .int .i64 B.un, .slice ca cn cc, .int .i64 B.pn, .int .i64 B.pd, .int .i64 B.fee, .slice (some ⟨g, 0, none⟩) k cp], .int .i64 0]) (by simp [results, Try.results16, go_sem, l_r_8, c_r_0_8, c_r_1_8, c_r_2_8, c_r_3_8, c_r_4_8, c_r_5_8, c_r_6_8, c_r_7_8, c_r_8_8, c_r_9_8]) rfl ?_
      refine ⟨by (repeat' (first | (with_reducible exact Below.refl _ _) | (with_reducible assumption) | (with_reducible exact Bw.out (by with_reducible assumption)) | (with_reducible refine bw_alloc ?_ _) | (with_reducible refine bw_step ?_ (by with_reducible assumption)) | (with_reducible refine Below.alloc ?_ ?_ _) | (with_reducible refine Below.drew ?_) | (with_reducible refine below_drewN ?_ _) | (with_reducible refine Below.setCell ?_ ?_ _) | (with_reducible refine below_step ?_ (by with_reducible assumption) ?_) | (with_reducible exact Nat.le_refl _) | omega | (simp; omega) | (simp; done))), Or.inr ⟨hFull.out, g, cp, by omega, hcap1, hcap2, HOG8.out.of_block (by simp [World.setCell, Array.getElem?_modify, hrg]), rfl⟩⟩

end Go.Proofs.Ytjmlkdopbiedaaa
