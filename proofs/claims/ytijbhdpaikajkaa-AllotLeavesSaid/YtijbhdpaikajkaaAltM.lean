/-
  AllotLeaves: if a channel got one room more that it wishes, more guests than promised could be walked; and it gets less than another one by two rooms or more only if it gets its whole wish.
  No condition: for every input.
-/
import Derived.Test.YtijbhdpaikajkaaAltL
import Derived.Test.YtijbhdpaikajkaaRow3
import Derived.Deep.RegionHeld3
namespace Go.Proofs.Ytijbhdpaikajkaa
set_option linter.unusedSimpArgs false
set_option linter.unusedVariables false
open Go.ChangeShapes Go.WideShapes Go.ChangeAt Go.RowKit

theorem divA_leaves {zs : List Int} {c : Nat} {b : Int} (h : shIn zs) (hb : 0 ≤ b) {i : Nat} (hi : i < zs.length) (hl : (divA zs c b).getD i 0 < zs.getD i 0) :
    b < topS ((divA zs c b).set i ((divA zs c b).getD i 0 + 1)) c ∧ (∀ k, k < zs.length → (divA zs c b).getD k 0 ≤ (divA zs c b).getD i 0 + 1) ∧ shIn ((divA zs c b).set i ((divA zs c b).getD i 0 + 1)) := by
  obtain ⟨h1, h2⟩ := div_leaves (divA_ok (cut := c) (fun z hz => (h z hz).1) hb) h hb hi hl
  have h3 := divA_le (c := c) (b := b) h hi
  have h4 := h _ (getD_memA hi)
  exact ⟨h1, h2, shIn_set (divA_in h) i (by omega)⟩

set_option maxRecDepth 100000 in
set_option maxHeartbeats 12800000 in
theorem aleaves_walk (n0 n1 : Int) (v : Value) (zs : List Int) (c m : Int) (_ : (Lit.int .i64 n0).wf = true) (_ : (Lit.int .i64 n1).wf = true) (_ : ∀ z ∈ zs, -9223372036854775808 ≤ z ∧ z ≤ 9223372036854775807) (_ : (Lit.int .i64 c).wf = true) (_ : (Lit.int .i64 m).wf = true) (w : World) (hv : SlV w v zs) :
    Calls Try.prog 6 #[.agg #[.int .i64 n0, .int .i64 n1, v], .int .i64 c, .int .i64 m] w fun e w' => e = .returned (.bool true) ∧ Below w.heap.size w w' := by
  obtain ⟨a, cap, rfl, hc1, hc2, K⟩ := hv.c
  obtain ⟨n, hn⟩ : ∃ n, zs.length = n := ⟨_, rfl⟩
  rw [hn] at K hc1 ⊢
  have HL := Lib.hid hn
  clear hv
  cases hu : usA n0 n1 zs c m with
  | false =>
    have HU := Lib.hid hu
    clear hu hn
    go_enter Try.func6, Try.ntmps6
    go_wp2_with fail
    refine (a_head_any _).mono ?_
    rintro e w1 ⟨rfl, hb1⟩
    have R_n_1 : Row w1 (w.heap.size) [.int .i64 n0, .int .i64 n1, .slice a n cap] := by (repeat' (first | (with_reducible assumption) | (with_reducible refine Row.new' _ _ _ (by first | rfl | (simp; done) | omega)) | (with_reducible refine Row.alloc ?_ _) | (with_reducible refine Row.drew ?_) | (with_reducible refine Row.drewN ?_ _) | (with_reducible refine Row.step ?_ (by with_reducible assumption)) | (with_reducible refine Row.set2' ?_ _ _; first | exact ⟨_, _, by with_reducible assumption⟩ | exact ⟨_, _, Row.alloc (by with_reducible assumption) _⟩ | exact ⟨_, _, Row.alloc (Row.alloc (by with_reducible assumption) _) _⟩) | (with_reducible refine Row.other ?_ (by first | omega | (simp; done) | (simp; omega)) _)))
    have c_n_0_1 := R_n_1.cell 0 rfl
    have c_n_1_1 := R_n_1.cell 1 rfl
    have c_n_2_1 := R_n_1.cell 2 rfl
    have l_n_1 := R_n_1.lt
    replace K := K.step (show Below w.heap.size w w1 by (repeat' (first | (with_reducible exact Below.refl _ _) | (with_reducible assumption) | (with_reducible exact Bw.out (by with_reducible assumption)) | (with_reducible refine bw_alloc ?_ _) | (with_reducible refine bw_step ?_ (by with_reducible assumption)) | (with_reducible refine Below.alloc ?_ ?_ _) | (with_reducible refine Below.drew ?_) | (with_reducible refine below_drewN ?_ _) | (with_reducible refine Below.setCell ?_ ?_ _) | (with_reducible refine below_step ?_ (by with_reducible assumption) ?_) | (with_reducible exact Nat.le_refl _) | omega | (simp; omega) | (simp; done))))
    have HB1 : Below w.heap.size w w1 := by (repeat' (first | (with_reducible exact Below.refl _ _) | (with_reducible assumption) | (with_reducible exact Bw.out (by with_reducible assumption)) | (with_reducible refine bw_alloc ?_ _) | (with_reducible refine bw_step ?_ (by with_reducible assumption)) | (with_reducible refine Below.alloc ?_ ?_ _) | (with_reducible refine Below.drew ?_) | (with_reducible refine below_drewN ?_ _) | (with_reducible refine Below.setCell ?_ ?_ _) | (with_reducible refine below_step ?_ (by with_reducible assumption) ?_) | (with_reducible exact Nat.le_refl _) | omega | (simp; omega) | (simp; done)))
    go_wp2_with fail
    refine (usable_any24 n0 n1 c m a n cap zs _ (K.step (by (repeat' (first | (with_reducible exact Below.refl _ _) | (with_reducible assumption) | (with_reducible exact Bw.out (by with_reducible assumption)) | (with_reducible refine bw_alloc ?_ _) | (with_reducible refine bw_step ?_ (by with_reducible assumption)) | (with_reducible refine Below.alloc ?_ ?_ _) | (with_reducible refine Below.drew ?_) | (with_reducible refine below_drewN ?_ _) | (with_reducible refine Below.setCell ?_ ?_ _) | (with_reducible refine below_step ?_ (by with_reducible assumption) ?_) | (with_reducible exact Nat.le_refl _) | omega | (simp; omega) | (simp; done))))) false HU.out).mono ?_
    rintro e w2 ⟨rfl, hb2⟩
    have R_n_2 : Row w2 (w.heap.size) [.int .i64 n0, .int .i64 n1, .slice a n cap] := by (repeat' (first | (with_reducible assumption) | (with_reducible refine Row.new' _ _ _ (by first | rfl | (simp; done) | omega)) | (with_reducible refine Row.alloc ?_ _) | (with_reducible refine Row.drew ?_) | (with_reducible refine Row.drewN ?_ _) | (with_reducible refine Row.step ?_ (by with_reducible assumption)) | (with_reducible refine Row.set2' ?_ _ _; first | exact ⟨_, _, by with_reducible assumption⟩ | exact ⟨_, _, Row.alloc (by with_reducible assumption) _⟩ | exact ⟨_, _, Row.alloc (Row.alloc (by with_reducible assumption) _) _⟩) | (with_reducible refine Row.other ?_ (by first | omega | (simp; done) | (simp; omega)) _)))
    have c_n_0_2 := R_n_2.cell 0 rfl
    have c_n_1_2 := R_n_2.cell 1 rfl
    have c_n_2_2 := R_n_2.cell 2 rfl
    have l_n_2 := R_n_2.lt
    replace K := K.step (show Below w1.heap.size w1 w2 by (repeat' (first | (with_reducible exact Below.refl _ _) | (with_reducible assumption) | (with_reducible exact Bw.out (by with_reducible assumption)) | (with_reducible refine bw_alloc ?_ _) | (with_reducible refine bw_step ?_ (by with_reducible assumption)) | (with_reducible refine Below.alloc ?_ ?_ _) | (with_reducible refine Below.drew ?_) | (with_reducible refine below_drewN ?_ _) | (with_reducible refine Below.setCell ?_ ?_ _) | (with_reducible refine below_step ?_ (by with_reducible assumption) ?_) | (with_reducible exact Nat.le_refl _) | omega | (simp; omega) | (simp; done))))
    have HB2 : Below w.heap.size w w2 := by (repeat' (first | (with_reducible exact Below.refl _ _) | (with_reducible assumption) | (with_reducible exact Bw.out (by with_reducible assumption)) | (with_reducible refine bw_alloc ?_ _) | (with_reducible refine bw_step ?_ (by with_reducible assumption)) | (with_reducible refine Below.alloc ?_ ?_ _) | (with_reducible refine Below.drew ?_) | (with_reducible refine below_drewN ?_ _) | (with_reducible refine Below.setCell ?_ ?_ _) | (with_reducible refine below_step ?_ (by with_reducible assumption) ?_) | (with_reducible exact Nat.le_refl _) | omega | (simp; omega) | (simp; done)))
    clear R_n_1 c_n_0_1 c_n_1_1 c_n_2_1 hb1 HB1
    go_wp2_with fail
    go_ret
    refine ⟨(by first | rfl | exact ret_bool (by first | rfl | (simp; done) | (simp; omega))), ?_⟩
    (repeat' (first | (with_reducible exact Below.refl _ _) | (with_reducible assumption) | (with_reducible exact Bw.out (by with_reducible assumption)) | (with_reducible refine bw_alloc ?_ _) | (with_reducible refine bw_step ?_ (by with_reducible assumption)) | (with_reducible refine Below.alloc ?_ ?_ _) | (with_reducible refine Below.drew ?_) | (with_reducible refine below_drewN ?_ _) | (with_reducible refine Below.setCell ?_ ?_ _) | (with_reducible refine below_step ?_ (by with_reducible assumption) ?_) | (with_reducible exact Nat.le_refl _) | omega | (simp; omega) | (simp; done)))
  | true =>
    have HU := Lib.hid hu
    obtain ⟨cN, rfl, hc30, p1, p2, p3, p4, ⟨p5, p6⟩, p7, hE, hZ⟩ := usA_parts hu
    obtain ⟨Z, hZd⟩ : ∃ Z, divA zs cN (n0 + m - n1) = Z := ⟨_, rfl⟩
    rw [hZd] at hZ
    have hZl : Z.length = n := by rw [← hZd, divA_length, hn]
    have HZ2 : Hid (∀ k, k < n → 0 ≤ Z.getD k 0 ∧ Z.getD k 0 ≤ 400) := fun k hk => by rw [← hZd]; exact divA_in p1 _ (getD_memA (by rw [divA_length]; omega))
    have HZ3 : Hid (∀ k, k < n → Z.getD k 0 < zs.getD k 0 → (∀ j, j < n → Z.getD j 0 ≤ Z.getD k 0 + 1) ∧ waE n0 n1 (Z.set k (Z.getD k 0 + 1)) cN = true ∧ m < wkI n0 n1 (Z.set k (Z.getD k 0 + 1)) cN) := fun k hk hlt => by
      have h1 := divA_leaves (c := cN) (b := n0 + m - n1) p1 (by omega) (i := k) (by omega) (by rw [hZd]; exact hlt)
      rw [hZd] at h1
      refine ⟨fun j hj => h1.2.1 j (by omega), waE_of h1.2.2 (by rw [List.length_set]; omega) p3 p4 hc30, ?_⟩
      unfold wkI
      omega
    have HE := Lib.hid hE
    have HZ := Lib.hid hZ
    have HZL := Lib.hid hZl
    have hn30 : n ≤ 30 := by omega
    clear hu hn hZ hZd hE hZl p1 p2 p3 p4
    go_enter Try.func6, Try.ntmps6
    go_wp2_with fail
    refine (a_head_any _).mono ?_
    rintro e w1 ⟨rfl, hb1⟩
    have R_n_1 : Row w1 (w.heap.size) [.int .i64 n0, .int .i64 n1, .slice a n cap] := by (repeat' (first | (with_reducible assumption) | (with_reducible refine Row.new' _ _ _ (by first | rfl | (simp; done) | omega)) | (with_reducible refine Row.alloc ?_ _) | (with_reducible refine Row.drew ?_) | (with_reducible refine Row.drewN ?_ _) | (with_reducible refine Row.step ?_ (by with_reducible assumption)) | (with_reducible refine Row.set2' ?_ _ _; first | exact ⟨_, _, by with_reducible assumption⟩ | exact ⟨_, _, Row.alloc (by with_reducible assumption) _⟩ | exact ⟨_, _, Row.alloc (Row.alloc (by with_reducible assumption) _) _⟩) | (with_reducible refine Row.other ?_ (by first | omega | (simp; done) | (simp; omega)) _)))
    have c_n_0_1 := R_n_1.cell 0 rfl
    have c_n_1_1 := R_n_1.cell 1 rfl
    have c_n_2_1 := R_n_1.cell 2 rfl
    have l_n_1 := R_n_1.lt
    replace K := K.step (show Below w.heap.size w w1 by (repeat' (first | (with_reducible exact Below.refl _ _) | (with_reducible assumption) | (with_reducible exact Bw.out (by with_reducible assumption)) | (with_reducible refine bw_alloc ?_ _) | (with_reducible refine bw_step ?_ (by with_reducible assumption)) | (with_reducible refine Below.alloc ?_ ?_ _) | (with_reducible refine Below.drew ?_) | (with_reducible refine below_drewN ?_ _) | (with_reducible refine Below.setCell ?_ ?_ _) | (with_reducible refine below_step ?_ (by with_reducible assumption) ?_) | (with_reducible exact Nat.le_refl _) | omega | (simp; omega) | (simp; done))))
    have HB1 : Below w.heap.size w w1 := by (repeat' (first | (with_reducible exact Below.refl _ _) | (with_reducible assumption) | (with_reducible exact Bw.out (by with_reducible assumption)) | (with_reducible refine bw_alloc ?_ _) | (with_reducible refine bw_step ?_ (by with_reducible assumption)) | (with_reducible refine Below.alloc ?_ ?_ _) | (with_reducible refine Below.drew ?_) | (with_reducible refine below_drewN ?_ _) | (with_reducible refine Below.setCell ?_ ?_ _) | (with_reducible refine below_step ?_ (by with_reducible assumption) ?_) | (with_reducible exact Nat.le_refl _) | omega | (simp; omega) | (simp; done)))
    go_wp2_with fail
    refine (usable_any24 n0 n1 cN m a n cap zs _ (K.step (by (repeat' (first | (with_reducible exact Below.refl _ _) | (with_reducible assumption) | (with_reducible exact Bw.out (by with_reducible assumption)) | (with_reducible refine bw_alloc ?_ _) | (with_reducible refine bw_step ?_ (by with_reducible assumption)) | (with_reducible refine Below.alloc ?_ ?_ _) | (with_reducible refine Below.drew ?_) | (with_reducible refine below_drewN ?_ _) | (with_reducible refine Below.setCell ?_ ?_ _) | (with_reducible refine below_step ?_ (by with_reducible assumption) ?_) | (with_reducible exact Nat.le_refl _) | omega | (simp; omega) | (simp; done))))) true HU.out).mono ?_
    rintro e w2 ⟨rfl, hb2⟩
    have R_n_2 : Row w2 (w.heap.size) [.int .i64 n0, .int .i64 n1, .slice a n cap] := by (repeat' (first | (with_reducible assumption) | (with_reducible refine Row.new' _ _ _ (by first | rfl | (simp; done) | omega)) | (with_reducible refine Row.alloc ?_ _) | (with_reducible refine Row.drew ?_) | (with_reducible refine Row.drewN ?_ _) | (with_reducible refine Row.step ?_ (by with_reducible assumption)) | (with_reducible refine Row.set2' ?_ _ _; first | exact ⟨_, _, by with_reducible assumption⟩ | exact ⟨_, _, Row.alloc (by with_reducible assumption) _⟩ | exact ⟨_, _, Row.alloc (Row.alloc (by with_reducible assumption) _) _⟩) | (with_reducible refine Row.other ?_ (by first | omega | (simp; done) | (simp; omega)) _)))
    have c_n_0_2 := R_n_2.cell 0 rfl
    have c_n_1_2 := R_n_2.cell 1 rfl
    have c_n_2_2 := R_n_2.cell 2 rfl
    have l_n_2 := R_n_2.lt
    replace K := K.step (show Below w1.heap.size w1 w2 by (repeat' (first | (with_reducible exact Below.refl _ _) | (with_reducible assumption) | (with_reducible exact Bw.out (by with_reducible assumption)) | (with_reducible refine bw_alloc ?_ _) | (with_reducible refine bw_step ?_ (by with_reducible assumption)) | (with_reducible refine Below.alloc ?_ ?_ _) | (with_reducible refine Below.drew ?_) | (with_reducible refine below_drewN ?_ _) | (with_reducible refine Below.setCell ?_ ?_ _) | (with_reducible refine below_step ?_ (by with_reducible assumption) ?_) | (with_reducible exact Nat.le_refl _) | omega | (simp; omega) | (simp; done))))
    have HB2 : Below w.heap.size w w2 := by (repeat' (first | (with_reducible exact Below.refl _ _) | (with_reducible assumption) | (with_reducible exact Bw.out (by with_reducible assumption)) | (with_reducible refine bw_alloc ?_ _) | (with_reducible refine bw_step ?_ (by with_reducible assumption)) | (with_reducible refine Below.alloc ?_ ?_ _) | (with_reducible refine Below.drew ?_) | (with_reducible refine below_drewN ?_ _) | (with_reducible refine Below.setCell ?_ ?_ _) | (with_reducible refine below_step ?_ (by with_reducible assumption) ?_) | (with_reducible exact Nat.le_refl _) | omega | (simp; omega) | (simp; done)))
    clear R_n_1 c_n_0_1 c_n_1_1 c_n_2_1 hb1 HB1
    go_wp2_with fail
    refine (shares_any24 n0 n1 cN m a n cap zs _ (K.step (by (repeat' (first | (with_reducible exact Below.refl _ _) | (with_reducible assumption) | (with_reducible exact Bw.out (by with_reducible assumption)) | (with_reducible refine bw_alloc ?_ _) | (with_reducible refine bw_step ?_ (by with_reducible assumption)) | (with_reducible refine Below.alloc ?_ ?_ _) | (with_reducible refine Below.drew ?_) | (with_reducible refine below_drewN ?_ _) | (with_reducible refine Below.setCell ?_ ?_ _) | (with_reducible refine below_step ?_ (by with_reducible assumption) ?_) | (with_reducible exact Nat.le_refl _) | omega | (simp; omega) | (simp; done))))) 0 Z HE.out HZ.out n HZL.out true (by simp)).mono ?_
    rintro e w3 ⟨ad, cp, rfl, KZ, hb3⟩
    have R_n_3 : Row w3 (w.heap.size) [.int .i64 n0, .int .i64 n1, .slice a n cap] := by (repeat' (first | (with_reducible assumption) | (with_reducible refine Row.new' _ _ _ (by first | rfl | (simp; done) | omega)) | (with_reducible refine Row.alloc ?_ _) | (with_reducible refine Row.drew ?_) | (with_reducible refine Row.drewN ?_ _) | (with_reducible refine Row.step ?_ (by with_reducible assumption)) | (with_reducible refine Row.set2' ?_ _ _; first | exact ⟨_, _, by with_reducible assumption⟩ | exact ⟨_, _, Row.alloc (by with_reducible assumption) _⟩ | exact ⟨_, _, Row.alloc (Row.alloc (by with_reducible assumption) _) _⟩) | (with_reducible refine Row.other ?_ (by first | omega | (simp; done) | (simp; omega)) _)))
    have c_n_0_3 := R_n_3.cell 0 rfl
    have c_n_1_3 := R_n_3.cell 1 rfl
    have c_n_2_3 := R_n_3.cell 2 rfl
    have l_n_3 := R_n_3.lt
    replace K := K.step (show Below w2.heap.size w2 w3 by (repeat' (first | (with_reducible exact Below.refl _ _) | (with_reducible assumption) | (with_reducible exact Bw.out (by with_reducible assumption)) | (with_reducible refine bw_alloc ?_ _) | (with_reducible refine bw_step ?_ (by with_reducible assumption)) | (with_reducible refine Below.alloc ?_ ?_ _) | (with_reducible refine Below.drew ?_) | (with_reducible refine below_drewN ?_ _) | (with_reducible refine Below.setCell ?_ ?_ _) | (with_reducible refine below_step ?_ (by with_reducible assumption) ?_) | (with_reducible exact Nat.le_refl _) | omega | (simp; omega) | (simp; done))))
    have HB3 : Below w.heap.size w w3 := by (repeat' (first | (with_reducible exact Below.refl _ _) | (with_reducible assumption) | (with_reducible exact Bw.out (by with_reducible assumption)) | (with_reducible refine bw_alloc ?_ _) | (with_reducible refine bw_step ?_ (by with_reducible assumption)) | (with_reducible refine Below.alloc ?_ ?_ _) | (with_reducible refine Below.drew ?_) | (with_reducible refine below_drewN ?_ _) | (with_reducible refine Below.setCell ?_ ?_ _) | (with_reducible refine below_step ?_ (by with_reducible assumption) ?_) | (with_reducible exact Nat.le_refl _) | omega | (simp; omega) | (simp; done)))
    clear R_n_2 c_n_0_2 c_n_1_2 c_n_2_2 hb2 HB2
    have HRN := Lib.hid R_n_3
    have HK3 := Lib.hid K
    have HKZ3 := Lib.hid KZ
    have HB3' := Lib.hid HB3
    clear R_n_3 K KZ HB3
    go_wp2_with fail
    clear hb3 c_n_0_3 c_n_1_3 c_n_2_3
    go_loopw [7, 33] (fun up i wr => ∃ k : Nat, k ≤ n ∧ i = .int .i64 k ∧ up = .bool true ∧ Hid (Below w3.heap.size w3 wr)) (fun _ i _ => n - (intOf i).toNat)
    case atStart => exact ⟨0, Nat.zero_le _, rfl, rfl, Below.refl _ _⟩
    case round =>
      obtain ⟨k, hk, rfl, rfl, hB⟩ := hrel
      have hBw : Below w.heap.size w wr := HB3'.out.trans (hB.out.mono HB3'.out.size)
      by_cases hlt : k < n
      · have HRr := Lib.hid (HRN.out.step hB.out)
        have KR := HK3.out.step hB.out
        have KZR := HKZ3.out.step hB.out
        obtain ⟨b0, off, d, hpa, hbl, cd, gd, _, _⟩ := KZR.sl.get hlt
        obtain ⟨b1, off1, z, hpb, hbl1, cz, gz, _, _⟩ := KR.sl.get hlt
        subst hpa hpb
        have D0 : CellAt wr b0 (off + k) (.int .i64 d) := cd
        have D1 : CellAt wr b1 (off1 + k) (.int .i64 z) := cz
        have D2 : CellAt wr w.heap.size 2 (.slice (some ⟨b1, off1, none⟩) n cap) := HRr.out.cell 2 rfl
        have HD := Lib.hid gd.out
        have HZK := Lib.hid gz.out
        obtain ⟨d0, d1⟩ := HZ2.out k hlt
        rw [HD.out] at d0 d1
        have i1 : (0 : Int) ≤ (k : Int) := by omega
        have i2 : (k : Int) < (n : Int) := by omega
        have HBr := Lib.hid hBw
        have HKZR := Lib.hid KZR
        clear gd gz cd cz hbl hbl1 KR KZR
        by_cases hdz : z ≤ d
        · go_wp2_with fail
          go_region_held3 (fun w' => w'.cell? ⟨b0, off + k, none⟩ = some (.int .i64 d) ∧ w'.cell? ⟨b1, off1 + k, none⟩ = some (.int .i64 z) ∧ w'.cell? ⟨w.heap.size, 2, none⟩ = some (.slice (some ⟨b1, off1, none⟩) n cap) ∧ Bw wr.heap.size wr w')
            (((try go_split_ands); exact ⟨CellAt.out (by (repeat' (first | (with_reducible assumption) | (with_reducible refine CellAt.drew ?_) | (with_reducible refine CellAt.drewN ?_ _) | (with_reducible refine CellAt.alloc ?_ _) | (with_reducible refine CellAt.step ?_ (by with_reducible assumption))))), CellAt.out (by (repeat' (first | (with_reducible assumption) | (with_reducible refine CellAt.drew ?_) | (with_reducible refine CellAt.drewN ?_ _) | (with_reducible refine CellAt.alloc ?_ _) | (with_reducible refine CellAt.step ?_ (by with_reducible assumption))))), CellAt.out (by (repeat' (first | (with_reducible assumption) | (with_reducible refine CellAt.drew ?_) | (with_reducible refine CellAt.drewN ?_ _) | (with_reducible refine CellAt.alloc ?_ _) | (with_reducible refine CellAt.step ?_ (by with_reducible assumption))))), (by (repeat' (first | (with_reducible exact Below.refl _ _) | (with_reducible assumption) | (with_reducible exact Bw.out (by with_reducible assumption)) | (with_reducible refine bw_alloc ?_ _) | (with_reducible refine bw_step ?_ (by with_reducible assumption)) | (with_reducible refine Below.alloc ?_ ?_ _) | (with_reducible refine Below.drew ?_) | (with_reducible refine below_drewN ?_ _) | (with_reducible refine Below.setCell ?_ ?_ _) | (with_reducible refine below_step ?_ (by with_reducible assumption) ?_) | (with_reducible exact Nat.le_refl _) | omega | (simp; omega) | (simp; done))) : Below _ _ _)⟩)) (fail)
          all_goals
            rename_i hH
            obtain ⟨_, _, _, hHB⟩ := hH
            go_wp2_with fail
            go_roundw
            case rel => exact ⟨k + 1, by omega, by go_num, rfl, hB.out.trans (hHB.out.mono hB.out.size)⟩
            case measure => simp [intOf]; omega
        · obtain ⟨h1, h2, h3⟩ := HZ3.out k hlt (by rw [HD.out, HZK.out]; omega)
          have H1 := Lib.hid h1
          obtain ⟨X, hX⟩ : ∃ X, wkI n0 n1 (Z.set k (Z.getD k 0 + 1)) cN = X := ⟨_, rfl⟩
          rw [hX] at h3
          obtain ⟨hX1, hX2⟩ := wk_ok h2 hX
          rw [HD.out] at hX1 hX2
          have HX1 := Lib.hid hX1
          have HX2 := Lib.hid hX2
          clear h1 h2 hX hX1 hX2
          go_wp2_with fail
          go_region_held3 (fun w' => w'.cell? ⟨b0, off + k, none⟩ = some (.int .i64 d) ∧ w'.cell? ⟨b1, off1 + k, none⟩ = some (.int .i64 z) ∧ w'.cell? ⟨w.heap.size, 2, none⟩ = some (.slice (some ⟨b1, off1, none⟩) n cap) ∧ Bw wr.heap.size wr w')
            (((try go_split_ands); exact ⟨CellAt.out (by (repeat' (first | (with_reducible assumption) | (with_reducible refine CellAt.drew ?_) | (with_reducible refine CellAt.drewN ?_ _) | (with_reducible refine CellAt.alloc ?_ _) | (with_reducible refine CellAt.step ?_ (by with_reducible assumption))))), CellAt.out (by (repeat' (first | (with_reducible assumption) | (with_reducible refine CellAt.drew ?_) | (with_reducible refine CellAt.drewN ?_ _) | (with_reducible refine CellAt.alloc ?_ _) | (with_reducible refine CellAt.step ?_ (by with_reducible assumption))))), CellAt.out (by (repeat' (first | (with_reducible assumption) | (with_reducible refine CellAt.drew ?_) | (with_reducible refine CellAt.drewN ?_ _) | (with_reducible refine CellAt.alloc ?_ _) | (with_reducible refine CellAt.step ?_ (by with_reducible assumption))))), (by (repeat' (first | (with_reducible exact Below.refl _ _) | (with_reducible assumption) | (with_reducible exact Bw.out (by with_reducible assumption)) | (with_reducible refine bw_alloc ?_ _) | (with_reducible refine bw_step ?_ (by with_reducible assumption)) | (with_reducible refine Below.alloc ?_ ?_ _) | (with_reducible refine Below.drew ?_) | (with_reducible refine below_drewN ?_ _) | (with_reducible refine Below.setCell ?_ ?_ _) | (with_reducible refine below_step ?_ (by with_reducible assumption) ?_) | (with_reducible exact Nat.le_refl _) | omega | (simp; omega) | (simp; done))) : Below _ _ _)⟩)) (fail)
          rename_i hH
          obtain ⟨_, _, _, hHB⟩ := hH
          generalize wr.drew = wq at hHB ⊢
          have HBq := hHB.out
          have KZq := HKZR.out.step HBq
          have HRq := HRr.out.step HBq
          have hn0 : 0 < n := by omega
          clear hHB D0 D1 D2
          go_upto_region 12 with (at_builtin; refine wpList_append_ints rfl _ _ _ rfl Try.underlying22 wq.heap.size _ [] rfl (OwnV.lit ⟨_, heap_new _ _, rfl⟩ (by simp)) ⟨b0, off, none⟩ n cp Z rfl (KZq.sl.below (by (repeat' (first | (with_reducible exact Below.refl _ _) | (with_reducible assumption) | (with_reducible exact Bw.out (by with_reducible assumption)) | (with_reducible refine bw_alloc ?_ _) | (with_reducible refine bw_step ?_ (by with_reducible assumption)) | (with_reducible refine Below.alloc ?_ ?_ _) | (with_reducible refine Below.drew ?_) | (with_reducible refine below_drewN ?_ _) | (with_reducible refine Below.setCell ?_ ?_ _) | (with_reducible refine below_step ?_ (by with_reducible assumption) ?_) | (with_reducible exact Nat.le_refl _) | omega | (simp; omega) | (simp; done))))) (by simp; omega) (by simp) ?_; intro v' w5 hown5 hbl5 hsz5)
          rw [List.nil_append] at hown5
          obtain ⟨g, cp5, rfl, hg5, hO5, _, _⟩ := hown5.own2 HZL.out hn0
          have hb5 : Below wq.heap.size wq w5 := hbl5 wq (by (repeat' (first | (with_reducible exact Below.refl _ _) | (with_reducible assumption) | (with_reducible exact Bw.out (by with_reducible assumption)) | (with_reducible refine bw_alloc ?_ _) | (with_reducible refine bw_step ?_ (by with_reducible assumption)) | (with_reducible refine Below.alloc ?_ ?_ _) | (with_reducible refine Below.drew ?_) | (with_reducible refine below_drewN ?_ _) | (with_reducible refine Below.setCell ?_ ?_ _) | (with_reducible refine below_step ?_ (by with_reducible assumption) ?_) | (with_reducible exact Nat.le_refl _) | omega | (simp; omega) | (simp; done))))
          have hkz : k < Z.length := by rw [HZL.out]; exact hlt
          have cg := hO5.cell (i := k) hkz
          rw [HD.out] at cg
          have zg := hO5.frozen k
          have lg := hO5.lt
          have w1g := IntWalk.i64_in (d + 1) (by omega)
          have hV6 := hown5.setI (i := k) hkz (d + 1)
          have K6 : SlC (w5.setCell ⟨g, k, none⟩ (.int .i64 (d + 1))) (some ⟨g, 0, none⟩) n cp5 (Z.set k (d + 1)) := ⟨by rw [List.length_set, HZL.out], hV6.sl⟩
          have hB6 : Below wq.heap.size wq (w5.setCell ⟨g, k, none⟩ (.int .i64 (d + 1))) := Below.setCell hb5 hg5 _
          clear hown5 hbl5 hsz5 hO5 hV6 hb5 hkz KZq
          go_upto_region 13 with fail
          generalize w5.setCell ⟨g, k, none⟩ (.int .i64 (d + 1)) = w6 at K6 hB6 ⊢
          have HR6 := HRq.step hB6
          have hB06 : Below w3.heap.size w3 w6 := hB.out.trans ((HBq.trans (hB6.mono HBq.size)).mono hB.out.size)
          have c60 := HR6.cell 0 rfl
          have c61 := HR6.cell 1 rfl
          have HB06 := Lib.hid hB06
          clear cg zg lg hB6 HBq HRq hB06 HR6
          go_wp2_with fail
          refine (Walked_any n0 n1 cN (some ⟨g, 0, none⟩) n cp5 (Z.set k (d + 1)) _ K6 (by omega) X 0 HX1.out HX2.out).mono ?_
          rintro e w7 ⟨rfl, hb7⟩
          have HB7 : Hid (Below w3.heap.size w3 w7) := HB06.out.trans (hb7.mono HB06.out.size)
          clear hb7 K6 c60 c61 HB06
          go_wp2_with fail
          go_loopw [7, 78] (fun up i wr => ∃ q : Nat, q ≤ n ∧ i = .int .i64 q ∧ up = .bool true ∧ Hid (Below w7.heap.size w7 wr)) (fun _ i _ => n - (intOf i).toNat)
          case atStart => exact ⟨0, Nat.zero_le _, rfl, rfl, Below.refl _ _⟩
          case round =>
            obtain ⟨q, hq, rfl, rfl, hB2⟩ := hrel
            have hBq2 : Below w3.heap.size w3 wr := HB7.out.trans (hB2.out.mono HB7.out.size)
            by_cases hltq : q < n
            · have KZ2 := HKZ3.out.step hBq2
              obtain ⟨b2, off2, d2, hpa2, hbl2, cd2, gd2, _, _⟩ := KZ2.sl.get hltq
              obtain ⟨b3, off3, d3, hpa3, hbl3, cd3, gd3, _, _⟩ := KZ2.sl.get hlt
              cases hpa2
              cases hpa3
              have hdd : d3 = d := by rw [← HD.out]; exact gd3.out.symm
              subst hdd
              have D2 : CellAt wr b0 (off + q) (.int .i64 d2) := cd2
              have D3 : CellAt wr b0 (off + k) (.int .i64 d3) := cd3
              have hle : d2 ≤ d3 + 1 := by
                have := H1.out q hltq
                rw [HD.out, gd2.out] at this
                exact this
              have d2b := HZ2.out q hltq
              rw [gd2.out] at d2b
              obtain ⟨d20, d21⟩ := d2b
              have j1 : (0 : Int) ≤ (q : Int) := by omega
              have j2 : (q : Int) < (n : Int) := by omega
              clear gd2 gd3 cd2 cd3 hbl2 hbl3 KZ2
              go_wp2_with fail
              go_region_held3 (fun w' => w'.cell? ⟨b0, off + q, none⟩ = some (.int .i64 d2) ∧ w'.cell? ⟨b0, off + k, none⟩ = some (.int .i64 d3) ∧ Bw wr.heap.size wr w')
                (((try go_split_ands); exact ⟨CellAt.out (by (repeat' (first | (with_reducible assumption) | (with_reducible refine CellAt.drew ?_) | (with_reducible refine CellAt.drewN ?_ _) | (with_reducible refine CellAt.alloc ?_ _) | (with_reducible refine CellAt.step ?_ (by with_reducible assumption))))), CellAt.out (by (repeat' (first | (with_reducible assumption) | (with_reducible refine CellAt.drew ?_) | (with_reducible refine CellAt.drewN ?_ _) | (with_reducible refine CellAt.alloc ?_ _) | (with_reducible refine CellAt.step ?_ (by with_reducible assumption))))), (by (repeat' (first | (with_reducible exact Below.refl _ _) | (with_reducible assumption) | (with_reducible exact Bw.out (by with_reducible assumption)) | (with_reducible refine bw_alloc ?_ _) | (with_reducible refine bw_step ?_ (by with_reducible assumption)) | (with_reducible refine Below.alloc ?_ ?_ _) | (with_reducible refine Below.drew ?_) | (with_reducible refine below_drewN ?_ _) | (with_reducible refine Below.setCell ?_ ?_ _) | (with_reducible refine below_step ?_ (by with_reducible assumption) ?_) | (with_reducible exact Nat.le_refl _) | omega | (simp; omega) | (simp; done))) : Below _ _ _)⟩)) (fail)
              rename_i hH2
              obtain ⟨_, _, hHB2⟩ := hH2
              go_wp2_with fail
              go_roundw
              case rel => exact ⟨q + 1, by omega, by go_num, rfl, hB2.out.trans (hHB2.out.mono hB2.out.size)⟩
              case measure => simp [intOf]; omega
            · have HB9 := Lib.hid hBq2
              go_wp2_with fail
              go_roundw
              case rel => exact ⟨k + 1, by omega, by go_num, rfl, HB9.out⟩
              case measure => simp [intOf]; omega
      · obtain rfl : n = k := by omega
        have HB4 := hBw
        go_wp2_with fail
        go_ret
        exact ⟨rfl, HB4⟩


set_option maxRecDepth 100000 in
theorem allotLeaves_lifted (os : Os) (started : os.Started) (H : Type) (enc : TypeId × Value → H) :
    ReturnsInHanded {} Try.checked os 6 .any (Rows.allotLeavesSpec.pre6 enc Try.prog Try.f6 Rows.allotLeavesRow.domain false) (Rows.allotLeavesSpec.post enc Try.prog Try.f6 false true false false) := by
  refine returnsInHanded_of_change (C := Try.checked) own started (by kernel_rfl) Try.func6
    (ChangeSpec.witness6 (enc := enc) (C := Try.checked) false ⟨#[], #[.agg #[.int .i64 0, .int .i64 0, .slice none 0 0], .int .i64 0, .int .i64 0], []⟩ 8 (by kernel_rfl) (by kernel_rfl) (by kernel_rfl) (by kernel_rfl)) ?_
  intro W base args ds gs before hval0 hW _ _
  have hval : ∀ (j : Nat) t v, Try.f6.params[j]? = some t → args[j]? = some v → Value.okWide Try.prog W .any base t v := hval0
  have hW' := hW
  obtain ⟨p, q, hA0, hV, rfl, hfz, hnd⟩ := hW
  obtain ⟨rfl, rfl⟩ := trodVars_none hV
  have hA : DataW.TrodAll enc Try.prog W 0 (fun _ => true) true Try.f6.params.toList args.toList ds p := hA0
  rw [Try.params6] at hA hval
  obtain ⟨v0, vs0, d0, ds0, p0, q0, hargs, rfl, rfl, h0, r0⟩ := trodAll_cons hA
  obtain ⟨v1, vs1, d1, ds1, p1, q1, rfl, rfl, rfl, h1, r1⟩ := trodAll_cons r0
  obtain ⟨v2, vs2, d2, ds2, p2, q2, rfl, rfl, rfl, h2, r2⟩ := trodAll_cons r1
  obtain ⟨rfl, rfl, rfl⟩ := trodAll_nil r2
  obtain rfl : args = #[v0, v1, v2] := by cases args; simp_all
  obtain ⟨c00, c01, v_n, y00, y01, y02, m0, rfl, rfl, rfl, hy00, hy01, hy02⟩ := Go.Joins.open_agg3 Try.underlying24 (by kernel_rfl) (by kernel_rfl) (hval 0 24 v0 rfl rfl) h0
  obtain ⟨n0, e00, rfl, wn0⟩ := DataW.trod_int Try.underlying3 hy00
  simp only [List.cons.injEq, and_true] at e00
  subst e00
  obtain ⟨n1, e01, rfl, wn1⟩ := DataW.trod_int Try.underlying3 hy01
  simp only [List.cons.injEq, and_true] at e01
  subst e01
  obtain ⟨zs_n, hs_n, wf_n⟩ := slv_of_ints hy02
  obtain ⟨c, rfl, rfl, rfl, wc⟩ := open_int Try.underlying3 (hval 1 3 v1 rfl rfl) h1
  obtain ⟨m, rfl, rfl, rfl, wm⟩ := open_int Try.underlying3 (hval 2 3 v2 rfl rfl) h2
  clear hA0 hval0
  refine (aleaves_walk n0 n1 v_n zs_n c m wn0 wn1 wf_n wc wm W hs_n).mono fun e W' ⟨he, hb⟩ => ?_
  subst he
  exact ⟨_, rfl, law_post (B := 4) laidOut (by rw [Try.params6]; simp only [List.mem_cons, List.not_mem_nil, or_false, forall_eq_or_imp, forall_eq]; first | exact readable_allotLeaves | (repeat' apply And.intro) <;> first | exact of_decide_eq_true (by kernel_rfl) | kernel_rfl) rfl Try.underlying4 rfl rfl hW' hb⟩

theorem allotLeaves_over : Rows.allotLeavesRow.holds Try.pinned (OpenSpec.ofChange Rows.allotLeavesSpec) :=
  OpenClaim.holds_of_wide 6 Try.f6 rfl rfl rfl rfl rfl rfl rfl ⟨rfl, rfl, rfl, rfl, rfl⟩ rfl rfl rfl rfl rfl (by kernel_rfl) Try.func6 (by kernel_rfl)
    (of_decide_eq_true (by kernel_rfl)) (by unfold Func.isWrapper; first | (rw [if_pos (by decide +kernel)]; kernel_rfl) | (rw [if_neg (by decide +kernel)]; exact ⟨rfl, rfl⟩))
    (fun os started H enc _ => allotLeaves_lifted os started H enc)

theorem allotLeaves_holds : Rows.AllotLeavesSaid := allotLeaves_over
#print axioms allotLeaves_holds
end Go.Proofs.Ytijbhdpaikajkaa
