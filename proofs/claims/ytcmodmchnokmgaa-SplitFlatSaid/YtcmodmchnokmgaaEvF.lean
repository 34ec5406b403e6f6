/-
 The walks of package rate: the value of an expression, by induction.
-/
import Derived.Test.YtcmodmchnokmgaaEvE
import Derived.Deep.DeepCutAuto
namespace Go.Proofs.Ytcmodmchnokmgaa
set_option linter.unusedSimpArgs false
set_option linter.unusedVariables false
open Go.RowKit
theorem zero_fnR (w : World) : (zeroValue 153).run Try.prog w = .ok .nilFunc w := by kernel_rfl
/-- The cells that the walk reads: the computer's, the expression's, those of its k-th kid. -/
def RdV (w0 : Nat) (v0 v1 v2 v3 : Int) (r : Nat) (op n : Int) (b off m cap o o1 o2 : Nat) (y : Ex) (W : World) : Prop :=
 (W.cell? ⟨w0, 0, none⟩ = some (.int .i64 v0) ∧ W.cell? ⟨w0, 1, none⟩ = some (.int .i64 v1) ∧ W.cell? ⟨w0, 2, none⟩ = some (.int .i64 v2) ∧ W.cell? ⟨w0, 3, none⟩ = some (.int .i64 v3) ∧ W.cell? ⟨w0, 4, none⟩ = some (.map (some r))) ∧
 (W.cell? ⟨w0 + 1, 0, none⟩ = some (.int .i64 op) ∧ W.cell? ⟨w0 + 1, 1, none⟩ = some (.int .i64 n) ∧ W.cell? ⟨w0 + 1, 2, none⟩ = some (.slice (some ⟨b, off, none⟩) m cap)) ∧
 (W.cell? ⟨b, o, none⟩ = some (.int .i64 y.op) ∧ W.cell? ⟨b, o1, none⟩ = some (.int .i64 y.n) ∧ W.cell? ⟨b, o2, none⟩ = some (.slice y.at' y.ks.length y.cap))
set_option maxRecDepth 100000 in
set_option maxHeartbeats 6400000 in
theorem ev_all (v0 v1 v2 v3 : Int) : ∀ (N : Nat) (x : Ex), x.size ≤ N → ∀ (w : World) (r : Nat), x.In w → x.ok = true → OpsV w r →
  Calls Try.prog 101 #[.agg #[.int .i64 v0, .int .i64 v1, .int .i64 v2, .int .i64 v3, .map (some r)], x.val] w fun e w' => e = vE (x.ev (var4 v0 v1 v2 v3)) ∧ Below w.heap.size w w' := by
 intro N
 induction N with
 | zero => intro x hx; have := x.size_pos; omega
 | succ N ih =>
  intro x hx w r hin hok hops
  by_cases h3 : x.op ≤ 3
  ·
   exact ev_leaf x v0 v1 v2 v3 w r hok h3
  have HIN := Lib.hid hin
  have HX := Lib.hid hx
  have HOK := Lib.hid hok
  have HOP := Lib.hid hops
  have HNB := Lib.hid (nodeB_op (ok_node hok).1)
  have hm3 := nodeB_kids (ok_node hok).1
  obtain ⟨R, hR⟩ : ∃ R, x.ev (var4 v0 v1 v2 v3) = R := ⟨_, rfl⟩
  rw [hR]
  have HR := Lib.hid hR
  obtain ⟨EN, hEN⟩ : ∃ e, vE R = e := ⟨_, rfl⟩
  rw [hEN]
  have HEN := Lib.hid hEN
  clear hEN
  have HXO := Lib.hid (show 4 ≤ x.op by omega)
  clear hR hin hx hok hops
  obtain ⟨op, hop⟩ : ∃ op, x.op = op := ⟨_, rfl⟩
  obtain ⟨n, hn⟩ : ∃ n, x.n = n := ⟨_, rfl⟩
  obtain ⟨ad, had⟩ : ∃ ad, x.at' = ad := ⟨_, rfl⟩
  obtain ⟨m, hm⟩ : ∃ m, x.ks.length = m := ⟨_, rfl⟩
  obtain ⟨cap, hcap⟩ : ∃ cap, x.cap = cap := ⟨_, rfl⟩
  rw [show x.val = .agg #[.int .i64 x.op, .int .i64 x.n, .slice x.at' x.ks.length x.cap] from rfl, hop, hn, had, hm, hcap]
  rw [hm] at hm3
  have HE := Lib.hid (And.intro hop (And.intro hn (And.intro had hm)))
  clear hop hn had hm hcap
  obtain ⟨o1, o2, o3⟩ := HNB.out
  obtain ⟨k1, k2, k3⟩ := kidN_ge HXO.out o2
  rw [HE.out.1] at o1 o2 o3 k1 k2 k3 h3
  rw [HE.out.2.2.2] at o3
  rw [← o3] at k1 k2 k3
  clear o3
  have hm0 : 0 < m := by omega
  have n1 : (op == 1) = false := by simp; omega
  have n2 : (op == 2) = false := by simp; omega
  have n3 : (op == 3) = false := by simp; omega
  obtain ⟨y, b, off, hy, hyin, e, hlb, c0, c1, c2⟩ := HIN.out.kidAt (Below.refl _ w) (k := 0) (by have := HE.out.2.2.2; omega)
  have hh := HE.out.2.2.1
  rw [e] at hh
  subst hh
  have HYS : Hid (y.size ≤ N) := by
   show _ ≤ _
   have := szL_mem hy.out
   have h2 := HX.out
   rw [x.size_eq] at h2
   omega
  have HYI := Lib.hid hyin
  have HYO := Lib.hid (ok_kid HOK.out hy.out)
  obtain ⟨ya, yb, ye, hyv⟩ : ∃ ya yb ye, y.ev (var4 v0 v1 v2 v3) = (ya, yb, ye) := ⟨_, _, _, rfl⟩
  have HYV := Lib.hid hyv
  rw [show off + 0 * 3 = off by omega] at c0 c1 c2
  clear hyin e hyv
  go_enter Try.func101, Try.ntmps101
  go_upto_region 7 with fail
  have HB0 := Below.refl w.heap.size w
  obtain ⟨w1, hw1⟩ : ∃ x, World.alloc (World.alloc (World.alloc w (.cells #[.int .i64 v0, .int .i64 v1, .int .i64 v2, .int .i64 v3, .map (some r)] 142)) (.cells #[.int .i64 op, .int .i64 n, .slice (some ⟨b, off, none⟩) m cap] 24)) (.cells #[.int .i64 0, .int .i64 0] 28) = x := ⟨_, rfl⟩
  rw [hw1]
  have hb1 : Below w.heap.size w w1 := by rw [← hw1]; (repeat' (first | (with_reducible first | exact Below.refl _ _ | assumption | exact Bw.out (by assumption) | refine bw_alloc ?_ _ | refine bw_step ?_ (by assumption) | refine Below.alloc ?_ ?_ _ | refine Below.drew ?_ | refine below_drewN ?_ _ | refine Below.setCell ?_ ?_ _ | refine below_step ?_ (by assumption) ?_ | exact Nat.le_refl _) | omega | (simp; omega) | (simp; done)))
  have R_c_1 : Row w1 (w.heap.size) [.int .i64 v0, .int .i64 v1, .int .i64 v2, .int .i64 v3, .map (some r)] := by rw [← hw1]; (repeat' (first | (with_reducible assumption) | (with_reducible refine Row.new' _ _ _ (by first | rfl | (simp; done) | omega)) | (with_reducible first | refine Row.alloc ?_ _ | refine Row.drew ?_ | refine Row.step ?_ (by assumption) | refine Row.drewN ?_ _) | (with_reducible refine Row.set2' ?_ _ _; first | exact ⟨_, _, by assumption⟩ | exact ⟨_, _, Row.alloc (by assumption) _⟩) | (with_reducible refine Row.other ?_ (by first | omega | (simp; omega)) _)))
  have c_c_0_1 := R_c_1.cell 0 rfl
  have c_c_1_1 := R_c_1.cell 1 rfl
  have c_c_2_1 := R_c_1.cell 2 rfl
  have c_c_3_1 := R_c_1.cell 3 rfl
  have c_c_4_1 := R_c_1.cell 4 rfl
  have l_c_1 := R_c_1.lt
  have R_e_1 : Row w1 (w.heap.size + 1) [.int .i64 op, .int .i64 n, .slice (some ⟨b, off, none⟩) m cap] := by rw [← hw1]; (repeat' (first | (with_reducible assumption) | (with_reducible refine Row.new' _ _ _ (by first | rfl | (simp; done) | omega)) | (with_reducible first | refine Row.alloc ?_ _ | refine Row.drew ?_ | refine Row.step ?_ (by assumption) | refine Row.drewN ?_ _) | (with_reducible refine Row.set2' ?_ _ _; first | exact ⟨_, _, by assumption⟩ | exact ⟨_, _, Row.alloc (by assumption) _⟩) | (with_reducible refine Row.other ?_ (by first | omega | (simp; omega)) _)))
  have c_e_0_1 := R_e_1.cell 0 rfl
  have c_e_1_1 := R_e_1.cell 1 rfl
  have c_e_2_1 := R_e_1.cell 2 rfl
  have l_e_1 := R_e_1.lt
  have R_o_1 : Row w1 (w.heap.size + 1 + 1) [.int .i64 (0), .int .i64 (0)] := by rw [← hw1]; (repeat' (first | (with_reducible assumption) | (with_reducible refine Row.new' _ _ _ (by first | rfl | (simp; done) | omega)) | (with_reducible first | refine Row.alloc ?_ _ | refine Row.drew ?_ | refine Row.step ?_ (by assumption) | refine Row.drewN ?_ _) | (with_reducible refine Row.set2' ?_ _ _; first | exact ⟨_, _, by assumption⟩ | exact ⟨_, _, Row.alloc (by assumption) _⟩) | (with_reducible refine Row.other ?_ (by first | omega | (simp; omega)) _)))
  have c_o_0_1 := R_o_1.cell 0 rfl
  have c_o_1_1 := R_o_1.cell 1 rfl
  have z_o_0_1 := R_o_1.frozen 0
  have z_o_1_1 := R_o_1.frozen 1
  have l_o_1 := R_o_1.lt
  have HB1 := HB0.trans (hb1.mono HB0.size)
  have hs1 := hb1.size
  have hz1 := HB1.size
  have HS : Hid (∀ W, Below w1.heap.size w1 W → RdV w.heap.size v0 v1 v2 v3 r op n b off m cap off (off + 1) (off + 2) y W) := fun W h =>
   ⟨⟨(R_c_1.step h).cell 0 rfl, (R_c_1.step h).cell 1 rfl, (R_c_1.step h).cell 2 rfl, (R_c_1.step h).cell 3 rfl, (R_c_1.step h).cell 4 rfl⟩, ⟨(R_e_1.step h).cell 0 rfl, (R_e_1.step h).cell 1 rfl, (R_e_1.step h).cell 2 rfl⟩,
    ((HB1.trans (h.mono HB1.size)).cell (p := ⟨b, off, none⟩) hlb).trans c0, ((HB1.trans (h.mono HB1.size)).cell (p := ⟨b, off + 1, none⟩) hlb).trans c1, ((HB1.trans (h.mono HB1.size)).cell (p := ⟨b, off + 2, none⟩) hlb).trans c2⟩
  have HOP1 := Lib.hid (HOP.out.step HB1)
  have HYI1 := Lib.hid (HYI.out.step HB1)
  clear c0 c1 c2
  by_cases hye : ye = 0
  ·
   subst hye
   go_cut [5] from 29 to 34 (fun v wx => ∃ A : Nat, v = .pointer (some ⟨A, 0, none⟩) ∧ Row wx A [.int .i64 ya, .int .i64 yb] ∧ Below w1.heap.size w1 wx)
   case first =>
    refine AnyJ.beginP (RdV w.heap.size v0 v1 v2 v3 r op n b off m cap off (off + 1) (off + 2) y) (fun j => decide (j ≤ 6)) (by kernel_rfl) (HS.out _ (Below.refl _ _).drew) (fun hS => ?_)
    obtain ⟨w2, hw2⟩ : ∃ X, World.drew w1 = X := ⟨_, rfl⟩
    have hb2 : Below w1.heap.size w1 w2 := by rw [← hw2]; exact (Below.refl _ _).drew
    rw [hw2] at hS ⊢
    clear hw2
    refine AnyJ.takeD (i := 0) (d := some 29) (v := ?_) rfl (by kernel_rfl) (by kernel_rfl) (by kernel_rfl) (by kernel_rfl) (by kernel_rfl) (fun _ _ _ h => h) (Or.inl ⟨by kernel_rfl, ?_⟩) hS ?_
    rotate_left
    ·
     intro w' hS
     obtain ⟨⟨sF0, sF1, sF2, sF3, sF4⟩, ⟨sE0, sE1, sE2⟩, sK0, sK1, sK2⟩ := hS
     go_simp
     try with_reducible rfl
    refine AnyJ.takeD (i := 1) (d := some 30) (v := ?_) rfl (by kernel_rfl) (by kernel_rfl) (by kernel_rfl) (by kernel_rfl) (by kernel_rfl) (fun _ _ _ h => h) (Or.inl ⟨by kernel_rfl, ?_⟩) hS ?_
    rotate_left
    ·
     intro w' hS
     obtain ⟨⟨sF0, sF1, sF2, sF3, sF4⟩, ⟨sE0, sE1, sE2⟩, sK0, sK1, sK2⟩ := hS
     go_simp
     try with_reducible rfl
    refine AnyJ.takeD (i := 2) (d := some 31) (v := ?_) rfl (by kernel_rfl) (by kernel_rfl) (by kernel_rfl) (by kernel_rfl) (by kernel_rfl) (fun _ _ _ h => h) (Or.inl ⟨by kernel_rfl, ?_⟩) hS ?_
    rotate_left
    ·
     intro w' hS
     obtain ⟨⟨sF0, sF1, sF2, sF3, sF4⟩, ⟨sE0, sE1, sE2⟩, sK0, sK1, sK2⟩ := hS
     go_simp
     try with_reducible rfl
    refine AnyJ.takeD (i := 3) (d := some 32) (v := ?_) rfl (by kernel_rfl) (by kernel_rfl) (by kernel_rfl) (by kernel_rfl) (by kernel_rfl) (fun _ _ _ h => h) (Or.inl ⟨by kernel_rfl, ?_⟩) hS ?_
    rotate_left
    ·
     intro w' hS
     obtain ⟨⟨sF0, sF1, sF2, sF3, sF4⟩, ⟨sE0, sE1, sE2⟩, sK0, sK1, sK2⟩ := hS
     go_simp
     try with_reducible rfl
    refine AnyJ.takeD (i := 4) (d := some 33) (v := ?_) rfl (by kernel_rfl) (by kernel_rfl) (by kernel_rfl) (by kernel_rfl) (by kernel_rfl) (fun _ _ _ h => h) (Or.inl ⟨by kernel_rfl, ?_⟩) hS ?_
    rotate_left
    ·
     intro w' hS
     obtain ⟨⟨sF0, sF1, sF2, sF3, sF4⟩, ⟨sE0, sE1, sE2⟩, sK0, sK1, sK2⟩ := hS
     go_simp
     try with_reducible rfl
    clear hS
    refine AnyJ.two (i := 5) (j := 6) (by kernel_rfl) rfl rfl (fun Kz hKz => ?_) (fun Kz hKz => ?_)
    ·
     go_simp
     refine (ih y HYS.out w2 r (HYI1.out.step hb2) HYO.out (HOP1.out.step hb2)).mono ?_
     rintro e w3 ⟨rfl, hb3⟩
     have hb13 := hb2.trans (hb3.mono hb2.size)
     rw [HYV.out, vE_ok rfl]
     refine hKz _ _ (fun _ => HS.out _ hb13) ?_
     clear hKz Kz hb3
     refine AnyJ.one (i := 6) (by kernel_rfl) rfl (fun Kz hKz => ?_)
     go_simp
     obtain ⟨w4, hw4⟩ : ∃ X, World.alloc w3 (.cells #[.int .i64 0, .int .i64 0] 28) = X := ⟨_, rfl⟩
     have hb34 : Below w3.heap.size w3 w4 := by rw [← hw4]; exact (Below.refl _ _).alloc (Nat.le_refl _) _
     have RA : Row w4 w3.heap.size [.int .i64 0, .int .i64 0] := by rw [← hw4]; exact Row.new' _ _ _ rfl
     rw [hw4]
     clear hw4
     have hb14 := hb13.trans (hb34.mono hb13.size)
     have hA1 := hb13.size
     have a0 := RA.cell 0 rfl
     have a1 := RA.cell 1 rfl
     have f0 := RA.frozen 0
     have f1 := RA.frozen 1
     have fl := RA.lt
     refine hKz _ _ (fun _ => HS.out _ hb14) ?_
     clear hKz Kz
     refine AnyJ.one (i := 7) (by kernel_rfl) rfl (fun Kz hKz => ?_)
     go_simp
     refine hKz _ _ (fun h => by cases h) ?_
     clear hKz Kz
     refine AnyJ.done (by kernel_rfl) ?_ _
     try simp only [Act.put, List.setIfInBounds_toArray, List.set_cons_zero, List.set_cons_succ]
     clear a0 a1 f0 f1 fl
     go_wp2_with fail
     go_meet
     exact ⟨_, rfl, RA.set2 _ _, (hb14.setCell (hp := hA1) (p := ⟨w3.heap.size, 0, none⟩) _).setCell (hp := hA1) (p := ⟨w3.heap.size, 1, none⟩) _⟩
    ·
     go_simp
     obtain ⟨w3, hw3⟩ : ∃ X, World.alloc w2 (.cells #[.int .i64 0, .int .i64 0] 28) = X := ⟨_, rfl⟩
     have hb23 : Below w2.heap.size w2 w3 := by rw [← hw3]; exact (Below.refl _ _).alloc (Nat.le_refl _) _
     have RA3 : Row w3 w2.heap.size [.int .i64 0, .int .i64 0] := by rw [← hw3]; exact Row.new' _ _ _ rfl
     rw [hw3]
     clear hw3
     have hb13 := hb2.trans (hb23.mono hb2.size)
     refine hKz _ _ (fun _ => HS.out _ hb13) ?_
     clear hKz Kz
     refine AnyJ.one (i := 5) (by kernel_rfl) rfl (fun Kz hKz => ?_)
     go_simp
     refine (ih y HYS.out w3 r (HYI1.out.step hb13) HYO.out (HOP1.out.step hb13)).mono ?_
     rintro e w4 ⟨rfl, hb4⟩
     have RA := RA3.step hb4
     have hb14 := hb13.trans (hb4.mono hb13.size)
     rw [HYV.out, vE_ok rfl]
     have hA1 := hb2.size
     clear RA3
     have a0 := RA.cell 0 rfl
     have a1 := RA.cell 1 rfl
     have f0 := RA.frozen 0
     have f1 := RA.frozen 1
     have fl := RA.lt
     refine hKz _ _ (fun _ => HS.out _ hb14) ?_
     clear hKz Kz
     refine AnyJ.one (i := 7) (by kernel_rfl) rfl (fun Kz hKz => ?_)
     go_simp
     refine hKz _ _ (fun h => by cases h) ?_
     clear hKz Kz
     refine AnyJ.done (by kernel_rfl) ?_ _
     try simp only [Act.put, List.setIfInBounds_toArray, List.set_cons_zero, List.set_cons_succ]
     clear a0 a1 f0 f1 fl
     go_wp2_with fail
     go_meet
     exact ⟨_, rfl, RA.set2 _ _, (hb14.setCell (hp := hA1) (p := ⟨w2.heap.size, 0, none⟩) _).setCell (hp := hA1) (p := ⟨w2.heap.size, 1, none⟩) _⟩
   case' rest =>
    obtain ⟨A, rfl, RA, hb2⟩ := hcut
    obtain ⟨w2, hw2⟩ : ∃ wd, wd = wc := ⟨_, rfl⟩
    subst hw2
    have HOP2 := Lib.hid (HOP1.out.step hb2)
    have R_c_2 : Row w2 (w.heap.size) [.int .i64 v0, .int .i64 v1, .int .i64 v2, .int .i64 v3, .map (some r)] := by (repeat' (first | (with_reducible assumption) | (with_reducible refine Row.new' _ _ _ (by first | rfl | (simp; done) | omega)) | (with_reducible first | refine Row.alloc ?_ _ | refine Row.drew ?_ | refine Row.step ?_ (by assumption) | refine Row.drewN ?_ _) | (with_reducible refine Row.set2' ?_ _ _; first | exact ⟨_, _, by assumption⟩ | exact ⟨_, _, Row.alloc (by assumption) _⟩) | (with_reducible refine Row.other ?_ (by first | omega | (simp; omega)) _)))
    have c_c_0_2 := R_c_2.cell 0 rfl
    have c_c_1_2 := R_c_2.cell 1 rfl
    have c_c_2_2 := R_c_2.cell 2 rfl
    have c_c_3_2 := R_c_2.cell 3 rfl
    have c_c_4_2 := R_c_2.cell 4 rfl
    have l_c_2 := R_c_2.lt
    have R_e_2 : Row w2 (w.heap.size + 1) [.int .i64 op, .int .i64 n, .slice (some ⟨b, off, none⟩) m cap] := by (repeat' (first | (with_reducible assumption) | (with_reducible refine Row.new' _ _ _ (by first | rfl | (simp; done) | omega)) | (with_reducible first | refine Row.alloc ?_ _ | refine Row.drew ?_ | refine Row.step ?_ (by assumption) | refine Row.drewN ?_ _) | (with_reducible refine Row.set2' ?_ _ _; first | exact ⟨_, _, by assumption⟩ | exact ⟨_, _, Row.alloc (by assumption) _⟩) | (with_reducible refine Row.other ?_ (by first | omega | (simp; omega)) _)))
    have c_e_0_2 := R_e_2.cell 0 rfl
    have c_e_1_2 := R_e_2.cell 1 rfl
    have c_e_2_2 := R_e_2.cell 2 rfl
    have l_e_2 := R_e_2.lt
    have R_o_2 : Row w2 (w.heap.size + 1 + 1) [.int .i64 (0), .int .i64 (0)] := by (repeat' (first | (with_reducible assumption) | (with_reducible refine Row.new' _ _ _ (by first | rfl | (simp; done) | omega)) | (with_reducible first | refine Row.alloc ?_ _ | refine Row.drew ?_ | refine Row.step ?_ (by assumption) | refine Row.drewN ?_ _) | (with_reducible refine Row.set2' ?_ _ _; first | exact ⟨_, _, by assumption⟩ | exact ⟨_, _, Row.alloc (by assumption) _⟩) | (with_reducible refine Row.other ?_ (by first | omega | (simp; omega)) _)))
    have c_o_0_2 := R_o_2.cell 0 rfl
    have c_o_1_2 := R_o_2.cell 1 rfl
    have z_o_0_2 := R_o_2.frozen 0
    have z_o_1_2 := R_o_2.frozen 1
    have l_o_2 := R_o_2.lt
    have HB2 : Below w.heap.size w w2 := by (repeat' (first | (with_reducible first | exact Below.refl _ _ | assumption | exact Bw.out (by assumption) | refine bw_alloc ?_ _ | refine bw_step ?_ (by assumption) | refine Below.alloc ?_ ?_ _ | refine Below.drew ?_ | refine below_drewN ?_ _ | refine Below.setCell ?_ ?_ _ | refine below_step ?_ (by assumption) ?_ | exact Nat.le_refl _) | omega | (simp; omega) | (simp; done)))
    clear R_c_1 c_c_0_1 c_c_1_1 c_c_2_1 c_c_3_1 c_c_4_1 R_e_1 c_e_0_1 c_e_1_1 c_e_2_1 R_o_1 c_o_0_1 c_o_1_1 z_o_0_1 z_o_1_1 hb1 hw1
    have ca0 := RA.cell 0 rfl
    have ca1 := RA.cell 1 rfl
    have cal := RA.lt
    replace HB2 := Lib.hid HB2
    by_cases h15 : op = 15
    ·
     have n15 : (op == 15) = true := by simpa using h15
     have hRv : EN = .returned (.agg #[.int .i64 (trI (ya == 0)), .int .i64 1]) := by rw [← HEN.out, ← HR.out, ev_not (HE.out.1.trans h15) hy.out (by rw [HYV.out]), HYV.out]; rfl
     subst hRv
     clear h15
     replace HB2 := HB2.out
     go_wp2_with fail
     refine (truth_any (ya == 0) _).mono ?_
     rintro e w3 ⟨rfl, hb3⟩
     have R_c_3 : Row w3 (w.heap.size) [.int .i64 v0, .int .i64 v1, .int .i64 v2, .int .i64 v3, .map (some r)] := by (repeat' (first | (with_reducible assumption) | (with_reducible refine Row.new' _ _ _ (by first | rfl | (simp; done) | omega)) | (with_reducible first | refine Row.alloc ?_ _ | refine Row.drew ?_ | refine Row.step ?_ (by assumption) | refine Row.drewN ?_ _) | (with_reducible refine Row.set2' ?_ _ _; first | exact ⟨_, _, by assumption⟩ | exact ⟨_, _, Row.alloc (by assumption) _⟩) | (with_reducible refine Row.other ?_ (by first | omega | (simp; omega)) _)))
     have c_c_0_3 := R_c_3.cell 0 rfl
     have c_c_1_3 := R_c_3.cell 1 rfl
     have c_c_2_3 := R_c_3.cell 2 rfl
     have c_c_3_3 := R_c_3.cell 3 rfl
     have c_c_4_3 := R_c_3.cell 4 rfl
     have l_c_3 := R_c_3.lt
     have R_e_3 : Row w3 (w.heap.size + 1) [.int .i64 op, .int .i64 n, .slice (some ⟨b, off, none⟩) m cap] := by (repeat' (first | (with_reducible assumption) | (with_reducible refine Row.new' _ _ _ (by first | rfl | (simp; done) | omega)) | (with_reducible first | refine Row.alloc ?_ _ | refine Row.drew ?_ | refine Row.step ?_ (by assumption) | refine Row.drewN ?_ _) | (with_reducible refine Row.set2' ?_ _ _; first | exact ⟨_, _, by assumption⟩ | exact ⟨_, _, Row.alloc (by assumption) _⟩) | (with_reducible refine Row.other ?_ (by first | omega | (simp; omega)) _)))
     have c_e_0_3 := R_e_3.cell 0 rfl
     have c_e_1_3 := R_e_3.cell 1 rfl
     have c_e_2_3 := R_e_3.cell 2 rfl
     have l_e_3 := R_e_3.lt
     have R_o_3 : Row w3 (w.heap.size + 1 + 1) [.int .i64 (0), .int .i64 (0)] := by (repeat' (first | (with_reducible assumption) | (with_reducible refine Row.new' _ _ _ (by first | rfl | (simp; done) | omega)) | (with_reducible first | refine Row.alloc ?_ _ | refine Row.drew ?_ | refine Row.step ?_ (by assumption) | refine Row.drewN ?_ _) | (with_reducible refine Row.set2' ?_ _ _; first | exact ⟨_, _, by assumption⟩ | exact ⟨_, _, Row.alloc (by assumption) _⟩) | (with_reducible refine Row.other ?_ (by first | omega | (simp; omega)) _)))
     have c_o_0_3 := R_o_3.cell 0 rfl
     have c_o_1_3 := R_o_3.cell 1 rfl
     have z_o_0_3 := R_o_3.frozen 0
     have z_o_1_3 := R_o_3.frozen 1
     have l_o_3 := R_o_3.lt
     have R_a_3 : Row w3 (A) [.int .i64 (ya), .int .i64 (yb)] := by (repeat' (first | (with_reducible assumption) | (with_reducible refine Row.new' _ _ _ (by first | rfl | (simp; done) | omega)) | (with_reducible first | refine Row.alloc ?_ _ | refine Row.drew ?_ | refine Row.step ?_ (by assumption) | refine Row.drewN ?_ _) | (with_reducible refine Row.set2' ?_ _ _; first | exact ⟨_, _, by assumption⟩ | exact ⟨_, _, Row.alloc (by assumption) _⟩) | (with_reducible refine Row.other ?_ (by first | omega | (simp; omega)) _)))
     have c_a_0_3 := R_a_3.cell 0 rfl
     have c_a_1_3 := R_a_3.cell 1 rfl
     have l_a_3 := R_a_3.lt
     have HB3 : Below w.heap.size w w3 := by (repeat' (first | (with_reducible first | exact Below.refl _ _ | assumption | exact Bw.out (by assumption) | refine bw_alloc ?_ _ | refine bw_step ?_ (by assumption) | refine Below.alloc ?_ ?_ _ | refine Below.drew ?_ | refine below_drewN ?_ _ | refine Below.setCell ?_ ?_ _ | refine below_step ?_ (by assumption) ?_ | exact Nat.le_refl _) | omega | (simp; omega) | (simp; done)))
     clear R_c_2 c_c_0_2 c_c_1_2 c_c_2_2 c_c_3_2 c_c_4_2 R_e_2 c_e_0_2 c_e_1_2 c_e_2_2 R_o_2 c_o_0_2 c_o_1_2 z_o_0_2 z_o_1_2 hb2 HB2
     go_wp2_with fail
     have RP := R_o_3.set2 (.int .i64 (trI (ya == 0))) (.int .i64 1)
     have q0 := RP.cell 0 rfl
     have q1 := RP.cell 1 rfl
     refine bodyPost_ret (v := .agg #[.int .i64 (trI (ya == 0)), .int .i64 1]) (by simp [results, Try.results101, go_sem, q0, q1]) rfl ⟨rfl, by (repeat' (first | (with_reducible first | exact Below.refl _ _ | assumption | exact Bw.out (by assumption) | refine bw_alloc ?_ _ | refine bw_step ?_ (by assumption) | refine Below.alloc ?_ ?_ _ | refine Below.drew ?_ | refine below_drewN ?_ _ | refine Below.setCell ?_ ?_ _ | refine below_step ?_ (by assumption) ?_ | exact Nat.le_refl _) | omega | (simp; omega) | (simp; done)))⟩
    ·
     have n15 : (op == 15) = false := by simpa using h15
     have hm1 : 1 < m := by have := k2 h15; omega
     have hm1i : (1 : Int) < (m : Int) := by omega
     by_cases h10 : op = 10
     ·
      have hm2 : 2 < m := by have := k3 h10; omega
      have hm2i : (2 : Int) < (m : Int) := by omega
      have n10 : (op == 10) = true := by simpa using h10
      by_cases hya : ya = 1
      ·
       have hya' : (ya == 1) = true := by simpa using hya
       obtain ⟨z, b', off', hz, hzin, e', hlz, d0, d1, d2⟩ := HIN.out.kidAt (Below.refl _ w) (k := 1) (by have := HE.out.2.2.2; omega)
       have hh := HE.out.2.2.1
       rw [e'] at hh
       cases hh
       have HZS : Hid (z.size ≤ N) := by
        show _ ≤ _
        have := szL_mem hz.out
        have h2 := HX.out
        rw [x.size_eq] at h2
        omega
       have HZI := Lib.hid (hzin.step HB2.out)
       have HZO := Lib.hid (ok_kid HOK.out hz.out)
       obtain ⟨za, zb, ze, hzv⟩ : ∃ za zb ze, z.ev (var4 v0 v1 v2 v3) = (za, zb, ze) := ⟨_, _, _, rfl⟩
       have HZV := Lib.hid hzv
       have HSZ : Hid (∀ W, Below w2.heap.size w2 W → RdV w.heap.size v0 v1 v2 v3 r op n b off m cap (off + 3) (off + 4) (off + 5) z W) := fun W h =>
        ⟨⟨(R_c_2.step h).cell 0 rfl, (R_c_2.step h).cell 1 rfl, (R_c_2.step h).cell 2 rfl, (R_c_2.step h).cell 3 rfl, (R_c_2.step h).cell 4 rfl⟩, ⟨(R_e_2.step h).cell 0 rfl, (R_e_2.step h).cell 1 rfl, (R_e_2.step h).cell 2 rfl⟩,
         ((HB2.out.trans (h.mono HB2.out.size)).cell (p := ⟨b, _, none⟩) hlz).trans d0, ((HB2.out.trans (h.mono HB2.out.size)).cell (p := ⟨b, _, none⟩) hlz).trans d1, ((HB2.out.trans (h.mono HB2.out.size)).cell (p := ⟨b, _, none⟩) hlz).trans d2⟩
       clear hzin e' hzv d0 d1 d2
       have hev : x.ev (var4 v0 v1 v2 v3) = z.ev (var4 v0 v1 v2 v3) := ev_then (HE.out.1.trans h10) hy.out (by rw [HYV.out]) (by rw [HYV.out]; exact hya) hz.out
       have HEVV := Lib.hid hev
       clear hev h15 h10 hya
       go_upto_region 11 with fail
       refine AnyJ.beginP (RdV w.heap.size v0 v1 v2 v3 r op n b off m cap (off + 3) (off + 4) (off + 5) z) (fun j => decide (j ≤ 5)) (by kernel_rfl) (HSZ.out _ (Below.refl _ _).drew) (fun hS => ?_)
       obtain ⟨w3, hw3⟩ : ∃ X, World.drew w2 = X := ⟨_, rfl⟩
       have hb3 : Below w2.heap.size w2 w3 := by rw [← hw3]; exact (Below.refl _ _).drew
       rw [hw3] at hS ⊢
       clear hw3
       refine AnyJ.takeD (i := 0) (d := some 52) (v := ?_) rfl (by kernel_rfl) (by kernel_rfl) (by kernel_rfl) (by kernel_rfl) (by kernel_rfl) (fun _ _ _ h => h) (Or.inl ⟨by kernel_rfl, ?_⟩) hS ?_
       rotate_left
       ·
        intro w' hS
        obtain ⟨⟨sF0, sF1, sF2, sF3, sF4⟩, ⟨sE0, sE1, sE2⟩, sK0, sK1, sK2⟩ := hS
        go_simp
        try with_reducible rfl
       refine AnyJ.takeD (i := 1) (d := some 53) (v := ?_) rfl (by kernel_rfl) (by kernel_rfl) (by kernel_rfl) (by kernel_rfl) (by kernel_rfl) (fun _ _ _ h => h) (Or.inl ⟨by kernel_rfl, ?_⟩) hS ?_
       rotate_left
       ·
        intro w' hS
        obtain ⟨⟨sF0, sF1, sF2, sF3, sF4⟩, ⟨sE0, sE1, sE2⟩, sK0, sK1, sK2⟩ := hS
        go_simp
        try with_reducible rfl
       refine AnyJ.takeD (i := 2) (d := some 54) (v := ?_) rfl (by kernel_rfl) (by kernel_rfl) (by kernel_rfl) (by kernel_rfl) (by kernel_rfl) (fun _ _ _ h => h) (Or.inl ⟨by kernel_rfl, ?_⟩) hS ?_
       rotate_left
       ·
        intro w' hS
        obtain ⟨⟨sF0, sF1, sF2, sF3, sF4⟩, ⟨sE0, sE1, sE2⟩, sK0, sK1, sK2⟩ := hS
        go_simp
        try with_reducible rfl
       refine AnyJ.takeD (i := 3) (d := some 55) (v := ?_) rfl (by kernel_rfl) (by kernel_rfl) (by kernel_rfl) (by kernel_rfl) (by kernel_rfl) (fun _ _ _ h => h) (Or.inl ⟨by kernel_rfl, ?_⟩) hS ?_
       rotate_left
       ·
        intro w' hS
        obtain ⟨⟨sF0, sF1, sF2, sF3, sF4⟩, ⟨sE0, sE1, sE2⟩, sK0, sK1, sK2⟩ := hS
        go_simp
        try with_reducible rfl
       refine AnyJ.takeD (i := 4) (d := some 56) (v := ?_) rfl (by kernel_rfl) (by kernel_rfl) (by kernel_rfl) (by kernel_rfl) (by kernel_rfl) (fun _ _ _ h => h) (Or.inl ⟨by kernel_rfl, ?_⟩) hS ?_
       rotate_left
       ·
        intro w' hS
        obtain ⟨⟨sF0, sF1, sF2, sF3, sF4⟩, ⟨sE0, sE1, sE2⟩, sK0, sK1, sK2⟩ := hS
        go_simp
        try with_reducible rfl
       clear hS
       refine AnyJ.one (i := 5) (by kernel_rfl) rfl (fun Kz hKz => ?_)
       go_simp
       refine (ih z HZS.out w3 r (HZI.out.step hb3) HZO.out (HOP2.out.step hb3)).mono ?_
       rintro e w4 ⟨rfl, hb4⟩
       have hb24 := hb3.trans (hb4.mono hb3.size)
       have HB4 := HB2.out.trans (hb24.mono HB2.out.size)
       rw [HZV.out]
       by_cases hze : ze = 0
       ·
        subst hze
        rw [vE_ok rfl]
        have RO := R_o_2.step hb24
        have y0 := RO.cell 0 rfl
        have y1 := RO.cell 1 rfl
        have f0 := RO.frozen 0
        have f1 := RO.frozen 1
        have fl := RO.lt
        refine hKz _ _ (fun _ => HSZ.out _ hb24) ?_
        clear hKz Kz
        refine AnyJ.one (i := 6) (by kernel_rfl) rfl (fun Kz hKz => ?_)
        go_simp
        refine hKz _ _ (fun h => by cases h) ?_
        clear hKz Kz
        refine AnyJ.done (by kernel_rfl) ?_ _
        try simp only [Act.put, List.setIfInBounds_toArray, List.set_cons_zero, List.set_cons_succ]
        have hRv : EN = .returned (.agg #[.int .i64 za, .int .i64 zb]) := by rw [← HEN.out, ← HR.out, HEVV.out, HZV.out]; rfl
        subst hRv
        have RP := RO.set2 (.int .i64 za) (.int .i64 zb)
        have q0 := RP.cell 0 rfl
        have q1 := RP.cell 1 rfl
        clear y0 y1 f0 f1 fl
        go_wp2_with fail
        refine bodyPost_ret (v := .agg #[.int .i64 za, .int .i64 zb]) (by simp [results, Try.results101, go_sem, q0, q1]) rfl ⟨rfl, by (repeat' (first | (with_reducible first | exact Below.refl _ _ | assumption | exact Bw.out (by assumption) | refine bw_alloc ?_ _ | refine bw_step ?_ (by assumption) | refine Below.alloc ?_ ?_ _ | refine Below.drew ?_ | refine below_drewN ?_ _ | refine Below.setCell ?_ ?_ _ | refine below_step ?_ (by assumption) ?_ | exact Nat.le_refl _) | omega | (simp; omega) | (simp; done)))⟩
       ·
        rw [vE_no hze]
        have hRv : EN = .panicked [{ v := .iface 138 (.agg #[.int .i64 ze]), recovered := false }] := by rw [← HEN.out, ← HR.out, HEVV.out, HZV.out, vE_no hze]
        subst hRv
        (try simp only [Exit.inBlock, Exit.then])
        exact ⟨rfl, rfl, HB4⟩
      ·
       have hya' : (ya == 1) = false := by simpa using hya
       obtain ⟨z, b', off', hz, hzin, e', hlz, d0, d1, d2⟩ := HIN.out.kidAt (Below.refl _ w) (k := 2) (by have := HE.out.2.2.2; omega)
       have hh := HE.out.2.2.1
       rw [e'] at hh
       cases hh
       have HZS : Hid (z.size ≤ N) := by
        show _ ≤ _
        have := szL_mem hz.out
        have h2 := HX.out
        rw [x.size_eq] at h2
        omega
       have HZI := Lib.hid (hzin.step HB2.out)
       have HZO := Lib.hid (ok_kid HOK.out hz.out)
       obtain ⟨za, zb, ze, hzv⟩ : ∃ za zb ze, z.ev (var4 v0 v1 v2 v3) = (za, zb, ze) := ⟨_, _, _, rfl⟩
       have HZV := Lib.hid hzv
       have HSZ : Hid (∀ W, Below w2.heap.size w2 W → RdV w.heap.size v0 v1 v2 v3 r op n b off m cap (off + 6) (off + 7) (off + 8) z W) := fun W h =>
        ⟨⟨(R_c_2.step h).cell 0 rfl, (R_c_2.step h).cell 1 rfl, (R_c_2.step h).cell 2 rfl, (R_c_2.step h).cell 3 rfl, (R_c_2.step h).cell 4 rfl⟩, ⟨(R_e_2.step h).cell 0 rfl, (R_e_2.step h).cell 1 rfl, (R_e_2.step h).cell 2 rfl⟩,
         ((HB2.out.trans (h.mono HB2.out.size)).cell (p := ⟨b, _, none⟩) hlz).trans d0, ((HB2.out.trans (h.mono HB2.out.size)).cell (p := ⟨b, _, none⟩) hlz).trans d1, ((HB2.out.trans (h.mono HB2.out.size)).cell (p := ⟨b, _, none⟩) hlz).trans d2⟩
       clear hzin e' hzv d0 d1 d2
       have hev : x.ev (var4 v0 v1 v2 v3) = z.ev (var4 v0 v1 v2 v3) := ev_else (HE.out.1.trans h10) hy.out (by rw [HYV.out]) (by rw [HYV.out]; exact hya) hz.out
       have HEVV := Lib.hid hev
       clear hev h15 h10 hya
       go_upto_region 13 with fail
       refine AnyJ.beginP (RdV w.heap.size v0 v1 v2 v3 r op n b off m cap (off + 6) (off + 7) (off + 8) z) (fun j => decide (j ≤ 5)) (by kernel_rfl) (HSZ.out _ (Below.refl _ _).drew) (fun hS => ?_)
       obtain ⟨w3, hw3⟩ : ∃ X, World.drew w2 = X := ⟨_, rfl⟩
       have hb3 : Below w2.heap.size w2 w3 := by rw [← hw3]; exact (Below.refl _ _).drew
       rw [hw3] at hS ⊢
       clear hw3
       refine AnyJ.takeD (i := 0) (d := some 62) (v := ?_) rfl (by kernel_rfl) (by kernel_rfl) (by kernel_rfl) (by kernel_rfl) (by kernel_rfl) (fun _ _ _ h => h) (Or.inl ⟨by kernel_rfl, ?_⟩) hS ?_
       rotate_left
       ·
        intro w' hS
        obtain ⟨⟨sF0, sF1, sF2, sF3, sF4⟩, ⟨sE0, sE1, sE2⟩, sK0, sK1, sK2⟩ := hS
        go_simp
        try with_reducible rfl
       refine AnyJ.takeD (i := 1) (d := some 63) (v := ?_) rfl (by kernel_rfl) (by kernel_rfl) (by kernel_rfl) (by kernel_rfl) (by kernel_rfl) (fun _ _ _ h => h) (Or.inl ⟨by kernel_rfl, ?_⟩) hS ?_
       rotate_left
       ·
        intro w' hS
        obtain ⟨⟨sF0, sF1, sF2, sF3, sF4⟩, ⟨sE0, sE1, sE2⟩, sK0, sK1, sK2⟩ := hS
        go_simp
        try with_reducible rfl
       refine AnyJ.takeD (i := 2) (d := some 64) (v := ?_) rfl (by kernel_rfl) (by kernel_rfl) (by kernel_rfl) (by kernel_rfl) (by kernel_rfl) (fun _ _ _ h => h) (Or.inl ⟨by kernel_rfl, ?_⟩) hS ?_
       rotate_left
       ·
        intro w' hS
        obtain ⟨⟨sF0, sF1, sF2, sF3, sF4⟩, ⟨sE0, sE1, sE2⟩, sK0, sK1, sK2⟩ := hS
        go_simp
        try with_reducible rfl
       refine AnyJ.takeD (i := 3) (d := some 65) (v := ?_) rfl (by kernel_rfl) (by kernel_rfl) (by kernel_rfl) (by kernel_rfl) (by kernel_rfl) (fun _ _ _ h => h) (Or.inl ⟨by kernel_rfl, ?_⟩) hS ?_
       rotate_left
       ·
        intro w' hS
        obtain ⟨⟨sF0, sF1, sF2, sF3, sF4⟩, ⟨sE0, sE1, sE2⟩, sK0, sK1, sK2⟩ := hS
        go_simp
        try with_reducible rfl
       refine AnyJ.takeD (i := 4) (d := some 66) (v := ?_) rfl (by kernel_rfl) (by kernel_rfl) (by kernel_rfl) (by kernel_rfl) (by kernel_rfl) (fun _ _ _ h => h) (Or.inl ⟨by kernel_rfl, ?_⟩) hS ?_
       rotate_left
       ·
        intro w' hS
        obtain ⟨⟨sF0, sF1, sF2, sF3, sF4⟩, ⟨sE0, sE1, sE2⟩, sK0, sK1, sK2⟩ := hS
        go_simp
        try with_reducible rfl
       clear hS
       refine AnyJ.one (i := 5) (by kernel_rfl) rfl (fun Kz hKz => ?_)
       go_simp
       refine (ih z HZS.out w3 r (HZI.out.step hb3) HZO.out (HOP2.out.step hb3)).mono ?_
       rintro e w4 ⟨rfl, hb4⟩
       have hb24 := hb3.trans (hb4.mono hb3.size)
       have HB4 := HB2.out.trans (hb24.mono HB2.out.size)
       rw [HZV.out]
       by_cases hze : ze = 0
       ·
        subst hze
        rw [vE_ok rfl]
        have RO := R_o_2.step hb24
        have y0 := RO.cell 0 rfl
        have y1 := RO.cell 1 rfl
        have f0 := RO.frozen 0
        have f1 := RO.frozen 1
        have fl := RO.lt
        refine hKz _ _ (fun _ => HSZ.out _ hb24) ?_
        clear hKz Kz
        refine AnyJ.one (i := 6) (by kernel_rfl) rfl (fun Kz hKz => ?_)
        go_simp
        refine hKz _ _ (fun h => by cases h) ?_
        clear hKz Kz
        refine AnyJ.done (by kernel_rfl) ?_ _
        try simp only [Act.put, List.setIfInBounds_toArray, List.set_cons_zero, List.set_cons_succ]
        have hRv : EN = .returned (.agg #[.int .i64 za, .int .i64 zb]) := by rw [← HEN.out, ← HR.out, HEVV.out, HZV.out]; rfl
        subst hRv
        have RP := RO.set2 (.int .i64 za) (.int .i64 zb)
        have q0 := RP.cell 0 rfl
        have q1 := RP.cell 1 rfl
        clear y0 y1 f0 f1 fl
        go_wp2_with fail
        refine bodyPost_ret (v := .agg #[.int .i64 za, .int .i64 zb]) (by simp [results, Try.results101, go_sem, q0, q1]) rfl ⟨rfl, by (repeat' (first | (with_reducible first | exact Below.refl _ _ | assumption | exact Bw.out (by assumption) | refine bw_alloc ?_ _ | refine bw_step ?_ (by assumption) | refine Below.alloc ?_ ?_ _ | refine Below.drew ?_ | refine below_drewN ?_ _ | refine Below.setCell ?_ ?_ _ | refine below_step ?_ (by assumption) ?_ | exact Nat.le_refl _) | omega | (simp; omega) | (simp; done)))⟩
       ·
        rw [vE_no hze]
        have hRv : EN = .panicked [{ v := .iface 138 (.agg #[.int .i64 ze]), recovered := false }] := by rw [← HEN.out, ← HR.out, HEVV.out, HZV.out, vE_no hze]
        subst hRv
        (try simp only [Exit.inBlock, Exit.then])
        exact ⟨rfl, rfl, HB4⟩
     ·
      have n10 : (op == 10) = false := by simpa using h10
      obtain ⟨z, b', off', hz, hzin, e', hlz, d0, d1, d2⟩ := HIN.out.kidAt (Below.refl _ w) (k := 1) (by have := HE.out.2.2.2; omega)
      have hh := HE.out.2.2.1
      rw [e'] at hh
      cases hh
      have HZS : Hid (z.size ≤ N) := by
       show _ ≤ _
       have := szL_mem hz.out
       have h2 := HX.out
       rw [x.size_eq] at h2
       omega
      have HZI := Lib.hid (hzin.step HB2.out)
      have HZO := Lib.hid (ok_kid HOK.out hz.out)
      obtain ⟨za, zb, ze, hzv⟩ : ∃ za zb ze, z.ev (var4 v0 v1 v2 v3) = (za, zb, ze) := ⟨_, _, _, rfl⟩
      have HZV := Lib.hid hzv
      have HSZ : Hid (∀ W, Below w2.heap.size w2 W → RdV w.heap.size v0 v1 v2 v3 r op n b off m cap (off + 3) (off + 4) (off + 5) z W) := fun W h =>
       ⟨⟨(R_c_2.step h).cell 0 rfl, (R_c_2.step h).cell 1 rfl, (R_c_2.step h).cell 2 rfl, (R_c_2.step h).cell 3 rfl, (R_c_2.step h).cell 4 rfl⟩, ⟨(R_e_2.step h).cell 0 rfl, (R_e_2.step h).cell 1 rfl, (R_e_2.step h).cell 2 rfl⟩,
        ((HB2.out.trans (h.mono HB2.out.size)).cell (p := ⟨b, _, none⟩) hlz).trans d0, ((HB2.out.trans (h.mono HB2.out.size)).cell (p := ⟨b, _, none⟩) hlz).trans d1, ((HB2.out.trans (h.mono HB2.out.size)).cell (p := ⟨b, _, none⟩) hlz).trans d2⟩
      clear hzin e' hzv d0 d1 d2
      have hops2 : Hid (op ≠ 10 ∧ op ≠ 15) := ⟨h10, h15⟩
      have hopr : Hid (4 ≤ op ∧ op ≤ 14) := ⟨by omega, by omega⟩
      have hvy : Hid (vldP ya yb) := by
       have := (y.good (var4 v0 v1 v2 v3)).1
       rw [HYV.out] at this
       exact this rfl
      obtain ⟨f, hmap, hlook⟩ := HOP2.out
      obtain ⟨u, hu, F, cs, rfl, hcf, hfn⟩ := hlook op hopr.out.1 hopr.out.2 h10
      have HMP := Lib.hid hmap
      have HFN := Lib.hid hfn
      have HCF := Lib.hid hcf
      have HLK := Lib.hid hu
      clear hlook hu hfn hcf h10 h15 hmap
      have hevb : ze ≠ 0 → R = (0, 0, ze) := fun h => by rw [← HR.out, ev_bad2 HXO.out (by rw [HE.out.1]; exact hops2.out) hy.out (by rw [HYV.out]) hz.out (by rw [HZV.out]; exact h), HZV.out]
      have hevt : ze = 0 → R = ap2 op ya yb za zb := fun h => by rw [← HR.out, ev_two HXO.out (by rw [HE.out.1]; exact hops2.out) hy.out (by rw [HYV.out]) hz.out (by rw [HZV.out]; exact h), HYV.out, HZV.out, HE.out.1]
      have hvz : ze = 0 → vldP za zb := fun h => by
       have := (z.good (var4 v0 v1 v2 v3)).1
       rw [HZV.out] at this
       exact this h
      have HEB := Lib.hid hevb
      have HET := Lib.hid hevt
      have HVZ := Lib.hid hvz
      clear hevb hevt hvz
      have HS14 : Hid (∀ W, Below w2.heap.size w2 W → RdV w.heap.size v0 v1 v2 v3 r op n b off m cap (off + 3) (off + 4) (off + 5) z W ∧ (W.cell? ⟨A, 0, none⟩ = some (.int .i64 ya) ∧ W.cell? ⟨A, 1, none⟩ = some (.int .i64 yb)) ∧ IMap W r f) := fun W h =>
       ⟨HSZ.out W h, ⟨(RA.step h).cell 0 rfl, (RA.step h).cell 1 rfl⟩, HMP.out.below h⟩
      have hzf := zero_fnR
      go_upto_region 14 with fail
      refine AnyJ.beginP (fun W => RdV w.heap.size v0 v1 v2 v3 r op n b off m cap (off + 3) (off + 4) (off + 5) z W ∧ (W.cell? ⟨A, 0, none⟩ = some (.int .i64 ya) ∧ W.cell? ⟨A, 1, none⟩ = some (.int .i64 yb)) ∧ IMap W r f) (fun j => decide (j ≤ 12)) (by kernel_rfl) (HS14.out _ (Below.refl _ _).drew) (fun hS => ?_)
      obtain ⟨w3, hw3⟩ : ∃ X, World.drew w2 = X := ⟨_, rfl⟩
      have hb3 : Below w2.heap.size w2 w3 := by rw [← hw3]; exact (Below.refl _ _).drew
      rw [hw3] at hS ⊢
      clear hw3
      refine AnyJ.takeD (i := 0) (d := some 68) (v := ?_) rfl (by kernel_rfl) (by kernel_rfl) (by kernel_rfl) (by kernel_rfl) (by kernel_rfl) (fun _ _ _ h => h) (Or.inl ⟨by kernel_rfl, ?_⟩) hS ?_
      rotate_left
      ·
       intro w' hS
       obtain ⟨⟨⟨sF0, sF1, sF2, sF3, sF4⟩, ⟨sE0, sE1, sE2⟩, sK0, sK1, sK2⟩, ⟨sA0, sA1⟩, sM⟩ := hS
       go_simp
       try with_reducible rfl
      refine AnyJ.takeD (i := 1) (d := some 69) (v := ?_) rfl (by kernel_rfl) (by kernel_rfl) (by kernel_rfl) (by kernel_rfl) (by kernel_rfl) (fun _ _ _ h => h) (Or.inl ⟨by kernel_rfl, ?_⟩) hS ?_
      rotate_left
      ·
       intro w' hS
       obtain ⟨⟨⟨sF0, sF1, sF2, sF3, sF4⟩, ⟨sE0, sE1, sE2⟩, sK0, sK1, sK2⟩, ⟨sA0, sA1⟩, sM⟩ := hS
       go_simp
       try with_reducible rfl
      refine AnyJ.takeD (i := 2) (d := some 70) (v := ?_) rfl (by kernel_rfl) (by kernel_rfl) (by kernel_rfl) (by kernel_rfl) (by kernel_rfl) (fun _ _ _ h => h) (Or.inl ⟨by kernel_rfl, ?_⟩) hS ?_
      rotate_left
      ·
       intro w' hS
       obtain ⟨⟨⟨sF0, sF1, sF2, sF3, sF4⟩, ⟨sE0, sE1, sE2⟩, sK0, sK1, sK2⟩, ⟨sA0, sA1⟩, sM⟩ := hS
       go_simp
       try with_reducible rfl
      refine AnyJ.takeD (i := 3) (d := some 71) (v := ?_) rfl (by kernel_rfl) (by kernel_rfl) (by kernel_rfl) (by kernel_rfl) (by kernel_rfl) (fun _ _ _ h => h) (Or.inl ⟨by kernel_rfl, ?_⟩) hS ?_
      rotate_left
      ·
       intro w' hS
       obtain ⟨⟨⟨sF0, sF1, sF2, sF3, sF4⟩, ⟨sE0, sE1, sE2⟩, sK0, sK1, sK2⟩, ⟨sA0, sA1⟩, sM⟩ := hS
       go_simp
       try with_reducible rfl
      refine AnyJ.takeD (i := 4) (d := some 72) (v := .func (.func F) #[] cs) rfl (by kernel_rfl) (by kernel_rfl) (by kernel_rfl) (by kernel_rfl) (by kernel_rfl) (fun _ _ _ h => h) (Or.inl ⟨by kernel_rfl, ?_⟩) hS ?_
      ·
       intro w' hS
       obtain ⟨_, _, sM⟩ := hS
       have hlu : Sem.run Try.prog (Instr.lookup 139 (.map (some r)) (.int .i64 op) false) w' = .ok (.func (.func F) #[] cs) w' := by
        rw [run_lookup_imap Try.underlying139 Try.underlying3 sM _ (zero_fnR _) op false, HLK.out]; rfl
       clear sM
       go_simp
       try with_reducible rfl
      refine AnyJ.takeD (i := 5) (d := some 73) (v := ?_) rfl (by kernel_rfl) (by kernel_rfl) (by kernel_rfl) (by kernel_rfl) (by kernel_rfl) (fun _ _ _ h => h) (Or.inl ⟨by kernel_rfl, ?_⟩) hS ?_
      rotate_left
      ·
       intro w' hS
       obtain ⟨⟨⟨sF0, sF1, sF2, sF3, sF4⟩, ⟨sE0, sE1, sE2⟩, sK0, sK1, sK2⟩, ⟨sA0, sA1⟩, sM⟩ := hS
       go_simp
       try with_reducible rfl
      refine AnyJ.takeD (i := 6) (d := some 74) (v := ?_) rfl (by kernel_rfl) (by kernel_rfl) (by kernel_rfl) (by kernel_rfl) (by kernel_rfl) (fun _ _ _ h => h) (Or.inl ⟨by kernel_rfl, ?_⟩) hS ?_
      rotate_left
      ·
       intro w' hS
       obtain ⟨⟨⟨sF0, sF1, sF2, sF3, sF4⟩, ⟨sE0, sE1, sE2⟩, sK0, sK1, sK2⟩, ⟨sA0, sA1⟩, sM⟩ := hS
       go_simp
       try with_reducible rfl
      refine AnyJ.takeD (i := 7) (d := some 75) (v := ?_) rfl (by kernel_rfl) (by kernel_rfl) (by kernel_rfl) (by kernel_rfl) (by kernel_rfl) (fun _ _ _ h => h) (Or.inl ⟨by kernel_rfl, ?_⟩) hS ?_
      rotate_left
      ·
       intro w' hS
       obtain ⟨⟨⟨sF0, sF1, sF2, sF3, sF4⟩, ⟨sE0, sE1, sE2⟩, sK0, sK1, sK2⟩, ⟨sA0, sA1⟩, sM⟩ := hS
       go_simp
       try with_reducible rfl
      refine AnyJ.takeD (i := 8) (d := some 76) (v := ?_) rfl (by kernel_rfl) (by kernel_rfl) (by kernel_rfl) (by kernel_rfl) (by kernel_rfl) (fun _ _ _ h => h) (Or.inl ⟨by kernel_rfl, ?_⟩) hS ?_
      rotate_left
      ·
       intro w' hS
       obtain ⟨⟨⟨sF0, sF1, sF2, sF3, sF4⟩, ⟨sE0, sE1, sE2⟩, sK0, sK1, sK2⟩, ⟨sA0, sA1⟩, sM⟩ := hS
       go_simp
       try with_reducible rfl
      refine AnyJ.takeD (i := 9) (d := some 77) (v := ?_) rfl (by kernel_rfl) (by kernel_rfl) (by kernel_rfl) (by kernel_rfl) (by kernel_rfl) (fun _ _ _ h => h) (Or.inl ⟨by kernel_rfl, ?_⟩) hS ?_
      rotate_left
      ·
       intro w' hS
       obtain ⟨⟨⟨sF0, sF1, sF2, sF3, sF4⟩, ⟨sE0, sE1, sE2⟩, sK0, sK1, sK2⟩, ⟨sA0, sA1⟩, sM⟩ := hS
       go_simp
       try with_reducible rfl
      refine AnyJ.takeD (i := 10) (d := some 78) (v := ?_) rfl (by kernel_rfl) (by kernel_rfl) (by kernel_rfl) (by kernel_rfl) (by kernel_rfl) (fun _ _ _ h => h) (Or.inl ⟨by kernel_rfl, ?_⟩) hS ?_
      rotate_left
      ·
       intro w' hS
       obtain ⟨⟨⟨sF0, sF1, sF2, sF3, sF4⟩, ⟨sE0, sE1, sE2⟩, sK0, sK1, sK2⟩, ⟨sA0, sA1⟩, sM⟩ := hS
       go_simp
       try with_reducible rfl
      clear hS hzf
      refine AnyJ.one (i := 11) (by kernel_rfl) rfl (fun Kz hKz => ?_)
      go_simp
      refine (ih z HZS.out w3 r (HZI.out.step hb3) HZO.out (HOP2.out.step hb3)).mono ?_
      rintro e w4 ⟨rfl, hb4⟩
      have hb24 := hb3.trans (hb4.mono hb3.size)
      have HB4 := HB2.out.trans (hb24.mono HB2.out.size)
      rw [HZV.out]
      by_cases hze : ze = 0
      ·
       rw [vE_ok hze]
       refine hKz _ _ (fun _ => HS14.out _ hb24) ?_
       clear hKz Kz
       refine AnyJ.one (i := 12) (by kernel_rfl) rfl (fun Kz hKz => ?_)
       go_simp
       rw [HCF.out]
       simp only [Oper.upon]
       refine (HFN.out w4 hb24 ya yb za zb hvy.out (HVZ.out hze)).mono ?_
       rintro e w5 ⟨rfl, hb5⟩
       have hb25 := hb24.trans (hb5.mono hb24.size)
       have HB5 := HB2.out.trans (hb25.mono HB2.out.size)
       rw [← HET.out hze, HEN.out]
       obtain ⟨N', D, E, hR3⟩ : ∃ N' D E, R = (N', D, E) := ⟨_, _, _, rfl⟩
       by_cases hE : E = 0
       ·
        have hRv : EN = .returned (.agg #[.int .i64 N', .int .i64 D]) := by rw [← HEN.out, hR3, vE_ok hE]
        subst hRv
        have RO := R_o_2.step hb25
        have y0 := RO.cell 0 rfl
        have y1 := RO.cell 1 rfl
        have f0 := RO.frozen 0
        have f1 := RO.frozen 1
        have fl := RO.lt
        refine hKz _ _ (fun _ => HS14.out _ hb25) ?_
        clear hKz Kz hR3 hE
        refine AnyJ.one (i := 13) (by kernel_rfl) rfl (fun Kz hKz => ?_)
        go_simp
        refine hKz _ _ (fun h => by cases h) ?_
        clear hKz Kz
        refine AnyJ.done (by kernel_rfl) ?_ _
        try simp only [Act.put, List.setIfInBounds_toArray, List.set_cons_zero, List.set_cons_succ]
        have RP := RO.set2 (.int .i64 N') (.int .i64 D)
        have q0 := RP.cell 0 rfl
        have q1 := RP.cell 1 rfl
        clear y0 y1 f0 f1 fl
        go_wp2_with fail
        refine bodyPost_ret (v := .agg #[.int .i64 N', .int .i64 D]) (by simp [results, Try.results101, go_sem, q0, q1]) rfl ⟨rfl, by (repeat' (first | (with_reducible first | exact Below.refl _ _ | assumption | exact Bw.out (by assumption) | refine bw_alloc ?_ _ | refine bw_step ?_ (by assumption) | refine Below.alloc ?_ ?_ _ | refine Below.drew ?_ | refine below_drewN ?_ _ | refine Below.setCell ?_ ?_ _ | refine below_step ?_ (by assumption) ?_ | exact Nat.le_refl _) | omega | (simp; omega) | (simp; done)))⟩
       ·
        have hRv : EN = .panicked [{ v := .iface 138 (.agg #[.int .i64 E]), recovered := false }] := by rw [← HEN.out, hR3, vE_no hE]
        subst hRv
        (try simp only [Exit.inBlock, Exit.then])
        exact ⟨rfl, rfl, HB5⟩
      ·
       have hRv : EN = .panicked [{ v := .iface 138 (.agg #[.int .i64 ze]), recovered := false }] := by rw [← HEN.out, HEB.out hze, vE_no hze]
       subst hRv
       rw [vE_no hze]
       (try simp only [Exit.inBlock, Exit.then])
       exact ⟨rfl, rfl, HB4⟩
  ·
   have hre : R = (0, 0, ye) := by
    rw [← HR.out, ev_bad HXO.out hy.out (by rw [HYV.out]; exact hye), HYV.out]
   have hRv : EN = .panicked [{ v := .iface 138 (.agg #[.int .i64 ye]), recovered := false }] := by rw [← HEN.out, hre, vE_no hye]
   subst hRv
   refine AnyJ.beginP (RdV w.heap.size v0 v1 v2 v3 r op n b off m cap off (off + 1) (off + 2) y) (fun j => decide (j ≤ 6)) (by kernel_rfl) (HS.out _ (Below.refl _ _).drew) (fun hS => ?_)
   obtain ⟨w2, hw2⟩ : ∃ X, World.drew w1 = X := ⟨_, rfl⟩
   have hb2 : Below w1.heap.size w1 w2 := by rw [← hw2]; exact (Below.refl _ _).drew
   rw [hw2] at hS ⊢
   clear hw2
   refine AnyJ.takeD (i := 0) (d := some 29) (v := ?_) rfl (by kernel_rfl) (by kernel_rfl) (by kernel_rfl) (by kernel_rfl) (by kernel_rfl) (fun _ _ _ h => h) (Or.inl ⟨by kernel_rfl, ?_⟩) hS ?_
   rotate_left
   ·
    intro w' hS
    obtain ⟨⟨sF0, sF1, sF2, sF3, sF4⟩, ⟨sE0, sE1, sE2⟩, sK0, sK1, sK2⟩ := hS
    go_simp
    try with_reducible rfl
   refine AnyJ.takeD (i := 1) (d := some 30) (v := ?_) rfl (by kernel_rfl) (by kernel_rfl) (by kernel_rfl) (by kernel_rfl) (by kernel_rfl) (fun _ _ _ h => h) (Or.inl ⟨by kernel_rfl, ?_⟩) hS ?_
   rotate_left
   ·
    intro w' hS
    obtain ⟨⟨sF0, sF1, sF2, sF3, sF4⟩, ⟨sE0, sE1, sE2⟩, sK0, sK1, sK2⟩ := hS
    go_simp
    try with_reducible rfl
   refine AnyJ.takeD (i := 2) (d := some 31) (v := ?_) rfl (by kernel_rfl) (by kernel_rfl) (by kernel_rfl) (by kernel_rfl) (by kernel_rfl) (fun _ _ _ h => h) (Or.inl ⟨by kernel_rfl, ?_⟩) hS ?_
   rotate_left
   ·
    intro w' hS
    obtain ⟨⟨sF0, sF1, sF2, sF3, sF4⟩, ⟨sE0, sE1, sE2⟩, sK0, sK1, sK2⟩ := hS
    go_simp
    try with_reducible rfl
   refine AnyJ.takeD (i := 3) (d := some 32) (v := ?_) rfl (by kernel_rfl) (by kernel_rfl) (by kernel_rfl) (by kernel_rfl) (by kernel_rfl) (fun _ _ _ h => h) (Or.inl ⟨by kernel_rfl, ?_⟩) hS ?_
   rotate_left
   ·
    intro w' hS
    obtain ⟨⟨sF0, sF1, sF2, sF3, sF4⟩, ⟨sE0, sE1, sE2⟩, sK0, sK1, sK2⟩ := hS
    go_simp
    try with_reducible rfl
   refine AnyJ.takeD (i := 4) (d := some 33) (v := ?_) rfl (by kernel_rfl) (by kernel_rfl) (by kernel_rfl) (by kernel_rfl) (by kernel_rfl) (fun _ _ _ h => h) (Or.inl ⟨by kernel_rfl, ?_⟩) hS ?_
   rotate_left
   ·
    intro w' hS
    obtain ⟨⟨sF0, sF1, sF2, sF3, sF4⟩, ⟨sE0, sE1, sE2⟩, sK0, sK1, sK2⟩ := hS
    go_simp
    try with_reducible rfl
   clear hS
   refine AnyJ.two (i := 5) (j := 6) (by kernel_rfl) rfl rfl (fun Kz hKz => ?_) (fun Kz hKz => ?_)
   ·
    go_simp
    refine (ih y HYS.out w2 r (HYI1.out.step hb2) HYO.out (HOP1.out.step hb2)).mono ?_
    rintro e w3 ⟨rfl, hb3⟩
    have hb13 := hb2.trans (hb3.mono hb2.size)
    have HB13 := HB1.trans (hb13.mono HB1.size)
    rw [HYV.out, vE_no hye]
    (try simp only [Exit.inBlock, Exit.then])
    exact ⟨rfl, rfl, HB13⟩
   ·
    go_simp
    obtain ⟨w3, hw3⟩ : ∃ X, World.alloc w2 (.cells #[.int .i64 0, .int .i64 0] 28) = X := ⟨_, rfl⟩
    have hb23 : Below w2.heap.size w2 w3 := by rw [← hw3]; exact (Below.refl _ _).alloc (Nat.le_refl _) _
    rw [hw3]
    clear hw3
    have hb13 := hb2.trans (hb23.mono hb2.size)
    refine hKz _ _ (fun _ => HS.out _ hb13) ?_
    clear hKz Kz
    refine AnyJ.one (i := 5) (by kernel_rfl) rfl (fun Kz hKz => ?_)
    go_simp
    refine (ih y HYS.out w3 r (HYI1.out.step hb13) HYO.out (HOP1.out.step hb13)).mono ?_
    rintro e w4 ⟨rfl, hb4⟩
    have hb14 := hb13.trans (hb4.mono hb13.size)
    have HB14 := HB1.trans (hb14.mono HB1.size)
    rw [HYV.out, vE_no hye]
    (try simp only [Exit.inBlock, Exit.then])
    exact ⟨rfl, rfl, HB14⟩
end Go.Proofs.Ytcmodmchnokmgaa
