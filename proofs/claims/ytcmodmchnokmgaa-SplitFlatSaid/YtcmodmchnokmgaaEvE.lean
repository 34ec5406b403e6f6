/-
 The walks of package rate: the value of an expression.
-/
import Derived.Test.YtcmodmchnokmgaaEvD
import Derived.Test.YtcmodmchnokmgaaTyC
namespace Go.Proofs.Ytcmodmchnokmgaa
set_option linter.unusedSimpArgs false
set_option linter.unusedVariables false
open Go.RowKit
theorem make_p (n d N D E : Int) (h : mk3 n d = (N, D, E)) (w : World) :
  Calls Try.prog 127 #[.int .i64 n, .int .i64 d] w fun e w' => e = .returned (.tuple #[.agg #[.int .i64 N, .int .i64 D], .int .i64 E]) ∧ Below w.heap.size w w' := by
 have e1 : mkN n d = N := congrArg (fun t : V3 => t.1) h
 have e2 : mkD n d = D := congrArg (fun t : V3 => t.2.1) h
 have e3 : mkE n d = E := congrArg (fun t : V3 => t.2.2) h
 subst e1 e2 e3; exact make_any n d w
theorem nodeB_var {n : Int} {k : Nat} (h : nodeB 3 n k = true) : n = 1 ∨ n = 2 ∨ n = 3 ∨ n = 4 := by
 unfold nodeB inE at h
 simp at h
 omega
theorem kidN_ge {op : Int} (h : 4 ≤ op) (h2 : op ≤ 15) : 1 ≤ kidN op ∧ (op ≠ 15 → 2 ≤ kidN op) ∧ (op = 10 → kidN op = 3) := by
 unfold kidN
 rw [if_neg (by omega)]
 by_cases h15 : op = 15
 ·
  simp [h15]
 ·
  by_cases h10 : op = 10
  ·
   simp [h10]
  ·
   simp [h15, h10]
set_option maxRecDepth 100000 in
set_option maxHeartbeats 6400000 in
theorem ev_leaf (x : Ex) (v0 v1 v2 v3 : Int) (w : World) (r : Nat) (hok : x.ok = true) (h3 : x.op ≤ 3) :
  Calls Try.prog 101 #[.agg #[.int .i64 v0, .int .i64 v1, .int .i64 v2, .int .i64 v3, .map (some r)], x.val] w fun e w' => e = vE (x.ev (var4 v0 v1 v2 v3)) ∧ Below w.heap.size w w' := by
 have HNB := Lib.hid (nodeB_op (ok_node hok).1)
 have HND := Lib.hid (ok_node hok).1
 have hm3 := nodeB_kids (ok_node hok).1
 obtain ⟨R, hR⟩ : ∃ R, x.ev (var4 v0 v1 v2 v3) = R := ⟨_, rfl⟩
 rw [hR]
 have HR := Lib.hid hR
 clear hR hok
 by_cases h12 : x.op = 1 ∨ x.op = 2
 ·
  have HEV : Hid (R = mk3 x.n 1) := HR.out.symm.trans (ev_num h12)
  obtain ⟨op, hop⟩ : ∃ op, x.op = op := ⟨_, rfl⟩
  obtain ⟨n, hn⟩ : ∃ n, x.n = n := ⟨_, rfl⟩
  obtain ⟨ad, had⟩ : ∃ ad, x.at' = ad := ⟨_, rfl⟩
  obtain ⟨m, hm⟩ : ∃ m, x.ks.length = m := ⟨_, rfl⟩
  obtain ⟨cap, hcap⟩ : ∃ cap, x.cap = cap := ⟨_, rfl⟩
  rw [show x.val = .agg #[.int .i64 x.op, .int .i64 x.n, .slice x.at' x.ks.length x.cap] from rfl, hop, hn, had, hm, hcap]
  rw [hm] at hm3
  have HE := Lib.hid (And.intro hop (And.intro hn (And.intro had hm)))
  clear hop hn had hm hcap
  rw [HE.out.1] at h12
  rw [HE.out.2.1] at HEV
  clear h3
  rcases h12 with rfl | rfl
  ·
   obtain ⟨N', D, E, ht⟩ : ∃ N D E, mk3 (n) 1 = (N, D, E) := ⟨_, _, _, rfl⟩
   have HC := Lib.hid (make_p (n) 1 N' D E ht)
   rw [HEV.out, ht]
   clear ht
   by_cases h0 : E = 0
   ·
    subst h0
    rw [vE_ok rfl]
    go_enter Try.func101, Try.ntmps101
    go_wp2_with fail
    refine (HC.out _).mono ?_
    rintro e w1 ⟨rfl, hb1⟩
    have R_o_1 : Row w1 (w.heap.size + 1 + 1) [.int .i64 (0), .int .i64 (0)] := by (repeat' (first | (with_reducible assumption) | (with_reducible refine Row.new' _ _ _ (by first | rfl | (simp; done) | omega)) | (with_reducible first | refine Row.alloc ?_ _ | refine Row.drew ?_ | refine Row.step ?_ (by assumption) | refine Row.drewN ?_ _) | (with_reducible refine Row.set2' ?_ _ _; first | exact ⟨_, _, by assumption⟩ | exact ⟨_, _, Row.alloc (by assumption) _⟩) | (with_reducible refine Row.other ?_ (by first | omega | (simp; omega)) _)))
    have c_o_0_1 := R_o_1.cell 0 rfl
    have c_o_1_1 := R_o_1.cell 1 rfl
    have z_o_0_1 := R_o_1.frozen 0
    have z_o_1_1 := R_o_1.frozen 1
    have l_o_1 := R_o_1.lt
    have HB1 : Below w.heap.size w w1 := by (repeat' (first | (with_reducible first | exact Below.refl _ _ | assumption | exact Bw.out (by assumption) | refine bw_alloc ?_ _ | refine bw_step ?_ (by assumption) | refine Below.alloc ?_ ?_ _ | refine Below.drew ?_ | refine below_drewN ?_ _ | refine Below.setCell ?_ ?_ _ | refine below_step ?_ (by assumption) ?_ | exact Nat.le_refl _) | omega | (simp; omega) | (simp; done)))
    go_wp2_with fail
    refine (must_ok N' D _).mono ?_
    rintro e w2 ⟨rfl, hb2⟩
    have R_o_2 : Row w2 (w.heap.size + 1 + 1) [.int .i64 (0), .int .i64 (0)] := by (repeat' (first | (with_reducible assumption) | (with_reducible refine Row.new' _ _ _ (by first | rfl | (simp; done) | omega)) | (with_reducible first | refine Row.alloc ?_ _ | refine Row.drew ?_ | refine Row.step ?_ (by assumption) | refine Row.drewN ?_ _) | (with_reducible refine Row.set2' ?_ _ _; first | exact ⟨_, _, by assumption⟩ | exact ⟨_, _, Row.alloc (by assumption) _⟩) | (with_reducible refine Row.other ?_ (by first | omega | (simp; omega)) _)))
    have c_o_0_2 := R_o_2.cell 0 rfl
    have c_o_1_2 := R_o_2.cell 1 rfl
    have z_o_0_2 := R_o_2.frozen 0
    have z_o_1_2 := R_o_2.frozen 1
    have l_o_2 := R_o_2.lt
    have HB2 : Below w.heap.size w w2 := by (repeat' (first | (with_reducible first | exact Below.refl _ _ | assumption | exact Bw.out (by assumption) | refine bw_alloc ?_ _ | refine bw_step ?_ (by assumption) | refine Below.alloc ?_ ?_ _ | refine Below.drew ?_ | refine below_drewN ?_ _ | refine Below.setCell ?_ ?_ _ | refine below_step ?_ (by assumption) ?_ | exact Nat.le_refl _) | omega | (simp; omega) | (simp; done)))
    clear R_o_1 c_o_0_1 c_o_1_1 z_o_0_1 z_o_1_1 hb1 HB1
    go_wp2_with fail
    have RP := R_o_2.set2 (.int .i64 N') (.int .i64 D)
    have q0 := RP.cell 0 rfl
    have q1 := RP.cell 1 rfl
    refine bodyPost_ret (v := .agg #[.int .i64 N', .int .i64 D]) (by simp [results, Try.results101, go_sem, q0, q1]) rfl ⟨rfl, by (repeat' (first | (with_reducible first | exact Below.refl _ _ | assumption | exact Bw.out (by assumption) | refine bw_alloc ?_ _ | refine bw_step ?_ (by assumption) | refine Below.alloc ?_ ?_ _ | refine Below.drew ?_ | refine below_drewN ?_ _ | refine Below.setCell ?_ ?_ _ | refine below_step ?_ (by assumption) ?_ | exact Nat.le_refl _) | omega | (simp; omega) | (simp; done)))⟩
   ·
    rw [vE_no h0]
    go_enter Try.func101, Try.ntmps101
    go_wp2_with fail
    refine (HC.out _).mono ?_
    rintro e w1 ⟨rfl, hb1⟩
    have HB1 : Below w.heap.size w w1 := by (repeat' (first | (with_reducible first | exact Below.refl _ _ | assumption | exact Bw.out (by assumption) | refine bw_alloc ?_ _ | refine bw_step ?_ (by assumption) | refine Below.alloc ?_ ?_ _ | refine Below.drew ?_ | refine below_drewN ?_ _ | refine Below.setCell ?_ ?_ _ | refine below_step ?_ (by assumption) ?_ | exact Nat.le_refl _) | omega | (simp; omega) | (simp; done)))
    go_wp2_with fail
    refine (must_no N' D E h0 _).mono ?_
    rintro e w2 ⟨rfl, hb2⟩
    (try simp only [Exit.inBlock, Exit.then])
    exact ⟨rfl, rfl, by (repeat' (first | (with_reducible first | exact Below.refl _ _ | assumption | exact Bw.out (by assumption) | refine bw_alloc ?_ _ | refine bw_step ?_ (by assumption) | refine Below.alloc ?_ ?_ _ | refine Below.drew ?_ | refine below_drewN ?_ _ | refine Below.setCell ?_ ?_ _ | refine below_step ?_ (by assumption) ?_ | exact Nat.le_refl _) | omega | (simp; omega) | (simp; done)))⟩
  ·
   obtain ⟨N', D, E, ht⟩ : ∃ N D E, mk3 (n) 1 = (N, D, E) := ⟨_, _, _, rfl⟩
   have HC := Lib.hid (make_p (n) 1 N' D E ht)
   rw [HEV.out, ht]
   clear ht
   by_cases h0 : E = 0
   ·
    subst h0
    rw [vE_ok rfl]
    go_enter Try.func101, Try.ntmps101
    go_wp2_with fail
    refine (HC.out _).mono ?_
    rintro e w1 ⟨rfl, hb1⟩
    have R_o_1 : Row w1 (w.heap.size + 1 + 1) [.int .i64 (0), .int .i64 (0)] := by (repeat' (first | (with_reducible assumption) | (with_reducible refine Row.new' _ _ _ (by first | rfl | (simp; done) | omega)) | (with_reducible first | refine Row.alloc ?_ _ | refine Row.drew ?_ | refine Row.step ?_ (by assumption) | refine Row.drewN ?_ _) | (with_reducible refine Row.set2' ?_ _ _; first | exact ⟨_, _, by assumption⟩ | exact ⟨_, _, Row.alloc (by assumption) _⟩) | (with_reducible refine Row.other ?_ (by first | omega | (simp; omega)) _)))
    have c_o_0_1 := R_o_1.cell 0 rfl
    have c_o_1_1 := R_o_1.cell 1 rfl
    have z_o_0_1 := R_o_1.frozen 0
    have z_o_1_1 := R_o_1.frozen 1
    have l_o_1 := R_o_1.lt
    have HB1 : Below w.heap.size w w1 := by (repeat' (first | (with_reducible first | exact Below.refl _ _ | assumption | exact Bw.out (by assumption) | refine bw_alloc ?_ _ | refine bw_step ?_ (by assumption) | refine Below.alloc ?_ ?_ _ | refine Below.drew ?_ | refine below_drewN ?_ _ | refine Below.setCell ?_ ?_ _ | refine below_step ?_ (by assumption) ?_ | exact Nat.le_refl _) | omega | (simp; omega) | (simp; done)))
    go_wp2_with fail
    refine (must_ok N' D _).mono ?_
    rintro e w2 ⟨rfl, hb2⟩
    have R_o_2 : Row w2 (w.heap.size + 1 + 1) [.int .i64 (0), .int .i64 (0)] := by (repeat' (first | (with_reducible assumption) | (with_reducible refine Row.new' _ _ _ (by first | rfl | (simp; done) | omega)) | (with_reducible first | refine Row.alloc ?_ _ | refine Row.drew ?_ | refine Row.step ?_ (by assumption) | refine Row.drewN ?_ _) | (with_reducible refine Row.set2' ?_ _ _; first | exact ⟨_, _, by assumption⟩ | exact ⟨_, _, Row.alloc (by assumption) _⟩) | (with_reducible refine Row.other ?_ (by first | omega | (simp; omega)) _)))
    have c_o_0_2 := R_o_2.cell 0 rfl
    have c_o_1_2 := R_o_2.cell 1 rfl
    have z_o_0_2 := R_o_2.frozen 0
    have z_o_1_2 := R_o_2.frozen 1
    have l_o_2 := R_o_2.lt
    have HB2 : Below w.heap.size w w2 := by (repeat' (first | (with_reducible first | exact Below.refl _ _ | assumption | exact Bw.out (by assumption) | refine bw_alloc ?_ _ | refine bw_step ?_ (by assumption) | refine Below.alloc ?_ ?_ _ | refine Below.drew ?_ | refine below_drewN ?_ _ | refine Below.setCell ?_ ?_ _ | refine below_step ?_ (by assumption) ?_ | exact Nat.le_refl _) | omega | (simp; omega) | (simp; done)))
    clear R_o_1 c_o_0_1 c_o_1_1 z_o_0_1 z_o_1_1 hb1 HB1
    go_wp2_with fail
    have RP := R_o_2.set2 (.int .i64 N') (.int .i64 D)
    have q0 := RP.cell 0 rfl
    have q1 := RP.cell 1 rfl
    refine bodyPost_ret (v := .agg #[.int .i64 N', .int .i64 D]) (by simp [results, Try.results101, go_sem, q0, q1]) rfl ⟨rfl, by (repeat' (first | (with_reducible first | exact Below.refl _ _ | assumption | exact Bw.out (by assumption) | refine bw_alloc ?_ _ | refine bw_step ?_ (by assumption) | refine Below.alloc ?_ ?_ _ | refine Below.drew ?_ | refine below_drewN ?_ _ | refine Below.setCell ?_ ?_ _ | refine below_step ?_ (by assumption) ?_ | exact Nat.le_refl _) | omega | (simp; omega) | (simp; done)))⟩
   ·
    rw [vE_no h0]
    go_enter Try.func101, Try.ntmps101
    go_wp2_with fail
    refine (HC.out _).mono ?_
    rintro e w1 ⟨rfl, hb1⟩
    have HB1 : Below w.heap.size w w1 := by (repeat' (first | (with_reducible first | exact Below.refl _ _ | assumption | exact Bw.out (by assumption) | refine bw_alloc ?_ _ | refine bw_step ?_ (by assumption) | refine Below.alloc ?_ ?_ _ | refine Below.drew ?_ | refine below_drewN ?_ _ | refine Below.setCell ?_ ?_ _ | refine below_step ?_ (by assumption) ?_ | exact Nat.le_refl _) | omega | (simp; omega) | (simp; done)))
    go_wp2_with fail
    refine (must_no N' D E h0 _).mono ?_
    rintro e w2 ⟨rfl, hb2⟩
    (try simp only [Exit.inBlock, Exit.then])
    exact ⟨rfl, rfl, by (repeat' (first | (with_reducible first | exact Below.refl _ _ | assumption | exact Bw.out (by assumption) | refine bw_alloc ?_ _ | refine bw_step ?_ (by assumption) | refine Below.alloc ?_ ?_ _ | refine Below.drew ?_ | refine below_drewN ?_ _ | refine Below.setCell ?_ ?_ _ | refine below_step ?_ (by assumption) ?_ | exact Nat.le_refl _) | omega | (simp; omega) | (simp; done)))⟩
 ·
  have h30 : x.op = 3 := by have := HNB.out; omega
  have HEV : Hid (R = mk3 (var4 v0 v1 v2 v3 x.n) 1) := HR.out.symm.trans (ev_var h30)
  have hn := nodeB_var (n := x.n) (k := x.ks.length) (by have := HND.out; rwa [h30] at this)
  obtain ⟨op, hop⟩ : ∃ op, x.op = op := ⟨_, rfl⟩
  obtain ⟨n, hn⟩ : ∃ n, x.n = n := ⟨_, rfl⟩
  obtain ⟨ad, had⟩ : ∃ ad, x.at' = ad := ⟨_, rfl⟩
  obtain ⟨m, hm⟩ : ∃ m, x.ks.length = m := ⟨_, rfl⟩
  obtain ⟨cap, hcap⟩ : ∃ cap, x.cap = cap := ⟨_, rfl⟩
  rw [show x.val = .agg #[.int .i64 x.op, .int .i64 x.n, .slice x.at' x.ks.length x.cap] from rfl, hop, hn, had, hm, hcap]
  rw [hm] at hm3
  have HE := Lib.hid (And.intro hop (And.intro hn (And.intro had hm)))
  clear hop hn had hm hcap
  rw [HE.out.1] at h30
  rw [HE.out.2.1] at HEV hn
  clear h3 h12
  subst h30
  rcases hn with rfl | rfl | rfl | rfl
  ·
   rw [show var4 v0 v1 v2 v3 1 = v0 from rfl] at HEV
   obtain ⟨N', D, E, ht⟩ : ∃ N D E, mk3 (v0) 1 = (N, D, E) := ⟨_, _, _, rfl⟩
   have HC := Lib.hid (make_p (v0) 1 N' D E ht)
   rw [HEV.out, ht]
   clear ht
   by_cases h0 : E = 0
   ·
    subst h0
    rw [vE_ok rfl]
    go_enter Try.func101, Try.ntmps101
    go_wp2_with fail
    refine (HC.out _).mono ?_
    rintro e w1 ⟨rfl, hb1⟩
    have R_o_1 : Row w1 (w.heap.size + 1 + 1) [.int .i64 (0), .int .i64 (0)] := by (repeat' (first | (with_reducible assumption) | (with_reducible refine Row.new' _ _ _ (by first | rfl | (simp; done) | omega)) | (with_reducible first | refine Row.alloc ?_ _ | refine Row.drew ?_ | refine Row.step ?_ (by assumption) | refine Row.drewN ?_ _) | (with_reducible refine Row.set2' ?_ _ _; first | exact ⟨_, _, by assumption⟩ | exact ⟨_, _, Row.alloc (by assumption) _⟩) | (with_reducible refine Row.other ?_ (by first | omega | (simp; omega)) _)))
    have c_o_0_1 := R_o_1.cell 0 rfl
    have c_o_1_1 := R_o_1.cell 1 rfl
    have z_o_0_1 := R_o_1.frozen 0
    have z_o_1_1 := R_o_1.frozen 1
    have l_o_1 := R_o_1.lt
    have HB1 : Below w.heap.size w w1 := by (repeat' (first | (with_reducible first | exact Below.refl _ _ | assumption | exact Bw.out (by assumption) | refine bw_alloc ?_ _ | refine bw_step ?_ (by assumption) | refine Below.alloc ?_ ?_ _ | refine Below.drew ?_ | refine below_drewN ?_ _ | refine Below.setCell ?_ ?_ _ | refine below_step ?_ (by assumption) ?_ | exact Nat.le_refl _) | omega | (simp; omega) | (simp; done)))
    go_wp2_with fail
    refine (must_ok N' D _).mono ?_
    rintro e w2 ⟨rfl, hb2⟩
    have R_o_2 : Row w2 (w.heap.size + 1 + 1) [.int .i64 (0), .int .i64 (0)] := by (repeat' (first | (with_reducible assumption) | (with_reducible refine Row.new' _ _ _ (by first | rfl | (simp; done) | omega)) | (with_reducible first | refine Row.alloc ?_ _ | refine Row.drew ?_ | refine Row.step ?_ (by assumption) | refine Row.drewN ?_ _) | (with_reducible refine Row.set2' ?_ _ _; first | exact ⟨_, _, by assumption⟩ | exact ⟨_, _, Row.alloc (by assumption) _⟩) | (with_reducible refine Row.other ?_ (by first | omega | (simp; omega)) _)))
    have c_o_0_2 := R_o_2.cell 0 rfl
    have c_o_1_2 := R_o_2.cell 1 rfl
    have z_o_0_2 := R_o_2.frozen 0
    have z_o_1_2 := R_o_2.frozen 1
    have l_o_2 := R_o_2.lt
    have HB2 : Below w.heap.size w w2 := by (repeat' (first | (with_reducible first | exact Below.refl _ _ | assumption | exact Bw.out (by assumption) | refine bw_alloc ?_ _ | refine bw_step ?_ (by assumption) | refine Below.alloc ?_ ?_ _ | refine Below.drew ?_ | refine below_drewN ?_ _ | refine Below.setCell ?_ ?_ _ | refine below_step ?_ (by assumption) ?_ | exact Nat.le_refl _) | omega | (simp; omega) | (simp; done)))
    clear R_o_1 c_o_0_1 c_o_1_1 z_o_0_1 z_o_1_1 hb1 HB1
    go_wp2_with fail
    have RP := R_o_2.set2 (.int .i64 N') (.int .i64 D)
    have q0 := RP.cell 0 rfl
    have q1 := RP.cell 1 rfl
    refine bodyPost_ret (v := .agg #[.int .i64 N', .int .i64 D]) (by simp [results, Try.results101, go_sem, q0, q1]) rfl ⟨rfl, by (repeat' (first | (with_reducible first | exact Below.refl _ _ | assumption | exact Bw.out (by assumption) | refine bw_alloc ?_ _ | refine bw_step ?_ (by assumption) | refine Below.alloc ?_ ?_ _ | refine Below.drew ?_ | refine below_drewN ?_ _ | refine Below.setCell ?_ ?_ _ | refine below_step ?_ (by assumption) ?_ | exact Nat.le_refl _) | omega | (simp; omega) | (simp; done)))⟩
   ·
    rw [vE_no h0]
    go_enter Try.func101, Try.ntmps101
    go_wp2_with fail
    refine (HC.out _).mono ?_
    rintro e w1 ⟨rfl, hb1⟩
    have HB1 : Below w.heap.size w w1 := by (repeat' (first | (with_reducible first | exact Below.refl _ _ | assumption | exact Bw.out (by assumption) | refine bw_alloc ?_ _ | refine bw_step ?_ (by assumption) | refine Below.alloc ?_ ?_ _ | refine Below.drew ?_ | refine below_drewN ?_ _ | refine Below.setCell ?_ ?_ _ | refine below_step ?_ (by assumption) ?_ | exact Nat.le_refl _) | omega | (simp; omega) | (simp; done)))
    go_wp2_with fail
    refine (must_no N' D E h0 _).mono ?_
    rintro e w2 ⟨rfl, hb2⟩
    (try simp only [Exit.inBlock, Exit.then])
    exact ⟨rfl, rfl, by (repeat' (first | (with_reducible first | exact Below.refl _ _ | assumption | exact Bw.out (by assumption) | refine bw_alloc ?_ _ | refine bw_step ?_ (by assumption) | refine Below.alloc ?_ ?_ _ | refine Below.drew ?_ | refine below_drewN ?_ _ | refine Below.setCell ?_ ?_ _ | refine below_step ?_ (by assumption) ?_ | exact Nat.le_refl _) | omega | (simp; omega) | (simp; done)))⟩
  ·
   rw [show var4 v0 v1 v2 v3 2 = v1 from rfl] at HEV
   obtain ⟨N', D, E, ht⟩ : ∃ N D E, mk3 (v1) 1 = (N, D, E) := ⟨_, _, _, rfl⟩
   have HC := Lib.hid (make_p (v1) 1 N' D E ht)
   rw [HEV.out, ht]
   clear ht
   by_cases h0 : E = 0
   ·
    subst h0
    rw [vE_ok rfl]
    go_enter Try.func101, Try.ntmps101
    go_wp2_with fail
    refine (HC.out _).mono ?_
    rintro e w1 ⟨rfl, hb1⟩
    have R_o_1 : Row w1 (w.heap.size + 1 + 1) [.int .i64 (0), .int .i64 (0)] := by (repeat' (first | (with_reducible assumption) | (with_reducible refine Row.new' _ _ _ (by first | rfl | (simp; done) | omega)) | (with_reducible first | refine Row.alloc ?_ _ | refine Row.drew ?_ | refine Row.step ?_ (by assumption) | refine Row.drewN ?_ _) | (with_reducible refine Row.set2' ?_ _ _; first | exact ⟨_, _, by assumption⟩ | exact ⟨_, _, Row.alloc (by assumption) _⟩) | (with_reducible refine Row.other ?_ (by first | omega | (simp; omega)) _)))
    have c_o_0_1 := R_o_1.cell 0 rfl
    have c_o_1_1 := R_o_1.cell 1 rfl
    have z_o_0_1 := R_o_1.frozen 0
    have z_o_1_1 := R_o_1.frozen 1
    have l_o_1 := R_o_1.lt
    have HB1 : Below w.heap.size w w1 := by (repeat' (first | (with_reducible first | exact Below.refl _ _ | assumption | exact Bw.out (by assumption) | refine bw_alloc ?_ _ | refine bw_step ?_ (by assumption) | refine Below.alloc ?_ ?_ _ | refine Below.drew ?_ | refine below_drewN ?_ _ | refine Below.setCell ?_ ?_ _ | refine below_step ?_ (by assumption) ?_ | exact Nat.le_refl _) | omega | (simp; omega) | (simp; done)))
    go_wp2_with fail
    refine (must_ok N' D _).mono ?_
    rintro e w2 ⟨rfl, hb2⟩
    have R_o_2 : Row w2 (w.heap.size + 1 + 1) [.int .i64 (0), .int .i64 (0)] := by (repeat' (first | (with_reducible assumption) | (with_reducible refine Row.new' _ _ _ (by first | rfl | (simp; done) | omega)) | (with_reducible first | refine Row.alloc ?_ _ | refine Row.drew ?_ | refine Row.step ?_ (by assumption) | refine Row.drewN ?_ _) | (with_reducible refine Row.set2' ?_ _ _; first | exact ⟨_, _, by assumption⟩ | exact ⟨_, _, Row.alloc (by assumption) _⟩) | (with_reducible refine Row.other ?_ (by first | omega | (simp; omega)) _)))
    have c_o_0_2 := R_o_2.cell 0 rfl
    have c_o_1_2 := R_o_2.cell 1 rfl
    have z_o_0_2 := R_o_2.frozen 0
    have z_o_1_2 := R_o_2.frozen 1
    have l_o_2 := R_o_2.lt
    have HB2 : Below w.heap.size w w2 := by (repeat' (first | (with_reducible first | exact Below.refl _ _ | assumption | exact Bw.out (by assumption) | refine bw_alloc ?_ _ | refine bw_step ?_ (by assumption) | refine Below.alloc ?_ ?_ _ | refine Below.drew ?_ | refine below_drewN ?_ _ | refine Below.setCell ?_ ?_ _ | refine below_step ?_ (by assumption) ?_ | exact Nat.le_refl _) | omega | (simp; omega) | (simp; done)))
    clear R_o_1 c_o_0_1 c_o_1_1 z_o_0_1 z_o_1_1 hb1 HB1
    go_wp2_with fail
    have RP := R_o_2.set2 (.int .i64 N') (.int .i64 D)
    have q0 := RP.cell 0 rfl
    have q1 := RP.cell 1 rfl
    refine bodyPost_ret (v := .agg #[.int .i64 N', .int .i64 D]) (by simp [results, Try.results101, go_sem, q0, q1]) rfl ⟨rfl, by (repeat' (first | (with_reducible first | exact Below.refl _ _ | assumption | exact Bw.out (by assumption) | refine bw_alloc ?_ _ | refine bw_step ?_ (by assumption) | refine Below.alloc ?_ ?_ _ | refine Below.drew ?_ | refine below_drewN ?_ _ | refine Below.setCell ?_ ?_ _ | refine below_step ?_ (by assumption) ?_ | exact Nat.le_refl _) | omega | (simp; omega) | (simp; done)))⟩
   ·
    rw [vE_no h0]
    go_enter Try.func101, Try.ntmps101
    go_wp2_with fail
    refine (HC.out _).mono ?_
    rintro e w1 ⟨rfl, hb1⟩
    have HB1 : Below w.heap.size w w1 := by (repeat' (first | (with_reducible first | exact Below.refl _ _ | assumption | exact Bw.out (by assumption) | refine bw_alloc ?_ _ | refine bw_step ?_ (by assumption) | refine Below.alloc ?_ ?_ _ | refine Below.drew ?_ | refine below_drewN ?_ _ | refine Below.setCell ?_ ?_ _ | refine below_step ?_ (by assumption) ?_ | exact Nat.le_refl _) | omega | (simp; omega) | (simp; done)))
    go_wp2_with fail
    refine (must_no N' D E h0 _).mono ?_
    rintro e w2 ⟨rfl, hb2⟩
    (try simp only [Exit.inBlock, Exit.then])
    exact ⟨rfl, rfl, by (repeat' (first | (with_reducible first | exact Below.refl _ _ | assumption | exact Bw.out (by assumption) | refine bw_alloc ?_ _ | refine bw_step ?_ (by assumption) | refine Below.alloc ?_ ?_ _ | refine Below.drew ?_ | refine below_drewN ?_ _ | refine Below.setCell ?_ ?_ _ | refine below_step ?_ (by assumption) ?_ | exact Nat.le_refl _) | omega | (simp; omega) | (simp; done)))⟩
  ·
   rw [show var4 v0 v1 v2 v3 3 = v2 from rfl] at HEV
   obtain ⟨N', D, E, ht⟩ : ∃ N D E, mk3 (v2) 1 = (N, D, E) := ⟨_, _, _, rfl⟩
   have HC := Lib.hid (make_p (v2) 1 N' D E ht)
   rw [HEV.out, ht]
   clear ht
   by_cases h0 : E = 0
   ·
    subst h0
    rw [vE_ok rfl]
    go_enter Try.func101, Try.ntmps101
    go_wp2_with fail
    refine (HC.out _).mono ?_
    rintro e w1 ⟨rfl, hb1⟩
    have R_o_1 : Row w1 (w.heap.size + 1 + 1) [.int .i64 (0), .int .i64 (0)] := by (repeat' (first | (with_reducible assumption) | (with_reducible refine Row.new' _ _ _ (by first | rfl | (simp; done) | omega)) | (with_reducible first | refine Row.alloc ?_ _ | refine Row.drew ?_ | refine Row.step ?_ (by assumption) | refine Row.drewN ?_ _) | (with_reducible refine Row.set2' ?_ _ _; first | exact ⟨_, _, by assumption⟩ | exact ⟨_, _, Row.alloc (by assumption) _⟩) | (with_reducible refine Row.other ?_ (by first | omega | (simp; omega)) _)))
    have c_o_0_1 := R_o_1.cell 0 rfl
    have c_o_1_1 := R_o_1.cell 1 rfl
    have z_o_0_1 := R_o_1.frozen 0
    have z_o_1_1 := R_o_1.frozen 1
    have l_o_1 := R_o_1.lt
    have HB1 : Below w.heap.size w w1 := by (repeat' (first | (with_reducible first | exact Below.refl _ _ | assumption | exact Bw.out (by assumption) | refine bw_alloc ?_ _ | refine bw_step ?_ (by assumption) | refine Below.alloc ?_ ?_ _ | refine Below.drew ?_ | refine below_drewN ?_ _ | refine Below.setCell ?_ ?_ _ | refine below_step ?_ (by assumption) ?_ | exact Nat.le_refl _) | omega | (simp; omega) | (simp; done)))
    go_wp2_with fail
    refine (must_ok N' D _).mono ?_
    rintro e w2 ⟨rfl, hb2⟩
    have R_o_2 : Row w2 (w.heap.size + 1 + 1) [.int .i64 (0), .int .i64 (0)] := by (repeat' (first | (with_reducible assumption) | (with_reducible refine Row.new' _ _ _ (by first | rfl | (simp; done) | omega)) | (with_reducible first | refine Row.alloc ?_ _ | refine Row.drew ?_ | refine Row.step ?_ (by assumption) | refine Row.drewN ?_ _) | (with_reducible refine Row.set2' ?_ _ _; first | exact ⟨_, _, by assumption⟩ | exact ⟨_, _, Row.alloc (by assumption) _⟩) | (with_reducible refine Row.other ?_ (by first | omega | (simp; omega)) _)))
    have c_o_0_2 := R_o_2.cell 0 rfl
    have c_o_1_2 := R_o_2.cell 1 rfl
    have z_o_0_2 := R_o_2.frozen 0
    have z_o_1_2 := R_o_2.frozen 1
    have l_o_2 := R_o_2.lt
    have HB2 : Below w.heap.size w w2 := by (repeat' (first | (with_reducible first | exact Below.refl _ _ | assumption | exact Bw.out (by assumption) | refine bw_alloc ?_ _ | refine bw_step ?_ (by assumption) | refine Below.alloc ?_ ?_ _ | refine Below.drew ?_ | refine below_drewN ?_ _ | refine Below.setCell ?_ ?_ _ | refine below_step ?_ (by assumption) ?_ | exact Nat.le_refl _) | omega | (simp; omega) | (simp; done)))
    clear R_o_1 c_o_0_1 c_o_1_1 z_o_0_1 z_o_1_1 hb1 HB1
    go_wp2_with fail
    have RP := R_o_2.set2 (.int .i64 N') (.int .i64 D)
    have q0 := RP.cell 0 rfl
    have q1 := RP.cell 1 rfl
    refine bodyPost_ret (v := .agg #[.int .i64 N', .int .i64 D]) (by simp [results, Try.results101, go_sem, q0, q1]) rfl ⟨rfl, by (repeat' (first | (with_reducible first | exact Below.refl _ _ | assumption | exact Bw.out (by assumption) | refine bw_alloc ?_ _ | refine bw_step ?_ (by assumption) | refine Below.alloc ?_ ?_ _ | refine Below.drew ?_ | refine below_drewN ?_ _ | refine Below.setCell ?_ ?_ _ | refine below_step ?_ (by assumption) ?_ | exact Nat.le_refl _) | omega | (simp; omega) | (simp; done)))⟩
   ·
    rw [vE_no h0]
    go_enter Try.func101, Try.ntmps101
    go_wp2_with fail
    refine (HC.out _).mono ?_
    rintro e w1 ⟨rfl, hb1⟩
    have HB1 : Below w.heap.size w w1 := by (repeat' (first | (with_reducible first | exact Below.refl _ _ | assumption | exact Bw.out (by assumption) | refine bw_alloc ?_ _ | refine bw_step ?_ (by assumption) | refine Below.alloc ?_ ?_ _ | refine Below.drew ?_ | refine below_drewN ?_ _ | refine Below.setCell ?_ ?_ _ | refine below_step ?_ (by assumption) ?_ | exact Nat.le_refl _) | omega | (simp; omega) | (simp; done)))
    go_wp2_with fail
    refine (must_no N' D E h0 _).mono ?_
    rintro e w2 ⟨rfl, hb2⟩
    (try simp only [Exit.inBlock, Exit.then])
    exact ⟨rfl, rfl, by (repeat' (first | (with_reducible first | exact Below.refl _ _ | assumption | exact Bw.out (by assumption) | refine bw_alloc ?_ _ | refine bw_step ?_ (by assumption) | refine Below.alloc ?_ ?_ _ | refine Below.drew ?_ | refine below_drewN ?_ _ | refine Below.setCell ?_ ?_ _ | refine below_step ?_ (by assumption) ?_ | exact Nat.le_refl _) | omega | (simp; omega) | (simp; done)))⟩
  ·
   rw [show var4 v0 v1 v2 v3 4 = v3 from rfl] at HEV
   obtain ⟨N', D, E, ht⟩ : ∃ N D E, mk3 (v3) 1 = (N, D, E) := ⟨_, _, _, rfl⟩
   have HC := Lib.hid (make_p (v3) 1 N' D E ht)
   rw [HEV.out, ht]
   clear ht
   by_cases h0 : E = 0
   ·
    subst h0
    rw [vE_ok rfl]
    go_enter Try.func101, Try.ntmps101
    go_wp2_with fail
    refine (HC.out _).mono ?_
    rintro e w1 ⟨rfl, hb1⟩
    have R_o_1 : Row w1 (w.heap.size + 1 + 1) [.int .i64 (0), .int .i64 (0)] := by (repeat' (first | (with_reducible assumption) | (with_reducible refine Row.new' _ _ _ (by first | rfl | (simp; done) | omega)) | (with_reducible first | refine Row.alloc ?_ _ | refine Row.drew ?_ | refine Row.step ?_ (by assumption) | refine Row.drewN ?_ _) | (with_reducible refine Row.set2' ?_ _ _; first | exact ⟨_, _, by assumption⟩ | exact ⟨_, _, Row.alloc (by assumption) _⟩) | (with_reducible refine Row.other ?_ (by first | omega | (simp; omega)) _)))
    have c_o_0_1 := R_o_1.cell 0 rfl
    have c_o_1_1 := R_o_1.cell 1 rfl
    have z_o_0_1 := R_o_1.frozen 0
    have z_o_1_1 := R_o_1.frozen 1
    have l_o_1 := R_o_1.lt
    have HB1 : Below w.heap.size w w1 := by (repeat' (first | (with_reducible first | exact Below.refl _ _ | assumption | exact Bw.out (by assumption) | refine bw_alloc ?_ _ | refine bw_step ?_ (by assumption) | refine Below.alloc ?_ ?_ _ | refine Below.drew ?_ | refine below_drewN ?_ _ | refine Below.setCell ?_ ?_ _ | refine below_step ?_ (by assumption) ?_ | exact Nat.le_refl _) | omega | (simp; omega) | (simp; done)))
    go_wp2_with fail
    refine (must_ok N' D _).mono ?_
    rintro e w2 ⟨rfl, hb2⟩
    have R_o_2 : Row w2 (w.heap.size + 1 + 1) [.int .i64 (0), .int .i64 (0)] := by (repeat' (first | (with_reducible assumption) | (with_reducible refine Row.new' _ _ _ (by first | rfl | (simp; done) | omega)) | (with_reducible first | refine Row.alloc ?_ _ | refine Row.drew ?_ | refine Row.step ?_ (by assumption) | refine Row.drewN ?_ _) | (with_reducible refine Row.set2' ?_ _ _; first | exact ⟨_, _, by assumption⟩ | exact ⟨_, _, Row.alloc (by assumption) _⟩) | (with_reducible refine Row.other ?_ (by first | omega | (simp; omega)) _)))
    have c_o_0_2 := R_o_2.cell 0 rfl
    have c_o_1_2 := R_o_2.cell 1 rfl
    have z_o_0_2 := R_o_2.frozen 0
    have z_o_1_2 := R_o_2.frozen 1
    have l_o_2 := R_o_2.lt
    have HB2 : Below w.heap.size w w2 := by (repeat' (first | (with_reducible first | exact Below.refl _ _ | assumption | exact Bw.out (by assumption) | refine bw_alloc ?_ _ | refine bw_step ?_ (by assumption) | refine Below.alloc ?_ ?_ _ | refine Below.drew ?_ | refine below_drewN ?_ _ | refine Below.setCell ?_ ?_ _ | refine below_step ?_ (by assumption) ?_ | exact Nat.le_refl _) | omega | (simp; omega) | (simp; done)))
    clear R_o_1 c_o_0_1 c_o_1_1 z_o_0_1 z_o_1_1 hb1 HB1
    go_wp2_with fail
    have RP := R_o_2.set2 (.int .i64 N') (.int .i64 D)
    have q0 := RP.cell 0 rfl
    have q1 := RP.cell 1 rfl
    refine bodyPost_ret (v := .agg #[.int .i64 N', .int .i64 D]) (by simp [results, Try.results101, go_sem, q0, q1]) rfl ⟨rfl, by (repeat' (first | (with_reducible first | exact Below.refl _ _ | assumption | exact Bw.out (by assumption) | refine bw_alloc ?_ _ | refine bw_step ?_ (by assumption) | refine Below.alloc ?_ ?_ _ | refine Below.drew ?_ | refine below_drewN ?_ _ | refine Below.setCell ?_ ?_ _ | refine below_step ?_ (by assumption) ?_ | exact Nat.le_refl _) | omega | (simp; omega) | (simp; done)))⟩
   ·
    rw [vE_no h0]
    go_enter Try.func101, Try.ntmps101
    go_wp2_with fail
    refine (HC.out _).mono ?_
    rintro e w1 ⟨rfl, hb1⟩
    have HB1 : Below w.heap.size w w1 := by (repeat' (first | (with_reducible first | exact Below.refl _ _ | assumption | exact Bw.out (by assumption) | refine bw_alloc ?_ _ | refine bw_step ?_ (by assumption) | refine Below.alloc ?_ ?_ _ | refine Below.drew ?_ | refine below_drewN ?_ _ | refine Below.setCell ?_ ?_ _ | refine below_step ?_ (by assumption) ?_ | exact Nat.le_refl _) | omega | (simp; omega) | (simp; done)))
    go_wp2_with fail
    refine (must_no N' D E h0 _).mono ?_
    rintro e w2 ⟨rfl, hb2⟩
    (try simp only [Exit.inBlock, Exit.then])
    exact ⟨rfl, rfl, by (repeat' (first | (with_reducible first | exact Below.refl _ _ | assumption | exact Bw.out (by assumption) | refine bw_alloc ?_ _ | refine bw_step ?_ (by assumption) | refine Below.alloc ?_ ?_ _ | refine Below.drew ?_ | refine below_drewN ?_ _ | refine Below.setCell ?_ ?_ _ | refine below_step ?_ (by assumption) ?_ | exact Nat.le_refl _) | omega | (simp; omega) | (simp; done)))⟩
end Go.Proofs.Ytcmodmchnokmgaa
