/-
 Texts built as one: XRvF, XRvE, XRvG, XRvH, XRvI.
-/
import Derived.Test.YtcmodmchnokmgaaGreatMF
import Derived.Test.YtcmodmchnokmgaaGreatRvB
import Derived.Test.YtcmodmchnokmgaaGreatLdR
import Derived.Test.YtcmodmchnokmgaaGreatLdS
namespace Go.Proofs.YtcmodmchnokmgaaGreat
section
set_option linter.unusedSimpArgs false
set_option linter.unusedVariables false
open Go.RowKit
theorem bestR_app (a : AskV) (nt : Int) : ∀ (l : List RateV) (b o : Option RateV) (m : List RateV), bestR a nt b l = (o, 0) → bestR a nt b (l ++ m) = bestR a nt o m
 | [], b, o, m, h => by
  simp only [bestR, Prod.mk.injEq, and_true] at h
  subst h; rfl
 | r :: l, b, o, m, h => by
  rw [List.cons_append]
  by_cases h1 : (appl r a nt).2 ≠ 0
  ·
   simp only [bestR] at h
   rw [if_pos h1] at h
   simp only [Prod.mk.injEq] at h
   exact (h1 h.2).elim
  ·
   simp only [bestR] at h ⊢
   rw [if_neg h1] at h ⊢
   exact bestR_app a nt l _ o m h
theorem bestR_bad (a : AskV) (nt : Int) : ∀ (l : List RateV) (b : Option RateV) (m : List RateV), (bestR a nt b l).2 ≠ 0 → bestR a nt b (l ++ m) = bestR a nt b l
 | [], b, m, h => by simp [bestR] at h
 | r :: l, b, m, h => by
  rw [List.cons_append]
  by_cases h1 : (appl r a nt).2 ≠ 0
  ·
   simp only [bestR]
   rw [if_pos h1, if_pos h1]
  ·
   simp only [bestR] at h ⊢
   rw [if_neg h1] at h
   rw [if_neg h1, if_neg h1]
   exact bestR_bad a nt l _ m h
/-- The index of the best one, of the first ones. -/
def IdxO (l : List RateV) (k : Nat) (o : Option RateV) (z : Int) : Prop := (o = none ∧ z = -1) ∨ ∃ (j : Nat) (x : RateV), j < k ∧ l[j]? = some x ∧ o = some x ∧ z = j
theorem take_snoc {l : List RateV} {k : Nat} {x : RateV} (h : l[k]? = some x) : l.take (k + 1) = l.take k ++ [x] := by
 obtain ⟨hk, e⟩ := List.getElem?_eq_some_iff.1 h
 rw [List.take_succ_eq_append_getElem hk, e]
/-- A round: an error; a rate that does not apply; a better one; a worse one. -/
theorem best_err {l : List RateV} {a : AskV} {nt : Int} {k : Nat} {x : RateV} {o : Option RateV} (hx : l[k]? = some x) (h : bestR a nt none (l.take k) = (o, 0)) (he : (appl x a nt).2 ≠ 0) : bestR a nt none l = (none, (appl x a nt).2) := by
 have h1 : bestR a nt none (l.take (k + 1)) = (none, (appl x a nt).2) := by
  rw [take_snoc hx, bestR_app a nt _ _ o _ h]
  simp only [bestR]
  rw [if_pos he]
 have h2 := bestR_bad a nt (l.take (k + 1)) none (l.drop (k + 1)) (by rw [h1]; exact he)
 rw [List.take_append_drop] at h2
 rw [h2, h1]
theorem best_step {l : List RateV} {a : AskV} {nt : Int} {k : Nat} {x : RateV} {o : Option RateV} (hx : l[k]? = some x) (h : bestR a nt none (l.take k) = (o, 0)) (he : (appl x a nt).2 = 0) : bestR a nt none (l.take (k + 1)) = (if (appl x a nt).1 then upd1 o x else o, 0) := by
 rw [take_snoc hx, bestR_app a nt _ _ o _ h]
 simp only [bestR]
 rw [if_neg (by omega)]
/-- What Night answers, by the best rate. -/
theorem night_err {l : List RateV} {a : AskV} {nt N I E e : Int} {o : Option RateV} (hin : (validR l && (askB a && inN a nt)) = true) (hR : nightV l a nt = (N, I, E)) (hb : bestR a nt none l = (o, e)) (he : e ≠ 0) : N = 0 ∧ I = 0 ∧ E = e := by
 unfold nightV at hR
 rw [if_pos hin] at hR
 unfold priceN at hR
 rw [hb] at hR
 simp only at hR
 rw [if_pos he] at hR
 simp only [Prod.mk.injEq] at hR
 exact ⟨hR.1.symm, hR.2.1.symm, hR.2.2.symm⟩
theorem night_none {l : List RateV} {a : AskV} {nt N I E : Int} (hin : (validR l && (askB a && inN a nt)) = true) (hR : nightV l a nt = (N, I, E)) (hb : bestR a nt none l = (none, 0)) : N = 0 ∧ I = 0 ∧ E = 4 := by
 unfold nightV at hR
 rw [if_pos hin] at hR
 unfold priceN at hR
 rw [hb] at hR
 simp at hR
 exact ⟨hR.1.symm, hR.2.1.symm, hR.2.2.symm⟩
theorem night_some {l : List RateV} {a : AskV} {nt N I E N1 D1 E1 : Int} {r : RateV} (hin : (validR l && (askB a && inN a nt)) = true) (hR : nightV l a nt = (N, I, E)) (hb : bestR a nt none l = (some r, 0)) (hv : r.pr.ev (a.vars nt) = (N1, D1, E1)) :
  (E1 ≠ 0 → N = 0 ∧ I = 0 ∧ E = E1) ∧ (E1 = 0 → rnd 3 N1 D1 < 0 → N = 0 ∧ I = 0 ∧ E = 22) ∧ (E1 = 0 → ¬ rnd 3 N1 D1 < 0 → N = rnd 3 N1 D1 ∧ I = r.id ∧ E = 0) := by
 have hc : costR a nt r = if E1 ≠ 0 then (0, E1) else if rnd 3 N1 D1 < 0 then (0, 22) else (rnd 3 N1 D1, 0) := by unfold costR; rw [hv]
 unfold nightV at hR
 rw [if_pos hin] at hR
 unfold priceN at hR
 rw [hb] at hR
 simp only at hR
 rw [if_neg (by simp)] at hR
 refine ⟨fun h => ?_, fun h h2 => ?_, fun h h2 => ?_⟩
 ·
  rw [if_pos h] at hc
  rw [hc] at hR
  simp only at hR
  rw [if_pos h] at hR
  simp only [Prod.mk.injEq] at hR
  exact ⟨hR.1.symm, hR.2.1.symm, hR.2.2.symm⟩
 ·
  rw [if_neg (show ¬ E1 ≠ 0 by omega), if_pos h2] at hc
  rw [hc] at hR
  simp at hR
  exact ⟨hR.1.symm, hR.2.1.symm, hR.2.2.symm⟩
 ·
  rw [if_neg (show ¬ E1 ≠ 0 by omega), if_neg h2] at hc
  rw [hc] at hR
  simp at hR
  exact ⟨hR.1.symm, hR.2.1.symm, hR.2.2.symm⟩
theorem applV_in {l : List RateV} {a : AskV} {nt : Int} {x : RateV} (hin : (validR l && (askB a && inN a nt)) = true) (hx : x ∈ l) : applV x a nt = appl x a nt := by
 simp only [Bool.and_eq_true] at hin
 unfold applV
 rw [if_pos (by rw [(validR_in hin.1).2 x hx, hin.2.1, hin.2.2]; rfl)]
/-! The rate of an id. -/
def keepL (l : List RateV) (id : Int) : Int × Int := match l.find? (fun r => decide (r.id = id)) with | some r => (r.kn, r.kk) | none => (0, 0)
theorem id_one : ∀ {l : List RateV}, (l.map RateV.id).Nodup → ∀ {x y : RateV}, x ∈ l → y ∈ l → x.id = y.id → x = y
 | [], _, _, _, hx, _, _ => by simp at hx
 | z :: r, h, x, y, hx, hy, e => by
  rw [List.map_cons, List.nodup_cons] at h
  rcases List.mem_cons.1 hx with rfl | hx1 <;> rcases List.mem_cons.1 hy with rfl | hy1
  ·
   rfl
  ·
   exact (h.1 (List.mem_map.2 ⟨y, hy1, e.symm⟩)).elim
  ·
   exact (h.1 (List.mem_map.2 ⟨x, hx1, e⟩)).elim
  ·
   exact id_one h.2 hx1 hy1 e
theorem keepL_of {l : List RateV} (hn : (l.map RateV.id).Nodup) {r : RateV} (h : r ∈ l) : keepL l r.id = (r.kn, r.kk) := by
 unfold keepL
 cases hf : l.find? (fun x => decide (x.id = r.id)) with
 | none =>
  have := List.find?_eq_none.1 hf r h
  simp at this
 | some x =>
  have h1 := List.find?_some hf
  have h2 := List.mem_of_find?_eq_some hf
  rw [id_one hn h2 h (by simpa using h1)]
theorem bestR_mem (a : AskV) (nt : Int) : ∀ (l : List RateV) (b o : Option RateV) (e : Int), bestR a nt b l = (o, e) → ∀ x, o = some x → x ∈ l ∨ b = some x
 | [], b, o, e, h, x, hx => by
  simp only [bestR, Prod.mk.injEq] at h
  exact Or.inr (h.1.trans hx)
 | r :: l, b, o, e, h, x, hx => by
  simp only [bestR] at h
  split at h
  ·
   simp only [Prod.mk.injEq] at h
   rw [← h.1] at hx; cases hx
  ·
   rcases bestR_mem a nt l _ o e h x hx with h1 | h1
   ·
    exact Or.inl (List.mem_cons_of_mem _ h1)
   ·
    split at h1
    ·
     rcases upd1_mem h1 with rfl | h2
     ·
      exact Or.inl (by simp)
     ·
      exact Or.inr h2
    ·
     exact Or.inr h1
/-- What is kept of a night: by the rate of its id. -/
theorem keep_night {l : List RateV} {a : AskV} {nt N E : Int} {b : Option RateV} (hv : validR l = true) (h : priceN l a nt = (N, b, E)) (hE : E = 0) : keepL l (b.getD zR).id = ((b.getD zR).kn, (b.getD zR).kk) := by
 have hn : (l.map RateV.id).Nodup := by
  unfold validR at hv
  simp only [Bool.and_eq_true, decide_eq_true_eq] at hv
  exact hv.2.2
 unfold priceN at h
 obtain ⟨o, e, hb⟩ : ∃ o e, bestR a nt none l = (o, e) := ⟨_, _, rfl⟩
 rw [hb] at h
 simp only at h
 split at h
 ·
  rename_i h1
  simp only [Prod.mk.injEq] at h
  exact (h1 (h.2.2.trans hE)).elim
 ·
  cases o with
  | none => simp at h; omega
  | some r =>
   simp only at h
   split at h
   ·
    rename_i h1
    simp only [Prod.mk.injEq] at h
    exact (h1 (h.2.2.trans hE)).elim
   ·
    simp only [Prod.mk.injEq] at h
    rw [← h.2.1]
    refine keepL_of hn ?_
    rcases bestR_mem a nt l none _ e hb r rfl with h1 | h1
    ·
     exact h1
    ·
     cases h1
theorem keepL_none {l : List RateV} {id : Int} (h : ∀ x ∈ l, x.id ≠ id) : keepL l id = (0, 0) := by
 unfold keepL
 rw [List.find?_eq_none.2 (fun x hx => by simpa using h x hx)]
theorem keepL_first {l : List RateV} {id : Int} {k : Nat} {x : RateV} (hx : l[k]? = some x) (hid : x.id = id) (h : ∀ y ∈ l.take k, y.id ≠ id) : keepL l id = (x.kn, x.kk) := by
 unfold keepL
 have e : l = l.take k ++ x :: l.drop (k + 1) := by
  obtain ⟨hk, e⟩ := List.getElem?_eq_some_iff.1 hx
  rw [← e, List.getElem_cons_drop, List.take_append_drop]
 have hf : (l.take k ++ x :: l.drop (k + 1)).find? (fun r => decide (r.id = id)) = some x := by
  rw [List.find?_append, List.find?_eq_none.2 (fun y hy => by simpa using h y hy), List.find?_cons]
  simp [hid]
 rw [← e] at hf
 rw [hf]
end
section
set_option linter.unusedSimpArgs false
set_option linter.unusedVariables false
open Go.RowKit
theorem R_valid8_p (x : Ex) (w : World) (h : x.In w) (p : Bool) (hp : validE x = p) :
  Calls Tryz.prog 17 #[.agg #[.int .i64 x.op, .int .i64 x.n, .slice x.at' x.ks.length x.cap]] w fun e w' => e = .returned (.bool p) ∧ Below w.heap.size w w' := by
 subst hp; exact R_valid8 x w h
theorem R_eval_p (x : Ex) (v0 v1 v2 v3 : Int) (w : World) (h : x.In w) (hok : x.ok = true) (N D E : Int) (hR : x.ev (var4 v0 v1 v2 v3) = (N, D, E)) :
  Calls Tryz.prog 28 #[.agg #[.int .i64 x.op, .int .i64 x.n, .slice x.at' x.ks.length x.cap], .agg #[.int .i64 v0, .int .i64 v1, .int .i64 v2, .int .i64 v3]] w fun e w' => e = .returned (.tuple #[.agg #[.int .i64 N, .int .i64 D], .int .i64 E]) ∧ Below w.heap.size w w' :=
 R_eval_all v0 v1 v2 v3 x.size x (Nat.le_refl _) w h hok N D E hR
set_option maxRecDepth 100000 in
set_option maxHeartbeats 4000000 in
theorem R_Eval_p (x : Ex) (v0 v1 v2 v3 : Int) (w : World) (h : x.In w) (N D F : Int) (hR : evalV x v0 v1 v2 v3 = (N, D, F)) :
  Calls Tryz.prog 9 #[.agg #[.int .i64 x.op, .int .i64 x.n, .slice x.at' x.ks.length x.cap], .agg #[.int .i64 v0, .int .i64 v1, .int .i64 v2, .int .i64 v3]] w fun e w' => e = .returned (.tuple #[.agg #[.int .i64 N, .int .i64 D], .int .i64 F]) ∧ Below w.heap.size w w' := by
 have HIN := Lib.hid h
 obtain ⟨p, hp⟩ : ∃ p, validE x = p := ⟨_, rfl⟩
 obtain ⟨q, hq⟩ : ∃ q, varsB v0 v1 v2 v3 = q := ⟨_, rfl⟩
 obtain ⟨T, hT⟩ : ∃ T, x.ty = T := ⟨_, rfl⟩
 have hno : (p = false ∨ q = false ∨ T = 0) → N = 0 ∧ D = 0 ∧ F = 1 := fun h => by
  unfold evalV at hR
  rw [if_neg] at hR
  ·
   simp only [Prod.mk.injEq] at hR; exact ⟨hR.1.symm, hR.2.1.symm, hR.2.2.symm⟩
  ·
   rw [hp, hq, hT]
   intro hc
   simp only [Bool.and_eq_true, decide_eq_true_eq] at hc
   rcases h with h | h | h
   ·
    rw [h] at hc; exact absurd hc.1.1 (by simp)
   ·
    rw [h] at hc; exact absurd hc.2 (by simp)
   ·
    exact hc.1.2 h
 have hyes : p = true → q = true → T ≠ 0 → x.ev (var4 v0 v1 v2 v3) = (N, D, F) := fun h1 h2 h3 => by
  unfold evalV at hR
  rw [hp, hq, hT, h1, h2, if_pos (by simp [h3])] at hR
  exact hR
 have HP := Lib.hid hp
 have HQ := Lib.hid hq
 have HT := Lib.hid hT
 have HNO := Lib.hid hno
 have HYES := Lib.hid hyes
 clear hp hq hT hno hyes hR h
 go_enter Tryz.func9, Tryz.ntmps9
 go_wp2_with fail
 refine (R_valid8_p x _ (HIN.out.step ((((Below.refl w.heap.size w).alloc (Nat.le_refl _) _).alloc (by simp) _).alloc (by first | (simp; done) | (simp; omega)) _)) p HP.out).mono ?_
 rintro e w1 ⟨rfl, hb1⟩
 have R_e_1 : Row w1 (w.heap.size) [.int .i64 x.op, .int .i64 x.n, .slice x.at' x.ks.length x.cap] := by (repeat' (first | (with_reducible assumption) | (with_reducible refine Row.new' _ _ _ (by first | rfl | (simp; done) | omega)) | (with_reducible first | refine Row.alloc ?_ _ | refine Row.drew ?_ | refine Row.step ?_ (by assumption) | refine Row.drewN ?_ _) | (with_reducible refine Row.set2' ?_ _ _; first | exact ⟨_, _, by assumption⟩ | exact ⟨_, _, Row.alloc (by assumption) _⟩) | (with_reducible refine Row.other ?_ (by first | omega | (simp; omega)) _)))
 have c_e_0_1 := R_e_1.cell 0 rfl
 have c_e_1_1 := R_e_1.cell 1 rfl
 have c_e_2_1 := R_e_1.cell 2 rfl
 have l_e_1 := R_e_1.lt
 have R_v_1 : Row w1 (w.heap.size + 1) [.int .i64 (v0), .int .i64 (v1), .int .i64 (v2), .int .i64 (v3)] := by (repeat' (first | (with_reducible assumption) | (with_reducible refine Row.new' _ _ _ (by first | rfl | (simp; done) | omega)) | (with_reducible first | refine Row.alloc ?_ _ | refine Row.drew ?_ | refine Row.step ?_ (by assumption) | refine Row.drewN ?_ _) | (with_reducible refine Row.set2' ?_ _ _; first | exact ⟨_, _, by assumption⟩ | exact ⟨_, _, Row.alloc (by assumption) _⟩) | (with_reducible refine Row.other ?_ (by first | omega | (simp; omega)) _)))
 have c_v_0_1 := R_v_1.cell 0 rfl
 have c_v_1_1 := R_v_1.cell 1 rfl
 have c_v_2_1 := R_v_1.cell 2 rfl
 have c_v_3_1 := R_v_1.cell 3 rfl
 have l_v_1 := R_v_1.lt
 have R_o_1 : Row w1 (w.heap.size + 1 + 1) [.int .i64 (0), .int .i64 (0)] := by (repeat' (first | (with_reducible assumption) | (with_reducible refine Row.new' _ _ _ (by first | rfl | (simp; done) | omega)) | (with_reducible first | refine Row.alloc ?_ _ | refine Row.drew ?_ | refine Row.step ?_ (by assumption) | refine Row.drewN ?_ _) | (with_reducible refine Row.set2' ?_ _ _; first | exact ⟨_, _, by assumption⟩ | exact ⟨_, _, Row.alloc (by assumption) _⟩) | (with_reducible refine Row.other ?_ (by first | omega | (simp; omega)) _)))
 have c_o_0_1 := R_o_1.cell 0 rfl
 have c_o_1_1 := R_o_1.cell 1 rfl
 have z_o_0_1 := R_o_1.frozen 0
 have z_o_1_1 := R_o_1.frozen 1
 have l_o_1 := R_o_1.lt
 have HB1 : Below w.heap.size w w1 := by (repeat' (first | (with_reducible first | exact Below.refl _ _ | assumption | exact Bw.out (by assumption) | refine bw_alloc ?_ _ | refine bw_step ?_ (by assumption) | refine Below.alloc ?_ ?_ _ | refine Below.drew ?_ | refine below_drewN ?_ _ | refine Below.setCell ?_ ?_ _ | refine below_step ?_ (by assumption) ?_ | exact Nat.le_refl _) | omega | (simp; omega) | (simp; done)))
 go_wp2_with fail
 refine (R_varsB_p v0 v1 v2 v3 q HQ.out _).mono ?_
 rintro e w2 ⟨rfl, hb2⟩
 have R_e_2 : Row w2 (w.heap.size) [.int .i64 x.op, .int .i64 x.n, .slice x.at' x.ks.length x.cap] := by (repeat' (first | (with_reducible assumption) | (with_reducible refine Row.new' _ _ _ (by first | rfl | (simp; done) | omega)) | (with_reducible first | refine Row.alloc ?_ _ | refine Row.drew ?_ | refine Row.step ?_ (by assumption) | refine Row.drewN ?_ _) | (with_reducible refine Row.set2' ?_ _ _; first | exact ⟨_, _, by assumption⟩ | exact ⟨_, _, Row.alloc (by assumption) _⟩) | (with_reducible refine Row.other ?_ (by first | omega | (simp; omega)) _)))
 have c_e_0_2 := R_e_2.cell 0 rfl
 have c_e_1_2 := R_e_2.cell 1 rfl
 have c_e_2_2 := R_e_2.cell 2 rfl
 have l_e_2 := R_e_2.lt
 have R_v_2 : Row w2 (w.heap.size + 1) [.int .i64 (v0), .int .i64 (v1), .int .i64 (v2), .int .i64 (v3)] := by (repeat' (first | (with_reducible assumption) | (with_reducible refine Row.new' _ _ _ (by first | rfl | (simp; done) | omega)) | (with_reducible first | refine Row.alloc ?_ _ | refine Row.drew ?_ | refine Row.step ?_ (by assumption) | refine Row.drewN ?_ _) | (with_reducible refine Row.set2' ?_ _ _; first | exact ⟨_, _, by assumption⟩ | exact ⟨_, _, Row.alloc (by assumption) _⟩) | (with_reducible refine Row.other ?_ (by first | omega | (simp; omega)) _)))
 have c_v_0_2 := R_v_2.cell 0 rfl
 have c_v_1_2 := R_v_2.cell 1 rfl
 have c_v_2_2 := R_v_2.cell 2 rfl
 have c_v_3_2 := R_v_2.cell 3 rfl
 have l_v_2 := R_v_2.lt
 have R_o_2 : Row w2 (w.heap.size + 1 + 1) [.int .i64 (0), .int .i64 (0)] := by (repeat' (first | (with_reducible assumption) | (with_reducible refine Row.new' _ _ _ (by first | rfl | (simp; done) | omega)) | (with_reducible first | refine Row.alloc ?_ _ | refine Row.drew ?_ | refine Row.step ?_ (by assumption) | refine Row.drewN ?_ _) | (with_reducible refine Row.set2' ?_ _ _; first | exact ⟨_, _, by assumption⟩ | exact ⟨_, _, Row.alloc (by assumption) _⟩) | (with_reducible refine Row.other ?_ (by first | omega | (simp; omega)) _)))
 have c_o_0_2 := R_o_2.cell 0 rfl
 have c_o_1_2 := R_o_2.cell 1 rfl
 have z_o_0_2 := R_o_2.frozen 0
 have z_o_1_2 := R_o_2.frozen 1
 have l_o_2 := R_o_2.lt
 have HB2 : Below w.heap.size w w2 := by (repeat' (first | (with_reducible first | exact Below.refl _ _ | assumption | exact Bw.out (by assumption) | refine bw_alloc ?_ _ | refine bw_step ?_ (by assumption) | refine Below.alloc ?_ ?_ _ | refine Below.drew ?_ | refine below_drewN ?_ _ | refine Below.setCell ?_ ?_ _ | refine below_step ?_ (by assumption) ?_ | exact Nat.le_refl _) | omega | (simp; omega) | (simp; done)))
 clear R_e_1 c_e_0_1 c_e_1_1 c_e_2_1 R_v_1 c_v_0_1 c_v_1_1 c_v_2_1 c_v_3_1 R_o_1 c_o_0_1 c_o_1_1 z_o_0_1 z_o_1_1 hb1 HB1
 cases p with
 | false =>
  obtain ⟨rfl, rfl, rfl⟩ := HNO.out (Or.inl (by simp))
  go_wp2_with fail
  have RP := R_o_2.set2 (.int .i64 (0)) (.int .i64 (0))
  have q0 := RP.cell 0 rfl
  have q1 := RP.cell 1 rfl
  refine bodyPost_ret (v := .tuple #[.agg #[.int .i64 (0), .int .i64 (0)], .int .i64 (1)]) (by simp [results, Tryz.results9, go_sem, q0, q1]) rfl ⟨rfl, by (repeat' (first | (with_reducible first | exact Below.refl _ _ | assumption | exact Bw.out (by assumption) | refine bw_alloc ?_ _ | refine bw_step ?_ (by assumption) | refine Below.alloc ?_ ?_ _ | refine Below.drew ?_ | refine below_drewN ?_ _ | refine Below.setCell ?_ ?_ _ | refine below_step ?_ (by assumption) ?_ | exact Nat.le_refl _) | omega | (simp; omega) | (simp; done)))⟩
 | true =>
  cases q with
  | false =>
   obtain ⟨rfl, rfl, rfl⟩ := HNO.out (Or.inr (Or.inl (by simp)))
   go_wp2_with fail
   have RP := R_o_2.set2 (.int .i64 (0)) (.int .i64 (0))
   have q0 := RP.cell 0 rfl
   have q1 := RP.cell 1 rfl
   refine bodyPost_ret (v := .tuple #[.agg #[.int .i64 (0), .int .i64 (0)], .int .i64 (1)]) (by simp [results, Tryz.results9, go_sem, q0, q1]) rfl ⟨rfl, by (repeat' (first | (with_reducible first | exact Below.refl _ _ | assumption | exact Bw.out (by assumption) | refine bw_alloc ?_ _ | refine bw_step ?_ (by assumption) | refine Below.alloc ?_ ?_ _ | refine Below.drew ?_ | refine below_drewN ?_ _ | refine Below.setCell ?_ ?_ _ | refine below_step ?_ (by assumption) ?_ | exact Nat.le_refl _) | omega | (simp; omega) | (simp; done)))⟩
  | true =>
   go_wp2_with fail
   refine (R_type_p x _ (HIN.out.step HB2) HP.out T HT.out).mono ?_
   rintro e w3 ⟨rfl, hb3⟩
   have R_e_3 : Row w3 (w.heap.size) [.int .i64 x.op, .int .i64 x.n, .slice x.at' x.ks.length x.cap] := by (repeat' (first | (with_reducible assumption) | (with_reducible refine Row.new' _ _ _ (by first | rfl | (simp; done) | omega)) | (with_reducible first | refine Row.alloc ?_ _ | refine Row.drew ?_ | refine Row.step ?_ (by assumption) | refine Row.drewN ?_ _) | (with_reducible refine Row.set2' ?_ _ _; first | exact ⟨_, _, by assumption⟩ | exact ⟨_, _, Row.alloc (by assumption) _⟩) | (with_reducible refine Row.other ?_ (by first | omega | (simp; omega)) _)))
   have c_e_0_3 := R_e_3.cell 0 rfl
   have c_e_1_3 := R_e_3.cell 1 rfl
   have c_e_2_3 := R_e_3.cell 2 rfl
   have l_e_3 := R_e_3.lt
   have R_v_3 : Row w3 (w.heap.size + 1) [.int .i64 (v0), .int .i64 (v1), .int .i64 (v2), .int .i64 (v3)] := by (repeat' (first | (with_reducible assumption) | (with_reducible refine Row.new' _ _ _ (by first | rfl | (simp; done) | omega)) | (with_reducible first | refine Row.alloc ?_ _ | refine Row.drew ?_ | refine Row.step ?_ (by assumption) | refine Row.drewN ?_ _) | (with_reducible refine Row.set2' ?_ _ _; first | exact ⟨_, _, by assumption⟩ | exact ⟨_, _, Row.alloc (by assumption) _⟩) | (with_reducible refine Row.other ?_ (by first | omega | (simp; omega)) _)))
   have c_v_0_3 := R_v_3.cell 0 rfl
   have c_v_1_3 := R_v_3.cell 1 rfl
   have c_v_2_3 := R_v_3.cell 2 rfl
   have c_v_3_3 := R_v_3.cell 3 rfl
   have l_v_3 := R_v_3.lt
   have R_o_3 : Row w3 (w.heap.size + 1 + 1) [.int .i64 (0), .int .i64 (0)] := by (repeat' (first | (with_reducible assumption) | (with_reducible refine Row.new' _ _ _ (by first | rfl | (simp; done) | omega)) | (with_reducible first | refine Row.alloc ?_ _ | refine Row.drew ?_ | refine Row.step ?_ (by assumption) | refine Row.drewN ?_ _) | (with_reducible refine Row.set2' ?_ _ _; first | exact ⟨_, _, by assumption⟩ | exact ⟨_, _, Row.alloc (by assumption) _⟩) | (with_reducible refine Row.other ?_ (by first | omega | (simp; omega)) _)))
   have c_o_0_3 := R_o_3.cell 0 rfl
   have c_o_1_3 := R_o_3.cell 1 rfl
   have z_o_0_3 := R_o_3.frozen 0
   have z_o_1_3 := R_o_3.frozen 1
   have l_o_3 := R_o_3.lt
   have HB3 : Below w.heap.size w w3 := by (repeat' (first | (with_reducible first | exact Below.refl _ _ | assumption | exact Bw.out (by assumption) | refine bw_alloc ?_ _ | refine bw_step ?_ (by assumption) | refine Below.alloc ?_ ?_ _ | refine Below.drew ?_ | refine below_drewN ?_ _ | refine Below.setCell ?_ ?_ _ | refine below_step ?_ (by assumption) ?_ | exact Nat.le_refl _) | omega | (simp; omega) | (simp; done)))
   clear R_e_2 c_e_0_2 c_e_1_2 c_e_2_2 R_v_2 c_v_0_2 c_v_1_2 c_v_2_2 c_v_3_2 R_o_2 c_o_0_2 c_o_1_2 z_o_0_2 z_o_1_2 hb2 HB2
   by_cases hT : T = 0
   ·
    obtain ⟨rfl, rfl, rfl⟩ := HNO.out (Or.inr (Or.inr hT))
    have hT' : (T == 0) = true := by simpa using hT
    clear hT
    go_wp2_with fail
    have RP := R_o_3.set2 (.int .i64 (0)) (.int .i64 (0))
    have q0 := RP.cell 0 rfl
    have q1 := RP.cell 1 rfl
    refine bodyPost_ret (v := .tuple #[.agg #[.int .i64 (0), .int .i64 (0)], .int .i64 (1)]) (by simp [results, Tryz.results9, go_sem, q0, q1]) rfl ⟨rfl, by (repeat' (first | (with_reducible first | exact Below.refl _ _ | assumption | exact Bw.out (by assumption) | refine bw_alloc ?_ _ | refine bw_step ?_ (by assumption) | refine Below.alloc ?_ ?_ _ | refine Below.drew ?_ | refine below_drewN ?_ _ | refine Below.setCell ?_ ?_ _ | refine below_step ?_ (by assumption) ?_ | exact Nat.le_refl _) | omega | (simp; omega) | (simp; done)))⟩
   ·
    have hT' : (T == 0) = false := by simpa using hT
    have G := Lib.hid (HYES.out (by simp) (by simp) hT)
    clear hT
    go_wp2_with fail
    refine (R_eval_p x v0 v1 v2 v3 _ (HIN.out.step HB3) (validE_ok HP.out) N D F G.out).mono ?_
    rintro e w4 ⟨rfl, hb4⟩
    have R_e_4 : Row w4 (w.heap.size) [.int .i64 x.op, .int .i64 x.n, .slice x.at' x.ks.length x.cap] := by (repeat' (first | (with_reducible assumption) | (with_reducible refine Row.new' _ _ _ (by first | rfl | (simp; done) | omega)) | (with_reducible first | refine Row.alloc ?_ _ | refine Row.drew ?_ | refine Row.step ?_ (by assumption) | refine Row.drewN ?_ _) | (with_reducible refine Row.set2' ?_ _ _; first | exact ⟨_, _, by assumption⟩ | exact ⟨_, _, Row.alloc (by assumption) _⟩) | (with_reducible refine Row.other ?_ (by first | omega | (simp; omega)) _)))
    have c_e_0_4 := R_e_4.cell 0 rfl
    have c_e_1_4 := R_e_4.cell 1 rfl
    have c_e_2_4 := R_e_4.cell 2 rfl
    have l_e_4 := R_e_4.lt
    have R_v_4 : Row w4 (w.heap.size + 1) [.int .i64 (v0), .int .i64 (v1), .int .i64 (v2), .int .i64 (v3)] := by (repeat' (first | (with_reducible assumption) | (with_reducible refine Row.new' _ _ _ (by first | rfl | (simp; done) | omega)) | (with_reducible first | refine Row.alloc ?_ _ | refine Row.drew ?_ | refine Row.step ?_ (by assumption) | refine Row.drewN ?_ _) | (with_reducible refine Row.set2' ?_ _ _; first | exact ⟨_, _, by assumption⟩ | exact ⟨_, _, Row.alloc (by assumption) _⟩) | (with_reducible refine Row.other ?_ (by first | omega | (simp; omega)) _)))
    have c_v_0_4 := R_v_4.cell 0 rfl
    have c_v_1_4 := R_v_4.cell 1 rfl
    have c_v_2_4 := R_v_4.cell 2 rfl
    have c_v_3_4 := R_v_4.cell 3 rfl
    have l_v_4 := R_v_4.lt
    have R_o_4 : Row w4 (w.heap.size + 1 + 1) [.int .i64 (0), .int .i64 (0)] := by (repeat' (first | (with_reducible assumption) | (with_reducible refine Row.new' _ _ _ (by first | rfl | (simp; done) | omega)) | (with_reducible first | refine Row.alloc ?_ _ | refine Row.drew ?_ | refine Row.step ?_ (by assumption) | refine Row.drewN ?_ _) | (with_reducible refine Row.set2' ?_ _ _; first | exact ⟨_, _, by assumption⟩ | exact ⟨_, _, Row.alloc (by assumption) _⟩) | (with_reducible refine Row.other ?_ (by first | omega | (simp; omega)) _)))
    have c_o_0_4 := R_o_4.cell 0 rfl
    have c_o_1_4 := R_o_4.cell 1 rfl
    have z_o_0_4 := R_o_4.frozen 0
    have z_o_1_4 := R_o_4.frozen 1
    have l_o_4 := R_o_4.lt
    have HB4 : Below w.heap.size w w4 := by (repeat' (first | (with_reducible first | exact Below.refl _ _ | assumption | exact Bw.out (by assumption) | refine bw_alloc ?_ _ | refine bw_step ?_ (by assumption) | refine Below.alloc ?_ ?_ _ | refine Below.drew ?_ | refine below_drewN ?_ _ | refine Below.setCell ?_ ?_ _ | refine below_step ?_ (by assumption) ?_ | exact Nat.le_refl _) | omega | (simp; omega) | (simp; done)))
    clear R_e_3 c_e_0_3 c_e_1_3 c_e_2_3 R_v_3 c_v_0_3 c_v_1_3 c_v_2_3 c_v_3_3 R_o_3 c_o_0_3 c_o_1_3 z_o_0_3 z_o_1_3 hb3 HB3
    go_wp2_with fail
    have RP := R_o_4.set2 (.int .i64 (N)) (.int .i64 (D))
    have q0 := RP.cell 0 rfl
    have q1 := RP.cell 1 rfl
    refine bodyPost_ret (v := .tuple #[.agg #[.int .i64 (N), .int .i64 (D)], .int .i64 (F)]) (by simp [results, Tryz.results9, go_sem, q0, q1]) rfl ⟨rfl, by (repeat' (first | (with_reducible first | exact Below.refl _ _ | assumption | exact Bw.out (by assumption) | refine bw_alloc ?_ _ | refine bw_step ?_ (by assumption) | refine Below.alloc ?_ ?_ _ | refine Below.drew ?_ | refine below_drewN ?_ _ | refine Below.setCell ?_ ?_ _ | refine below_step ?_ (by assumption) ?_ | exact Nat.le_refl _) | omega | (simp; omega) | (simp; done)))⟩
theorem two_pow_pos (k : Nat) : (0 : Int) < 2 ^ k := by
 induction k with
 | zero => decide
 | succ k ih => rw [Int.pow_succ]; omega
theorem bit_step {ar : Int} (h : 0 ≤ ar) (k : Nat) : (ar / 2 ^ k).tdiv 2 = ar / 2 ^ (k + 1) := by
 rw [Int.tdiv_eq_ediv_of_nonneg (Int.ediv_nonneg h (Int.le_of_lt (two_pow_pos k))), Int.pow_succ, Int.ediv_ediv_of_nonneg (Int.le_of_lt (two_pow_pos k))]
set_option maxRecDepth 100000 in
set_option maxHeartbeats 1600000 in
theorem R_bit_p (ar : Int) (d : Nat) (w : World) (h0 : 0 ≤ ar) (h1 : ar ≤ 127) (hd : d ≤ 6) (b : Bool) (hb : bitB ar d = b) :
  Calls Tryz.prog 64 #[.int .i64 ar, .int .i64 d] w fun e w' => e = .returned (.bool b) ∧ Below w.heap.size w w' := by
 have HB : Hid (decide (ar / 2 ^ d % 2 = 1) = b) := by
  show _ = _
  rw [← hb]; unfold bitB; simp
 have H0 := Lib.hid h0
 clear hb h0
 go_enter Tryz.func64, Tryz.ntmps64
 go_wp2_with fail
 go_loopw [0, 5] (fun a i wr => ∃ (k : Nat) (A : Int), k ≤ d ∧ a = .int .i64 A ∧ i = .int .i64 k ∧ Hid (A = ar / 2 ^ k) ∧ 0 ≤ A ∧ A ≤ 127 ∧ wr = w) (fun _ i _ => d - (intOf i).toNat)
 case atStart => exact ⟨0, ar, Nat.zero_le _, rfl, rfl, by show _ = _; simp, H0.out, h1, rfl⟩
 case round =>
  obtain ⟨k, A, hk, rfl, rfl, hA, hA0, hA1, rfl⟩ := hrel
  by_cases hlt : k < d
  ·
   have h2 : A / 2 = ar / 2 ^ (k + 1) := by rw [← Int.tdiv_eq_ediv_of_nonneg hA0, hA.out]; exact bit_step H0.out k
   have HA2 := Lib.hid h2
   clear h2
   go_wp2_with fail
   go_roundw
   case rel => exact ⟨k + 1, _, by omega, rfl, by go_num, HA2.out, by omega, by omega, trivial⟩
   case measure => simp [intOf]; omega
  ·
   obtain rfl : d = k := by omega
   have h3 : (A % 2 == 1) = b := by rw [← HB.out, ← hA.out]; rfl
   have H3 := Lib.hid h3
   clear h3
   go_wp2_with fail
   go_ret
   refine ⟨?_, Below.refl _ _⟩
   rw [H3.out]; rfl
set_option maxRecDepth 100000 in
set_option maxHeartbeats 1600000 in
theorem R_fits_p (r : RateV) (k fr un ps nt : Int) (w : World) (ha : askB ⟨k, fr, un, ps⟩ = true) (har : 1 ≤ r.ar ∧ r.ar ≤ 127) (p : Bool) (hp : fitsR r ⟨k, fr, un, ps⟩ nt = p) :
  Calls Tryz.prog 35 #[.agg #[.int .i64 r.id, .int .i64 r.lv, .int .i64 r.kd, .int .i64 r.fr, .int .i64 r.un, .int .i64 r.ls, .int .i64 r.ms, .int .i64 r.ar, .int .i64 r.kn, .int .i64 r.kk, .int .i64 r.wh.op, .int .i64 r.wh.n, .slice r.wh.at' r.wh.ks.length r.wh.cap, .int .i64 r.pr.op, .int .i64 r.pr.n, .slice r.pr.at' r.pr.ks.length r.pr.cap], .agg #[.int .i64 k, .int .i64 fr, .int .i64 un, .int .i64 ps], .int .i64 nt] w fun e w' => e = .returned (.bool p) ∧ Below w.heap.size w w' := by
 obtain ⟨⟨a1, a2, a3, a4⟩, _, _⟩ := askB_in ha
 simp only at a1 a2 a3 a4
 have hd := dayI_range fr
 obtain ⟨d, hdd, hd6⟩ : ∃ d : Nat, dayI fr = (d : Int) ∧ d ≤ 6 := ⟨(dayI fr).toNat, by omega, by omega⟩
 have HDW := Lib.hid (fun w => R_weekday_p fr d (dayE fr) hdd rfl w)
 obtain ⟨bb, hbb⟩ : ∃ b, bitB r.ar d = b := ⟨_, rfl⟩
 have HBT := Lib.hid (fun w => R_bit_p r.ar d w (by omega) har.2 hd6 bb hbb)
 obtain ⟨p2, hp2⟩ : ∃ p, inE (un - fr) r.ls r.ms = p := ⟨_, rfl⟩
 have hfit : p = (decide (r.kd = k) && ((decide (r.fr ≤ nt) && decide (nt < r.un)) && (p2 && bb))) := by
  rw [← hp]
  unfold fitsR
  rw [← hp2, ← hbb, ← hdd]
  unfold inE
  rfl
 have HP2 := Lib.hid hp2
 clear hd hdd hd6 hbb hp2 hp ha har
 go_enter Tryz.func35, Tryz.ntmps35
 go_wp2_with fail
 refine (HDW.out _).mono ?_
 rintro e w1 ⟨rfl, hb1⟩
 have R_q_1 : Row w1 (w.heap.size) [.int .i64 r.id, .int .i64 r.lv, .int .i64 r.kd, .int .i64 r.fr, .int .i64 r.un, .int .i64 r.ls, .int .i64 r.ms, .int .i64 r.ar, .int .i64 r.kn, .int .i64 r.kk, .int .i64 r.wh.op, .int .i64 r.wh.n, .slice r.wh.at' r.wh.ks.length r.wh.cap, .int .i64 r.pr.op, .int .i64 r.pr.n, .slice r.pr.at' r.pr.ks.length r.pr.cap] := by (repeat' (first | (with_reducible assumption) | (with_reducible refine Row.new' _ _ _ (by first | rfl | (simp; done) | omega)) | (with_reducible first | refine Row.alloc ?_ _ | refine Row.drew ?_ | refine Row.step ?_ (by assumption) | refine Row.drewN ?_ _) | (with_reducible refine Row.set2' ?_ _ _; first | exact ⟨_, _, by assumption⟩ | exact ⟨_, _, Row.alloc (by assumption) _⟩) | (with_reducible refine Row.other ?_ (by first | omega | (simp; omega)) _)))
 have c_q_0_1 := R_q_1.cell 0 rfl
 have c_q_1_1 := R_q_1.cell 1 rfl
 have c_q_2_1 := R_q_1.cell 2 rfl
 have c_q_3_1 := R_q_1.cell 3 rfl
 have c_q_4_1 := R_q_1.cell 4 rfl
 have c_q_5_1 := R_q_1.cell 5 rfl
 have c_q_6_1 := R_q_1.cell 6 rfl
 have c_q_7_1 := R_q_1.cell 7 rfl
 have c_q_8_1 := R_q_1.cell 8 rfl
 have c_q_9_1 := R_q_1.cell 9 rfl
 have c_q_10_1 := R_q_1.cell 10 rfl
 have c_q_11_1 := R_q_1.cell 11 rfl
 have c_q_12_1 := R_q_1.cell 12 rfl
 have c_q_13_1 := R_q_1.cell 13 rfl
 have c_q_14_1 := R_q_1.cell 14 rfl
 have c_q_15_1 := R_q_1.cell 15 rfl
 have l_q_1 := R_q_1.lt
 have R_a_1 : Row w1 (w.heap.size + 1) [.int .i64 (k), .int .i64 (fr), .int .i64 (un), .int .i64 (ps)] := by (repeat' (first | (with_reducible assumption) | (with_reducible refine Row.new' _ _ _ (by first | rfl | (simp; done) | omega)) | (with_reducible first | refine Row.alloc ?_ _ | refine Row.drew ?_ | refine Row.step ?_ (by assumption) | refine Row.drewN ?_ _) | (with_reducible refine Row.set2' ?_ _ _; first | exact ⟨_, _, by assumption⟩ | exact ⟨_, _, Row.alloc (by assumption) _⟩) | (with_reducible refine Row.other ?_ (by first | omega | (simp; omega)) _)))
 have c_a_0_1 := R_a_1.cell 0 rfl
 have c_a_1_1 := R_a_1.cell 1 rfl
 have c_a_2_1 := R_a_1.cell 2 rfl
 have c_a_3_1 := R_a_1.cell 3 rfl
 have l_a_1 := R_a_1.lt
 have HB1 : Below w.heap.size w w1 := by (repeat' (first | (with_reducible first | exact Below.refl _ _ | assumption | exact Bw.out (by assumption) | refine bw_alloc ?_ _ | refine bw_step ?_ (by assumption) | refine Below.alloc ?_ ?_ _ | refine Below.drew ?_ | refine below_drewN ?_ _ | refine Below.setCell ?_ ?_ _ | refine below_step ?_ (by assumption) ?_ | exact Nat.le_refl _) | omega | (simp; omega) | (simp; done)))
 go_wp2_with fail
 refine (HBT.out _).mono ?_
 rintro e w2 ⟨rfl, hb2⟩
 have R_q_2 : Row w2 (w.heap.size) [.int .i64 r.id, .int .i64 r.lv, .int .i64 r.kd, .int .i64 r.fr, .int .i64 r.un, .int .i64 r.ls, .int .i64 r.ms, .int .i64 r.ar, .int .i64 r.kn, .int .i64 r.kk, .int .i64 r.wh.op, .int .i64 r.wh.n, .slice r.wh.at' r.wh.ks.length r.wh.cap, .int .i64 r.pr.op, .int .i64 r.pr.n, .slice r.pr.at' r.pr.ks.length r.pr.cap] := by (repeat' (first | (with_reducible assumption) | (with_reducible refine Row.new' _ _ _ (by first | rfl | (simp; done) | omega)) | (with_reducible first | refine Row.alloc ?_ _ | refine Row.drew ?_ | refine Row.step ?_ (by assumption) | refine Row.drewN ?_ _) | (with_reducible refine Row.set2' ?_ _ _; first | exact ⟨_, _, by assumption⟩ | exact ⟨_, _, Row.alloc (by assumption) _⟩) | (with_reducible refine Row.other ?_ (by first | omega | (simp; omega)) _)))
 have c_q_0_2 := R_q_2.cell 0 rfl
 have c_q_1_2 := R_q_2.cell 1 rfl
 have c_q_2_2 := R_q_2.cell 2 rfl
 have c_q_3_2 := R_q_2.cell 3 rfl
 have c_q_4_2 := R_q_2.cell 4 rfl
 have c_q_5_2 := R_q_2.cell 5 rfl
 have c_q_6_2 := R_q_2.cell 6 rfl
 have c_q_7_2 := R_q_2.cell 7 rfl
 have c_q_8_2 := R_q_2.cell 8 rfl
 have c_q_9_2 := R_q_2.cell 9 rfl
 have c_q_10_2 := R_q_2.cell 10 rfl
 have c_q_11_2 := R_q_2.cell 11 rfl
 have c_q_12_2 := R_q_2.cell 12 rfl
 have c_q_13_2 := R_q_2.cell 13 rfl
 have c_q_14_2 := R_q_2.cell 14 rfl
 have c_q_15_2 := R_q_2.cell 15 rfl
 have l_q_2 := R_q_2.lt
 have R_a_2 : Row w2 (w.heap.size + 1) [.int .i64 (k), .int .i64 (fr), .int .i64 (un), .int .i64 (ps)] := by (repeat' (first | (with_reducible assumption) | (with_reducible refine Row.new' _ _ _ (by first | rfl | (simp; done) | omega)) | (with_reducible first | refine Row.alloc ?_ _ | refine Row.drew ?_ | refine Row.step ?_ (by assumption) | refine Row.drewN ?_ _) | (with_reducible refine Row.set2' ?_ _ _; first | exact ⟨_, _, by assumption⟩ | exact ⟨_, _, Row.alloc (by assumption) _⟩) | (with_reducible refine Row.other ?_ (by first | omega | (simp; omega)) _)))
 have c_a_0_2 := R_a_2.cell 0 rfl
 have c_a_1_2 := R_a_2.cell 1 rfl
 have c_a_2_2 := R_a_2.cell 2 rfl
 have c_a_3_2 := R_a_2.cell 3 rfl
 have l_a_2 := R_a_2.lt
 have HB2 : Below w.heap.size w w2 := by (repeat' (first | (with_reducible first | exact Below.refl _ _ | assumption | exact Bw.out (by assumption) | refine bw_alloc ?_ _ | refine bw_step ?_ (by assumption) | refine Below.alloc ?_ ?_ _ | refine Below.drew ?_ | refine below_drewN ?_ _ | refine Below.setCell ?_ ?_ _ | refine below_step ?_ (by assumption) ?_ | exact Nat.le_refl _) | omega | (simp; omega) | (simp; done)))
 clear R_q_1 c_q_0_1 c_q_1_1 c_q_2_1 c_q_3_1 c_q_4_1 c_q_5_1 c_q_6_1 c_q_7_1 c_q_8_1 c_q_9_1 c_q_10_1 c_q_11_1 c_q_12_1 c_q_13_1 c_q_14_1 c_q_15_1 R_a_1 c_a_0_1 c_a_1_1 c_a_2_1 c_a_3_1 hb1 HB1
 by_cases hk : r.kd = k
 ·
  have hk' : (r.kd == k) = true := by simpa using hk
  by_cases h1 : r.fr ≤ nt
  ·
   by_cases h2 : nt < r.un
   ·
    obtain rfl : p = (p2 && bb) := by rw [hfit]; simp [hk, h1, h2]
    clear hk hfit
    go_wp2_with fail
    refine (R_in11_p (un - fr) r.ls r.ms p2 HP2.out _).mono ?_
    rintro e w3 ⟨rfl, hb3⟩
    have R_q_3 : Row w3 (w.heap.size) [.int .i64 r.id, .int .i64 r.lv, .int .i64 r.kd, .int .i64 r.fr, .int .i64 r.un, .int .i64 r.ls, .int .i64 r.ms, .int .i64 r.ar, .int .i64 r.kn, .int .i64 r.kk, .int .i64 r.wh.op, .int .i64 r.wh.n, .slice r.wh.at' r.wh.ks.length r.wh.cap, .int .i64 r.pr.op, .int .i64 r.pr.n, .slice r.pr.at' r.pr.ks.length r.pr.cap] := by (repeat' (first | (with_reducible assumption) | (with_reducible refine Row.new' _ _ _ (by first | rfl | (simp; done) | omega)) | (with_reducible first | refine Row.alloc ?_ _ | refine Row.drew ?_ | refine Row.step ?_ (by assumption) | refine Row.drewN ?_ _) | (with_reducible refine Row.set2' ?_ _ _; first | exact ⟨_, _, by assumption⟩ | exact ⟨_, _, Row.alloc (by assumption) _⟩) | (with_reducible refine Row.other ?_ (by first | omega | (simp; omega)) _)))
    have c_q_0_3 := R_q_3.cell 0 rfl
    have c_q_1_3 := R_q_3.cell 1 rfl
    have c_q_2_3 := R_q_3.cell 2 rfl
    have c_q_3_3 := R_q_3.cell 3 rfl
    have c_q_4_3 := R_q_3.cell 4 rfl
    have c_q_5_3 := R_q_3.cell 5 rfl
    have c_q_6_3 := R_q_3.cell 6 rfl
    have c_q_7_3 := R_q_3.cell 7 rfl
    have c_q_8_3 := R_q_3.cell 8 rfl
    have c_q_9_3 := R_q_3.cell 9 rfl
    have c_q_10_3 := R_q_3.cell 10 rfl
    have c_q_11_3 := R_q_3.cell 11 rfl
    have c_q_12_3 := R_q_3.cell 12 rfl
    have c_q_13_3 := R_q_3.cell 13 rfl
    have c_q_14_3 := R_q_3.cell 14 rfl
    have c_q_15_3 := R_q_3.cell 15 rfl
    have l_q_3 := R_q_3.lt
    have R_a_3 : Row w3 (w.heap.size + 1) [.int .i64 (k), .int .i64 (fr), .int .i64 (un), .int .i64 (ps)] := by (repeat' (first | (with_reducible assumption) | (with_reducible refine Row.new' _ _ _ (by first | rfl | (simp; done) | omega)) | (with_reducible first | refine Row.alloc ?_ _ | refine Row.drew ?_ | refine Row.step ?_ (by assumption) | refine Row.drewN ?_ _) | (with_reducible refine Row.set2' ?_ _ _; first | exact ⟨_, _, by assumption⟩ | exact ⟨_, _, Row.alloc (by assumption) _⟩) | (with_reducible refine Row.other ?_ (by first | omega | (simp; omega)) _)))
    have c_a_0_3 := R_a_3.cell 0 rfl
    have c_a_1_3 := R_a_3.cell 1 rfl
    have c_a_2_3 := R_a_3.cell 2 rfl
    have c_a_3_3 := R_a_3.cell 3 rfl
    have l_a_3 := R_a_3.lt
    have HB3 : Below w.heap.size w w3 := by (repeat' (first | (with_reducible first | exact Below.refl _ _ | assumption | exact Bw.out (by assumption) | refine bw_alloc ?_ _ | refine bw_step ?_ (by assumption) | refine Below.alloc ?_ ?_ _ | refine Below.drew ?_ | refine below_drewN ?_ _ | refine Below.setCell ?_ ?_ _ | refine below_step ?_ (by assumption) ?_ | exact Nat.le_refl _) | omega | (simp; omega) | (simp; done)))
    clear R_q_2 c_q_0_2 c_q_1_2 c_q_2_2 c_q_3_2 c_q_4_2 c_q_5_2 c_q_6_2 c_q_7_2 c_q_8_2 c_q_9_2 c_q_10_2 c_q_11_2 c_q_12_2 c_q_13_2 c_q_14_2 c_q_15_2 R_a_2 c_a_0_2 c_a_1_2 c_a_2_2 c_a_3_2 hb2 HB2
    cases p2 with
    | false =>
     go_wp2_with fail
     go_returns
     refine ⟨rfl, ?_⟩
     (repeat' (first | (with_reducible first | exact Below.refl _ _ | assumption | exact Bw.out (by assumption) | refine bw_alloc ?_ _ | refine bw_step ?_ (by assumption) | refine Below.alloc ?_ ?_ _ | refine Below.drew ?_ | refine below_drewN ?_ _ | refine Below.setCell ?_ ?_ _ | refine below_step ?_ (by assumption) ?_ | exact Nat.le_refl _) | omega | (simp; omega) | (simp; done)))
    | true =>
     go_wp2_with fail
     go_returns
     refine ⟨rfl, ?_⟩
     (repeat' (first | (with_reducible first | exact Below.refl _ _ | assumption | exact Bw.out (by assumption) | refine bw_alloc ?_ _ | refine bw_step ?_ (by assumption) | refine Below.alloc ?_ ?_ _ | refine Below.drew ?_ | refine below_drewN ?_ _ | refine Below.setCell ?_ ?_ _ | refine below_step ?_ (by assumption) ?_ | exact Nat.le_refl _) | omega | (simp; omega) | (simp; done)))
   ·
    obtain rfl : p = false := by rw [hfit]; simp [h2]
    clear hk hfit
    go_wp2_with fail
    go_returns
    refine ⟨rfl, ?_⟩
    (repeat' (first | (with_reducible first | exact Below.refl _ _ | assumption | exact Bw.out (by assumption) | refine bw_alloc ?_ _ | refine bw_step ?_ (by assumption) | refine Below.alloc ?_ ?_ _ | refine Below.drew ?_ | refine below_drewN ?_ _ | refine Below.setCell ?_ ?_ _ | refine below_step ?_ (by assumption) ?_ | exact Nat.le_refl _) | omega | (simp; omega) | (simp; done)))
  ·
   obtain rfl : p = false := by rw [hfit]; simp [h1]
   clear hk hfit
   go_wp2_with fail
   go_returns
   refine ⟨rfl, ?_⟩
   (repeat' (first | (with_reducible first | exact Below.refl _ _ | assumption | exact Bw.out (by assumption) | refine bw_alloc ?_ _ | refine bw_step ?_ (by assumption) | refine Below.alloc ?_ ?_ _ | refine Below.drew ?_ | refine below_drewN ?_ _ | refine Below.setCell ?_ ?_ _ | refine below_step ?_ (by assumption) ?_ | exact Nat.le_refl _) | omega | (simp; omega) | (simp; done)))
 ·
  have hk' : (r.kd == k) = false := by simpa using hk
  obtain rfl : p = false := by rw [hfit]; simp [hk]
  clear hk hfit
  go_wp2_with fail
  go_returns
  refine ⟨rfl, ?_⟩
  (repeat' (first | (with_reducible first | exact Below.refl _ _ | assumption | exact Bw.out (by assumption) | refine bw_alloc ?_ _ | refine bw_step ?_ (by assumption) | refine Below.alloc ?_ ?_ _ | refine Below.drew ?_ | refine below_drewN ?_ _ | refine Below.setCell ?_ ?_ _ | refine below_step ?_ (by assumption) ?_ | exact Nat.le_refl _) | omega | (simp; omega) | (simp; done)))
end
section
set_option linter.unusedSimpArgs false
set_option linter.unusedVariables false
open Go.RowKit
attribute [local go_sem ↓] ld_eq st_eq
attribute [local go_sem] ldR_run ldV_drew ldV_alloc ldV_at16 stR_run sz16_rate stB_drew stB_at16 stW_at16 stB_set ldV_set
set_option maxRecDepth 100000 in
set_option maxHeartbeats 4000000 in
theorem R_Applies_p (r : RateV) (k fr un ps nt : Int) (w : World) (h : r.In w) (B : Bool) (E : Int) (hR : applV r ⟨k, fr, un, ps⟩ nt = (B, E)) :
  Calls Tryz.prog 11 #[.agg #[.int .i64 r.id, .int .i64 r.lv, .int .i64 r.kd, .int .i64 r.fr, .int .i64 r.un, .int .i64 r.ls, .int .i64 r.ms, .int .i64 r.ar, .int .i64 r.kn, .int .i64 r.kk, .int .i64 r.wh.op, .int .i64 r.wh.n, .slice r.wh.at' r.wh.ks.length r.wh.cap, .int .i64 r.pr.op, .int .i64 r.pr.n, .slice r.pr.at' r.pr.ks.length r.pr.cap], .agg #[.int .i64 k, .int .i64 fr, .int .i64 un, .int .i64 ps], .int .i64 nt] w fun e w' => e = .returned (.tuple #[.bool B, .int .i64 E]) ∧ Below w.heap.size w w' := by
 have HIN := Lib.hid h
 obtain ⟨p1, hp1⟩ : ∃ p, rateB r = p := ⟨_, rfl⟩
 obtain ⟨p2, hp2⟩ : ∃ p, askB ⟨k, fr, un, ps⟩ = p := ⟨_, rfl⟩
 obtain ⟨p3, hp3⟩ : ∃ p, inE nt fr (un - 1) = p := ⟨_, rfl⟩
 obtain ⟨p4, hp4⟩ : ∃ p, fitsR r ⟨k, fr, un, ps⟩ nt = p := ⟨_, rfl⟩
 have hno : (p1 && (p2 && p3)) = false → B = false ∧ E = 1 := fun hf => by
  have h1 := hR
  unfold applV inN at h1
  rw [hp1, hp2, ← inN_within, hp3, hf] at h1
  simp only [Bool.false_eq_true, if_false, Prod.mk.injEq] at h1
  exact ⟨h1.1.symm, h1.2.symm⟩
 obtain ⟨N, D, F, hev⟩ : ∃ N D F, r.wh.ev (var4 (un - fr) ps (nt - fr) (dayI nt)) = (N, D, F) := ⟨_, _, _, rfl⟩
 have hyes : p1 = true → p2 = true → p3 = true → (fr ≤ nt ∧ nt < un) ∧ (p4 = false → B = false ∧ E = 0) ∧ (p4 = true → B = (N == 1) ∧ E = F) := fun q1 q2 q3 => by
  have h1 := hR
  unfold applV inN at h1
  rw [hp1, hp2, ← inN_within, hp3, q1, q2, q3] at h1
  simp only [Bool.and_self, if_true] at h1
  unfold appl at h1
  rw [hp4, show (⟨k, fr, un, ps⟩ : AskV).vars nt = var4 (un - fr) ps (nt - fr) (dayI nt) from rfl, hev] at h1
  rw [q3, inN_within] at hp3
  refine ⟨by simpa using hp3, fun e => ?_, fun e => ?_⟩
  ·
   rw [e] at h1
   simp only [Bool.false_eq_true, if_false, Prod.mk.injEq] at h1
   exact ⟨h1.1.symm, h1.2.symm⟩
  ·
   rw [e, if_pos rfl] at h1
   simp only [Prod.mk.injEq] at h1
   exact ⟨h1.1.symm, h1.2.symm⟩
 have HP1 := Lib.hid hp1
 have HP2 := Lib.hid hp2
 have HP3 := Lib.hid hp3
 have HP4 := Lib.hid hp4
 have HNO := Lib.hid hno
 have HYES := Lib.hid hyes
 have HEV := Lib.hid hev
 have hun : p2 = true → 1 ≤ un ∧ un ≤ 366 := fun h => by
  obtain ⟨⟨b1, b2, b3, b4⟩, _, _⟩ := askB_in (hp2.trans h)
  simp only at b1 b2 b3 b4
  omega
 clear hR hp1 hp2 hp3 hp4 hno hyes hev h
 go_enter Tryz.func11, Tryz.ntmps11
 go_wp2_with fail
 refine (R_rate_p r _ (HIN.out.step (((Below.refl w.heap.size w).alloc (Nat.le_refl _) _).alloc (by simp) _)) p1 HP1.out).mono ?_
 rintro e w1 ⟨rfl, hb1⟩
 have R_q_1 : Row w1 (w.heap.size) [.int .i64 r.id, .int .i64 r.lv, .int .i64 r.kd, .int .i64 r.fr, .int .i64 r.un, .int .i64 r.ls, .int .i64 r.ms, .int .i64 r.ar, .int .i64 r.kn, .int .i64 r.kk, .int .i64 r.wh.op, .int .i64 r.wh.n, .slice r.wh.at' r.wh.ks.length r.wh.cap, .int .i64 r.pr.op, .int .i64 r.pr.n, .slice r.pr.at' r.pr.ks.length r.pr.cap] := by (repeat' (first | (with_reducible assumption) | (with_reducible refine Row.new' _ _ _ (by first | rfl | (simp; done) | omega)) | (with_reducible first | refine Row.alloc ?_ _ | refine Row.drew ?_ | refine Row.step ?_ (by assumption) | refine Row.drewN ?_ _) | (with_reducible refine Row.set2' ?_ _ _; first | exact ⟨_, _, by assumption⟩ | exact ⟨_, _, Row.alloc (by assumption) _⟩) | (with_reducible refine Row.other ?_ (by first | omega | (simp; omega)) _)))
 have c_q_0_1 := R_q_1.cell 0 rfl
 have c_q_1_1 := R_q_1.cell 1 rfl
 have c_q_2_1 := R_q_1.cell 2 rfl
 have c_q_3_1 := R_q_1.cell 3 rfl
 have c_q_4_1 := R_q_1.cell 4 rfl
 have c_q_5_1 := R_q_1.cell 5 rfl
 have c_q_6_1 := R_q_1.cell 6 rfl
 have c_q_7_1 := R_q_1.cell 7 rfl
 have c_q_8_1 := R_q_1.cell 8 rfl
 have c_q_9_1 := R_q_1.cell 9 rfl
 have c_q_10_1 := R_q_1.cell 10 rfl
 have c_q_11_1 := R_q_1.cell 11 rfl
 have c_q_12_1 := R_q_1.cell 12 rfl
 have c_q_13_1 := R_q_1.cell 13 rfl
 have c_q_14_1 := R_q_1.cell 14 rfl
 have c_q_15_1 := R_q_1.cell 15 rfl
 have d_q_1 := ldV_row R_q_1 rfl
 have l_q_1 := R_q_1.lt
 have R_a_1 : Row w1 (w.heap.size + 1) [.int .i64 (k), .int .i64 (fr), .int .i64 (un), .int .i64 (ps)] := by (repeat' (first | (with_reducible assumption) | (with_reducible refine Row.new' _ _ _ (by first | rfl | (simp; done) | omega)) | (with_reducible first | refine Row.alloc ?_ _ | refine Row.drew ?_ | refine Row.step ?_ (by assumption) | refine Row.drewN ?_ _) | (with_reducible refine Row.set2' ?_ _ _; first | exact ⟨_, _, by assumption⟩ | exact ⟨_, _, Row.alloc (by assumption) _⟩) | (with_reducible refine Row.other ?_ (by first | omega | (simp; omega)) _)))
 have c_a_0_1 := R_a_1.cell 0 rfl
 have c_a_1_1 := R_a_1.cell 1 rfl
 have c_a_2_1 := R_a_1.cell 2 rfl
 have c_a_3_1 := R_a_1.cell 3 rfl
 have l_a_1 := R_a_1.lt
 have HB1 : Below w.heap.size w w1 := by (repeat' (first | (with_reducible first | exact Below.refl _ _ | assumption | exact Bw.out (by assumption) | refine bw_alloc ?_ _ | refine bw_step ?_ (by assumption) | refine Below.alloc ?_ ?_ _ | refine Below.drew ?_ | refine below_drewN ?_ _ | refine Below.setCell ?_ ?_ _ | refine below_step ?_ (by assumption) ?_ | exact Nat.le_refl _) | omega | (simp; omega) | (simp; done)))
 go_wp2_with fail
 refine (R_ask_p k fr un ps p2 HP2.out _).mono ?_
 rintro e w2 ⟨rfl, hb2⟩
 have R_q_2 : Row w2 (w.heap.size) [.int .i64 r.id, .int .i64 r.lv, .int .i64 r.kd, .int .i64 r.fr, .int .i64 r.un, .int .i64 r.ls, .int .i64 r.ms, .int .i64 r.ar, .int .i64 r.kn, .int .i64 r.kk, .int .i64 r.wh.op, .int .i64 r.wh.n, .slice r.wh.at' r.wh.ks.length r.wh.cap, .int .i64 r.pr.op, .int .i64 r.pr.n, .slice r.pr.at' r.pr.ks.length r.pr.cap] := by (repeat' (first | (with_reducible assumption) | (with_reducible refine Row.new' _ _ _ (by first | rfl | (simp; done) | omega)) | (with_reducible first | refine Row.alloc ?_ _ | refine Row.drew ?_ | refine Row.step ?_ (by assumption) | refine Row.drewN ?_ _) | (with_reducible refine Row.set2' ?_ _ _; first | exact ⟨_, _, by assumption⟩ | exact ⟨_, _, Row.alloc (by assumption) _⟩) | (with_reducible refine Row.other ?_ (by first | omega | (simp; omega)) _)))
 have c_q_0_2 := R_q_2.cell 0 rfl
 have c_q_1_2 := R_q_2.cell 1 rfl
 have c_q_2_2 := R_q_2.cell 2 rfl
 have c_q_3_2 := R_q_2.cell 3 rfl
 have c_q_4_2 := R_q_2.cell 4 rfl
 have c_q_5_2 := R_q_2.cell 5 rfl
 have c_q_6_2 := R_q_2.cell 6 rfl
 have c_q_7_2 := R_q_2.cell 7 rfl
 have c_q_8_2 := R_q_2.cell 8 rfl
 have c_q_9_2 := R_q_2.cell 9 rfl
 have c_q_10_2 := R_q_2.cell 10 rfl
 have c_q_11_2 := R_q_2.cell 11 rfl
 have c_q_12_2 := R_q_2.cell 12 rfl
 have c_q_13_2 := R_q_2.cell 13 rfl
 have c_q_14_2 := R_q_2.cell 14 rfl
 have c_q_15_2 := R_q_2.cell 15 rfl
 have d_q_2 := ldV_row R_q_2 rfl
 have l_q_2 := R_q_2.lt
 have R_a_2 : Row w2 (w.heap.size + 1) [.int .i64 (k), .int .i64 (fr), .int .i64 (un), .int .i64 (ps)] := by (repeat' (first | (with_reducible assumption) | (with_reducible refine Row.new' _ _ _ (by first | rfl | (simp; done) | omega)) | (with_reducible first | refine Row.alloc ?_ _ | refine Row.drew ?_ | refine Row.step ?_ (by assumption) | refine Row.drewN ?_ _) | (with_reducible refine Row.set2' ?_ _ _; first | exact ⟨_, _, by assumption⟩ | exact ⟨_, _, Row.alloc (by assumption) _⟩) | (with_reducible refine Row.other ?_ (by first | omega | (simp; omega)) _)))
 have c_a_0_2 := R_a_2.cell 0 rfl
 have c_a_1_2 := R_a_2.cell 1 rfl
 have c_a_2_2 := R_a_2.cell 2 rfl
 have c_a_3_2 := R_a_2.cell 3 rfl
 have l_a_2 := R_a_2.lt
 have HB2 : Below w.heap.size w w2 := by (repeat' (first | (with_reducible first | exact Below.refl _ _ | assumption | exact Bw.out (by assumption) | refine bw_alloc ?_ _ | refine bw_step ?_ (by assumption) | refine Below.alloc ?_ ?_ _ | refine Below.drew ?_ | refine below_drewN ?_ _ | refine Below.setCell ?_ ?_ _ | refine below_step ?_ (by assumption) ?_ | exact Nat.le_refl _) | omega | (simp; omega) | (simp; done)))
 clear R_q_1 c_q_0_1 c_q_1_1 c_q_2_1 c_q_3_1 c_q_4_1 c_q_5_1 c_q_6_1 c_q_7_1 c_q_8_1 c_q_9_1 c_q_10_1 c_q_11_1 c_q_12_1 c_q_13_1 c_q_14_1 c_q_15_1 d_q_1 R_a_1 c_a_0_1 c_a_1_1 c_a_2_1 c_a_3_1 hb1 HB1
 cases p1 with
 | false =>
  obtain ⟨rfl, rfl⟩ := HNO.out rfl
  go_wp2_with fail
  go_returns
  refine ⟨rfl, ?_⟩
  (repeat' (first | (with_reducible first | exact Below.refl _ _ | assumption | exact Bw.out (by assumption) | refine bw_alloc ?_ _ | refine bw_step ?_ (by assumption) | refine Below.alloc ?_ ?_ _ | refine Below.drew ?_ | refine below_drewN ?_ _ | refine Below.setCell ?_ ?_ _ | refine below_step ?_ (by assumption) ?_ | exact Nat.le_refl _) | omega | (simp; omega) | (simp; done)))
 | true =>
  cases p2 with
  | false =>
   obtain ⟨rfl, rfl⟩ := HNO.out rfl
   go_wp2_with fail
   go_returns
   refine ⟨rfl, ?_⟩
   (repeat' (first | (with_reducible first | exact Below.refl _ _ | assumption | exact Bw.out (by assumption) | refine bw_alloc ?_ _ | refine bw_step ?_ (by assumption) | refine Below.alloc ?_ ?_ _ | refine Below.drew ?_ | refine below_drewN ?_ _ | refine Below.setCell ?_ ?_ _ | refine below_step ?_ (by assumption) ?_ | exact Nat.le_refl _) | omega | (simp; omega) | (simp; done)))
  | true =>
   obtain ⟨un1, un2⟩ := hun (by simp)
   clear hun
   go_wp2_with fail
   refine (R_in11_p nt fr (un - 1) p3 HP3.out _).mono ?_
   rintro e w3 ⟨rfl, hb3⟩
   have R_q_3 : Row w3 (w.heap.size) [.int .i64 r.id, .int .i64 r.lv, .int .i64 r.kd, .int .i64 r.fr, .int .i64 r.un, .int .i64 r.ls, .int .i64 r.ms, .int .i64 r.ar, .int .i64 r.kn, .int .i64 r.kk, .int .i64 r.wh.op, .int .i64 r.wh.n, .slice r.wh.at' r.wh.ks.length r.wh.cap, .int .i64 r.pr.op, .int .i64 r.pr.n, .slice r.pr.at' r.pr.ks.length r.pr.cap] := by (repeat' (first | (with_reducible assumption) | (with_reducible refine Row.new' _ _ _ (by first | rfl | (simp; done) | omega)) | (with_reducible first | refine Row.alloc ?_ _ | refine Row.drew ?_ | refine Row.step ?_ (by assumption) | refine Row.drewN ?_ _) | (with_reducible refine Row.set2' ?_ _ _; first | exact ⟨_, _, by assumption⟩ | exact ⟨_, _, Row.alloc (by assumption) _⟩) | (with_reducible refine Row.other ?_ (by first | omega | (simp; omega)) _)))
   have c_q_0_3 := R_q_3.cell 0 rfl
   have c_q_1_3 := R_q_3.cell 1 rfl
   have c_q_2_3 := R_q_3.cell 2 rfl
   have c_q_3_3 := R_q_3.cell 3 rfl
   have c_q_4_3 := R_q_3.cell 4 rfl
   have c_q_5_3 := R_q_3.cell 5 rfl
   have c_q_6_3 := R_q_3.cell 6 rfl
   have c_q_7_3 := R_q_3.cell 7 rfl
   have c_q_8_3 := R_q_3.cell 8 rfl
   have c_q_9_3 := R_q_3.cell 9 rfl
   have c_q_10_3 := R_q_3.cell 10 rfl
   have c_q_11_3 := R_q_3.cell 11 rfl
   have c_q_12_3 := R_q_3.cell 12 rfl
   have c_q_13_3 := R_q_3.cell 13 rfl
   have c_q_14_3 := R_q_3.cell 14 rfl
   have c_q_15_3 := R_q_3.cell 15 rfl
   have d_q_3 := ldV_row R_q_3 rfl
   have l_q_3 := R_q_3.lt
   have R_a_3 : Row w3 (w.heap.size + 1) [.int .i64 (k), .int .i64 (fr), .int .i64 (un), .int .i64 (ps)] := by (repeat' (first | (with_reducible assumption) | (with_reducible refine Row.new' _ _ _ (by first | rfl | (simp; done) | omega)) | (with_reducible first | refine Row.alloc ?_ _ | refine Row.drew ?_ | refine Row.step ?_ (by assumption) | refine Row.drewN ?_ _) | (with_reducible refine Row.set2' ?_ _ _; first | exact ⟨_, _, by assumption⟩ | exact ⟨_, _, Row.alloc (by assumption) _⟩) | (with_reducible refine Row.other ?_ (by first | omega | (simp; omega)) _)))
   have c_a_0_3 := R_a_3.cell 0 rfl
   have c_a_1_3 := R_a_3.cell 1 rfl
   have c_a_2_3 := R_a_3.cell 2 rfl
   have c_a_3_3 := R_a_3.cell 3 rfl
   have l_a_3 := R_a_3.lt
   have HB3 : Below w.heap.size w w3 := by (repeat' (first | (with_reducible first | exact Below.refl _ _ | assumption | exact Bw.out (by assumption) | refine bw_alloc ?_ _ | refine bw_step ?_ (by assumption) | refine Below.alloc ?_ ?_ _ | refine Below.drew ?_ | refine below_drewN ?_ _ | refine Below.setCell ?_ ?_ _ | refine below_step ?_ (by assumption) ?_ | exact Nat.le_refl _) | omega | (simp; omega) | (simp; done)))
   clear R_q_2 c_q_0_2 c_q_1_2 c_q_2_2 c_q_3_2 c_q_4_2 c_q_5_2 c_q_6_2 c_q_7_2 c_q_8_2 c_q_9_2 c_q_10_2 c_q_11_2 c_q_12_2 c_q_13_2 c_q_14_2 c_q_15_2 d_q_2 R_a_2 c_a_0_2 c_a_1_2 c_a_2_2 c_a_3_2 hb2 HB2
   cases p3 with
   | false =>
    obtain ⟨rfl, rfl⟩ := HNO.out rfl
    go_wp2_with fail
    go_returns
    refine ⟨rfl, ?_⟩
    (repeat' (first | (with_reducible first | exact Below.refl _ _ | assumption | exact Bw.out (by assumption) | refine bw_alloc ?_ _ | refine bw_step ?_ (by assumption) | refine Below.alloc ?_ ?_ _ | refine Below.drew ?_ | refine below_drewN ?_ _ | refine Below.setCell ?_ ?_ _ | refine below_step ?_ (by assumption) ?_ | exact Nat.le_refl _) | omega | (simp; omega) | (simp; done)))
   | true =>
    obtain ⟨y1, y2, y3⟩ := HYES.out (by simp) (by simp) (by simp)
    have HY2 := Lib.hid y1
    have HNF := Lib.hid y2
    have HYF := Lib.hid y3
    have hf := (rateB_form HP1.out).1
    have HWV := Lib.hid (validE_ok (formB_valid hf).1)
    have har : 1 ≤ r.ar ∧ r.ar ≤ 127 := by
     unfold formB inE at hf
     simp only [Bool.and_eq_true, decide_eq_true_eq] at hf
     omega
    have HAR := Lib.hid har
    clear y1 y2 y3 hf har
    go_wp2_with fail
    refine (R_fits_p r k fr un ps nt _ HP2.out HAR.out p4 HP4.out).mono ?_
    rintro e w4 ⟨rfl, hb4⟩
    have R_q_4 : Row w4 (w.heap.size) [.int .i64 r.id, .int .i64 r.lv, .int .i64 r.kd, .int .i64 r.fr, .int .i64 r.un, .int .i64 r.ls, .int .i64 r.ms, .int .i64 r.ar, .int .i64 r.kn, .int .i64 r.kk, .int .i64 r.wh.op, .int .i64 r.wh.n, .slice r.wh.at' r.wh.ks.length r.wh.cap, .int .i64 r.pr.op, .int .i64 r.pr.n, .slice r.pr.at' r.pr.ks.length r.pr.cap] := by (repeat' (first | (with_reducible assumption) | (with_reducible refine Row.new' _ _ _ (by first | rfl | (simp; done) | omega)) | (with_reducible first | refine Row.alloc ?_ _ | refine Row.drew ?_ | refine Row.step ?_ (by assumption) | refine Row.drewN ?_ _) | (with_reducible refine Row.set2' ?_ _ _; first | exact ⟨_, _, by assumption⟩ | exact ⟨_, _, Row.alloc (by assumption) _⟩) | (with_reducible refine Row.other ?_ (by first | omega | (simp; omega)) _)))
    have c_q_0_4 := R_q_4.cell 0 rfl
    have c_q_1_4 := R_q_4.cell 1 rfl
    have c_q_2_4 := R_q_4.cell 2 rfl
    have c_q_3_4 := R_q_4.cell 3 rfl
    have c_q_4_4 := R_q_4.cell 4 rfl
    have c_q_5_4 := R_q_4.cell 5 rfl
    have c_q_6_4 := R_q_4.cell 6 rfl
    have c_q_7_4 := R_q_4.cell 7 rfl
    have c_q_8_4 := R_q_4.cell 8 rfl
    have c_q_9_4 := R_q_4.cell 9 rfl
    have c_q_10_4 := R_q_4.cell 10 rfl
    have c_q_11_4 := R_q_4.cell 11 rfl
    have c_q_12_4 := R_q_4.cell 12 rfl
    have c_q_13_4 := R_q_4.cell 13 rfl
    have c_q_14_4 := R_q_4.cell 14 rfl
    have c_q_15_4 := R_q_4.cell 15 rfl
    have d_q_4 := ldV_row R_q_4 rfl
    have l_q_4 := R_q_4.lt
    have R_a_4 : Row w4 (w.heap.size + 1) [.int .i64 (k), .int .i64 (fr), .int .i64 (un), .int .i64 (ps)] := by (repeat' (first | (with_reducible assumption) | (with_reducible refine Row.new' _ _ _ (by first | rfl | (simp; done) | omega)) | (with_reducible first | refine Row.alloc ?_ _ | refine Row.drew ?_ | refine Row.step ?_ (by assumption) | refine Row.drewN ?_ _) | (with_reducible refine Row.set2' ?_ _ _; first | exact ⟨_, _, by assumption⟩ | exact ⟨_, _, Row.alloc (by assumption) _⟩) | (with_reducible refine Row.other ?_ (by first | omega | (simp; omega)) _)))
    have c_a_0_4 := R_a_4.cell 0 rfl
    have c_a_1_4 := R_a_4.cell 1 rfl
    have c_a_2_4 := R_a_4.cell 2 rfl
    have c_a_3_4 := R_a_4.cell 3 rfl
    have l_a_4 := R_a_4.lt
    have HB4 : Below w.heap.size w w4 := by (repeat' (first | (with_reducible first | exact Below.refl _ _ | assumption | exact Bw.out (by assumption) | refine bw_alloc ?_ _ | refine bw_step ?_ (by assumption) | refine Below.alloc ?_ ?_ _ | refine Below.drew ?_ | refine below_drewN ?_ _ | refine Below.setCell ?_ ?_ _ | refine below_step ?_ (by assumption) ?_ | exact Nat.le_refl _) | omega | (simp; omega) | (simp; done)))
    clear R_q_3 c_q_0_3 c_q_1_3 c_q_2_3 c_q_3_3 c_q_4_3 c_q_5_3 c_q_6_3 c_q_7_3 c_q_8_3 c_q_9_3 c_q_10_3 c_q_11_3 c_q_12_3 c_q_13_3 c_q_14_3 c_q_15_3 d_q_3 R_a_3 c_a_0_3 c_a_1_3 c_a_2_3 c_a_3_3 hb3 HB3
    cases p4 with
    | false =>
     obtain ⟨rfl, rfl⟩ := HNF.out rfl
     go_wp2_with fail
     go_returns
     refine ⟨rfl, ?_⟩
     (repeat' (first | (with_reducible first | exact Below.refl _ _ | assumption | exact Bw.out (by assumption) | refine bw_alloc ?_ _ | refine bw_step ?_ (by assumption) | refine Below.alloc ?_ ?_ _ | refine Below.drew ?_ | refine below_drewN ?_ _ | refine Below.setCell ?_ ?_ _ | refine below_step ?_ (by assumption) ?_ | exact Nat.le_refl _) | omega | (simp; omega) | (simp; done)))
    | true =>
     obtain ⟨hB, hE⟩ := HYF.out rfl
     subst hB hE
     go_upto_region 8 with fail
     have HS : Hid (∀ W, Below w4.heap.size w4 W → W.cell? ⟨w.heap.size, 10, none⟩ = some (.int .i64 r.wh.op) ∧ W.cell? ⟨w.heap.size, 11, none⟩ = some (.int .i64 r.wh.n) ∧ W.cell? ⟨w.heap.size, 12, none⟩ = some (.slice r.wh.at' r.wh.ks.length r.wh.cap) ∧ W.cell? ⟨w.heap.size + 1, 0, none⟩ = some (.int .i64 k) ∧ W.cell? ⟨w.heap.size + 1, 1, none⟩ = some (.int .i64 fr) ∧ W.cell? ⟨w.heap.size + 1, 2, none⟩ = some (.int .i64 un) ∧ W.cell? ⟨w.heap.size + 1, 3, none⟩ = some (.int .i64 ps)) := fun W h =>
      ⟨(R_q_4.step h).cell 10 rfl, (R_q_4.step h).cell 11 rfl, (R_q_4.step h).cell 12 rfl, (R_a_4.step h).cell 0 rfl, (R_a_4.step h).cell 1 rfl, (R_a_4.step h).cell 2 rfl, (R_a_4.step h).cell 3 rfl⟩
     go_cut [12, 13] from 43 to 51 (fun v u wx => ∃ A : Nat, v = .pointer (some ⟨A, 0, none⟩) ∧ u = .int .i64 E ∧ Row wx A [.int .i64 N, .int .i64 D] ∧ Below w4.heap.size w4 wx)
     case first =>
      refine AnyJ.beginP (fun W => W.cell? ⟨w.heap.size, 10, none⟩ = some (.int .i64 r.wh.op) ∧ W.cell? ⟨w.heap.size, 11, none⟩ = some (.int .i64 r.wh.n) ∧ W.cell? ⟨w.heap.size, 12, none⟩ = some (.slice r.wh.at' r.wh.ks.length r.wh.cap) ∧ W.cell? ⟨w.heap.size + 1, 0, none⟩ = some (.int .i64 k) ∧ W.cell? ⟨w.heap.size + 1, 1, none⟩ = some (.int .i64 fr) ∧ W.cell? ⟨w.heap.size + 1, 2, none⟩ = some (.int .i64 un) ∧ W.cell? ⟨w.heap.size + 1, 3, none⟩ = some (.int .i64 ps)) (fun j => decide (j ≤ 10)) (by kernel_rfl) (HS.out _ (Below.refl _ _).drew) (fun hS => ?_)
      obtain ⟨u4, hu4⟩ : ∃ X, World.drew w4 = X := ⟨_, rfl⟩
      have hbu4 : Below w4.heap.size w4 u4 := by rw [← hu4]; exact (Below.refl _ _).drew
      rw [hu4] at hS ⊢
      clear hu4
      refine AnyJ.takeD (i := 0) (d := some 44) (v := ?_) rfl (by kernel_rfl) (by kernel_rfl) (by kernel_rfl) (by kernel_rfl) (by kernel_rfl) (fun _ _ _ h => h) (Or.inl ⟨by kernel_rfl, ?_⟩) hS ?_
      rotate_left
      ·
       intro w' hS
       obtain ⟨sE0, sE1, sE2, sA0, sA1, sA2, sA3⟩ := hS
       go_simp
       try with_reducible rfl
      refine AnyJ.takeD (i := 1) (d := some 45) (v := ?_) rfl (by kernel_rfl) (by kernel_rfl) (by kernel_rfl) (by kernel_rfl) (by kernel_rfl) (fun _ _ _ h => h) (Or.inl ⟨by kernel_rfl, ?_⟩) hS ?_
      rotate_left
      ·
       intro w' hS
       obtain ⟨sE0, sE1, sE2, sA0, sA1, sA2, sA3⟩ := hS
       go_simp
       try with_reducible rfl
      refine AnyJ.takeD (i := 2) (d := some 46) (v := ?_) rfl (by kernel_rfl) (by kernel_rfl) (by kernel_rfl) (by kernel_rfl) (by kernel_rfl) (fun _ _ _ h => h) (Or.inl ⟨by kernel_rfl, ?_⟩) hS ?_
      rotate_left
      ·
       intro w' hS
       obtain ⟨sE0, sE1, sE2, sA0, sA1, sA2, sA3⟩ := hS
       go_simp
       try with_reducible rfl
      refine AnyJ.takeD (i := 3) (d := some 47) (v := ?_) rfl (by kernel_rfl) (by kernel_rfl) (by kernel_rfl) (by kernel_rfl) (by kernel_rfl) (fun _ _ _ h => h) (Or.inl ⟨by kernel_rfl, ?_⟩) hS ?_
      rotate_left
      ·
       intro w' hS
       obtain ⟨sE0, sE1, sE2, sA0, sA1, sA2, sA3⟩ := hS
       go_simp
       try with_reducible rfl
      clear hS
      refine AnyJ.two (i := 4) (j := 9) (by kernel_rfl) rfl rfl (fun Kz hKz => ?_) (fun Kz hKz => ?_)
      ·
       go_simp
       refine (R_vars_any k fr un ps nt u4 HP2.out HY2.out).mono ?_
       rintro e u5 ⟨rfl, hsu5⟩
       have hbu5 : Below w4.heap.size w4 u5 := hbu4.trans (hsu5.mono hbu4.size)
       refine hKz _ _ (fun _ => HS.out _ hbu5) ?_
       clear hKz Kz
       refine AnyJ.two (i := 5) (j := 9) (by kernel_rfl) rfl rfl (fun Kz hKz => ?_) (fun Kz hKz => ?_)
       ·
        go_simp
        refine (R_eval_p r.wh (un - fr) ps (nt - fr) (dayI nt) u5 (HIN.out.1.step (HB4.trans (hbu5.mono HB4.size))) HWV.out N D E HEV.out).mono ?_
        rintro e u6 ⟨rfl, hsu6⟩
        have hbu6 : Below w4.heap.size w4 u6 := hbu5.trans (hsu6.mono hbu5.size)
        have hS := HS.out _ hbu6
        refine hKz _ _ (fun _ => hS) ?_
        clear hKz Kz
        refine AnyJ.takeD (i := 6) (d := some 43) (v := ?_) rfl (by kernel_rfl) (by kernel_rfl) (by kernel_rfl) (by kernel_rfl) (by kernel_rfl) (fun _ _ _ h => h) (Or.inl ⟨by kernel_rfl, ?_⟩) hS ?_
        rotate_left
        ·
         intro w' hS
         obtain ⟨sE0, sE1, sE2, sA0, sA1, sA2, sA3⟩ := hS
         go_simp
         try with_reducible rfl
        refine AnyJ.takeD (i := 7) (d := some 50) (v := ?_) rfl (by kernel_rfl) (by kernel_rfl) (by kernel_rfl) (by kernel_rfl) (by kernel_rfl) (fun _ _ _ h => h) (Or.inl ⟨by kernel_rfl, ?_⟩) hS ?_
        rotate_left
        ·
         intro w' hS
         obtain ⟨sE0, sE1, sE2, sA0, sA1, sA2, sA3⟩ := hS
         go_simp
         try with_reducible rfl
        refine AnyJ.takeD (i := 8) (d := some 51) (v := ?_) rfl (by kernel_rfl) (by kernel_rfl) (by kernel_rfl) (by kernel_rfl) (by kernel_rfl) (fun _ _ _ h => h) (Or.inl ⟨by kernel_rfl, ?_⟩) hS ?_
        rotate_left
        ·
         intro w' hS
         obtain ⟨sE0, sE1, sE2, sA0, sA1, sA2, sA3⟩ := hS
         go_simp
         try with_reducible rfl
        clear hS
        refine AnyJ.one (i := 9) (by kernel_rfl) rfl (fun Kz hKz => ?_)
        go_simp
        obtain ⟨u7, hwu7⟩ : ∃ X, World.alloc u6 (.cells #[.int .i64 0, .int .i64 0] 33) = X := ⟨_, rfl⟩
        rw [hwu7]
        have hsu7 : Below u6.heap.size u6 u7 := by rw [← hwu7]; exact (Below.refl _ _).alloc (Nat.le_refl _) _
        have hbu7 : Below w4.heap.size w4 u7 := hbu6.trans (hsu7.mono hbu6.size)
        have hA : w4.heap.size ≤ u6.heap.size := hbu6.size
        have RA : Row u7 u6.heap.size [.int .i64 0, .int .i64 0] := by rw [← hwu7]; exact Row.new' _ _ _ rfl
        clear hwu7
        refine hKz _ _ (fun _ => HS.out _ hbu7) ?_
        clear hKz Kz
        have a0 := RA.cell 0 rfl
        have a1 := RA.cell 1 rfl
        have f0 := RA.frozen 0
        have f1 := RA.frozen 1
        have fl := RA.lt
        refine AnyJ.one (i := 10) (by kernel_rfl) rfl (fun Kz hKz => ?_)
        go_simp
        refine hKz _ _ (fun _ => HS.out _ ((hbu7.setCell (hp := hA) (p := ⟨u6.heap.size, 0, none⟩) _).setCell (hp := hA) (p := ⟨u6.heap.size, 1, none⟩) _)) ?_
        clear hKz Kz
        refine AnyJ.one (i := 11) (by kernel_rfl) rfl (fun Kz hKz => ?_)
        go_simp
        refine hKz _ _ (fun h => by cases h) ?_
        clear hKz Kz
        refine AnyJ.done (by kernel_rfl) ?_ _
        try simp only [Act.put, List.setIfInBounds_toArray, List.set_cons_zero, List.set_cons_succ]
        clear a0 a1 f0 f1 fl
        go_wp2_with fail
        go_meet
        exact ⟨_, rfl, rfl, RA.set2 _ _, (hbu7.setCell (hp := hA) (p := ⟨u6.heap.size, 0, none⟩) _).setCell (hp := hA) (p := ⟨u6.heap.size, 1, none⟩) _⟩
       ·
        go_simp
        obtain ⟨u6, hwu6⟩ : ∃ X, World.alloc u5 (.cells #[.int .i64 0, .int .i64 0] 33) = X := ⟨_, rfl⟩
        rw [hwu6]
        have hsu6 : Below u5.heap.size u5 u6 := by rw [← hwu6]; exact (Below.refl _ _).alloc (Nat.le_refl _) _
        have hbu6 : Below w4.heap.size w4 u6 := hbu5.trans (hsu6.mono hbu5.size)
        have hA : w4.heap.size ≤ u5.heap.size := hbu5.size
        have RA : Row u6 u5.heap.size [.int .i64 0, .int .i64 0] := by rw [← hwu6]; exact Row.new' _ _ _ rfl
        clear hwu6
        refine hKz _ _ (fun _ => HS.out _ hbu6) ?_
        clear hKz Kz
        refine AnyJ.one (i := 5) (by kernel_rfl) rfl (fun Kz hKz => ?_)
        go_simp
        refine (R_eval_p r.wh (un - fr) ps (nt - fr) (dayI nt) u6 (HIN.out.1.step (HB4.trans (hbu6.mono HB4.size))) HWV.out N D E HEV.out).mono ?_
        rintro e u7 ⟨rfl, hsu7⟩
        have hbu7 : Below w4.heap.size w4 u7 := hbu6.trans (hsu7.mono hbu6.size)
        have hS := HS.out _ hbu7
        refine hKz _ _ (fun _ => hS) ?_
        clear hKz Kz
        refine AnyJ.takeD (i := 6) (d := some 43) (v := ?_) rfl (by kernel_rfl) (by kernel_rfl) (by kernel_rfl) (by kernel_rfl) (by kernel_rfl) (fun _ _ _ h => h) (Or.inl ⟨by kernel_rfl, ?_⟩) hS ?_
        rotate_left
        ·
         intro w' hS
         obtain ⟨sE0, sE1, sE2, sA0, sA1, sA2, sA3⟩ := hS
         go_simp
         try with_reducible rfl
        refine AnyJ.takeD (i := 7) (d := some 50) (v := ?_) rfl (by kernel_rfl) (by kernel_rfl) (by kernel_rfl) (by kernel_rfl) (by kernel_rfl) (fun _ _ _ h => h) (Or.inl ⟨by kernel_rfl, ?_⟩) hS ?_
        rotate_left
        ·
         intro w' hS
         obtain ⟨sE0, sE1, sE2, sA0, sA1, sA2, sA3⟩ := hS
         go_simp
         try with_reducible rfl
        refine AnyJ.takeD (i := 8) (d := some 51) (v := ?_) rfl (by kernel_rfl) (by kernel_rfl) (by kernel_rfl) (by kernel_rfl) (by kernel_rfl) (fun _ _ _ h => h) (Or.inl ⟨by kernel_rfl, ?_⟩) hS ?_
        rotate_left
        ·
         intro w' hS
         obtain ⟨sE0, sE1, sE2, sA0, sA1, sA2, sA3⟩ := hS
         go_simp
         try with_reducible rfl
        clear hS
        replace RA := RA.step hsu7
        have a0 := RA.cell 0 rfl
        have a1 := RA.cell 1 rfl
        have f0 := RA.frozen 0
        have f1 := RA.frozen 1
        have fl := RA.lt
        refine AnyJ.one (i := 10) (by kernel_rfl) rfl (fun Kz hKz => ?_)
        go_simp
        refine hKz _ _ (fun _ => HS.out _ ((hbu7.setCell (hp := hA) (p := ⟨u5.heap.size, 0, none⟩) _).setCell (hp := hA) (p := ⟨u5.heap.size, 1, none⟩) _)) ?_
        clear hKz Kz
        refine AnyJ.one (i := 11) (by kernel_rfl) rfl (fun Kz hKz => ?_)
        go_simp
        refine hKz _ _ (fun h => by cases h) ?_
        clear hKz Kz
        refine AnyJ.done (by kernel_rfl) ?_ _
        try simp only [Act.put, List.setIfInBounds_toArray, List.set_cons_zero, List.set_cons_succ]
        clear a0 a1 f0 f1 fl
        go_wp2_with fail
        go_meet
        exact ⟨_, rfl, rfl, RA.set2 _ _, (hbu7.setCell (hp := hA) (p := ⟨u5.heap.size, 0, none⟩) _).setCell (hp := hA) (p := ⟨u5.heap.size, 1, none⟩) _⟩
      ·
       go_simp
       obtain ⟨u5, hwu5⟩ : ∃ X, World.alloc u4 (.cells #[.int .i64 0, .int .i64 0] 33) = X := ⟨_, rfl⟩
       rw [hwu5]
       have hsu5 : Below u4.heap.size u4 u5 := by rw [← hwu5]; exact (Below.refl _ _).alloc (Nat.le_refl _) _
       have hbu5 : Below w4.heap.size w4 u5 := hbu4.trans (hsu5.mono hbu4.size)
       have hA : w4.heap.size ≤ u4.heap.size := hbu4.size
       have RA : Row u5 u4.heap.size [.int .i64 0, .int .i64 0] := by rw [← hwu5]; exact Row.new' _ _ _ rfl
       clear hwu5
       refine hKz _ _ (fun _ => HS.out _ hbu5) ?_
       clear hKz Kz
       refine AnyJ.one (i := 4) (by kernel_rfl) rfl (fun Kz hKz => ?_)
       go_simp
       refine (R_vars_any k fr un ps nt u5 HP2.out HY2.out).mono ?_
       rintro e u6 ⟨rfl, hsu6⟩
       have hbu6 : Below w4.heap.size w4 u6 := hbu5.trans (hsu6.mono hbu5.size)
       refine hKz _ _ (fun _ => HS.out _ hbu6) ?_
       clear hKz Kz
       refine AnyJ.one (i := 5) (by kernel_rfl) rfl (fun Kz hKz => ?_)
       go_simp
       refine (R_eval_p r.wh (un - fr) ps (nt - fr) (dayI nt) u6 (HIN.out.1.step (HB4.trans (hbu6.mono HB4.size))) HWV.out N D E HEV.out).mono ?_
       rintro e u7 ⟨rfl, hsu7⟩
       have hbu7 : Below w4.heap.size w4 u7 := hbu6.trans (hsu7.mono hbu6.size)
       have hS := HS.out _ hbu7
       refine hKz _ _ (fun _ => hS) ?_
       clear hKz Kz
       refine AnyJ.takeD (i := 6) (d := some 43) (v := ?_) rfl (by kernel_rfl) (by kernel_rfl) (by kernel_rfl) (by kernel_rfl) (by kernel_rfl) (fun _ _ _ h => h) (Or.inl ⟨by kernel_rfl, ?_⟩) hS ?_
       rotate_left
       ·
        intro w' hS
        obtain ⟨sE0, sE1, sE2, sA0, sA1, sA2, sA3⟩ := hS
        go_simp
        try with_reducible rfl
       refine AnyJ.takeD (i := 7) (d := some 50) (v := ?_) rfl (by kernel_rfl) (by kernel_rfl) (by kernel_rfl) (by kernel_rfl) (by kernel_rfl) (fun _ _ _ h => h) (Or.inl ⟨by kernel_rfl, ?_⟩) hS ?_
       rotate_left
       ·
        intro w' hS
        obtain ⟨sE0, sE1, sE2, sA0, sA1, sA2, sA3⟩ := hS
        go_simp
        try with_reducible rfl
       refine AnyJ.takeD (i := 8) (d := some 51) (v := ?_) rfl (by kernel_rfl) (by kernel_rfl) (by kernel_rfl) (by kernel_rfl) (by kernel_rfl) (fun _ _ _ h => h) (Or.inl ⟨by kernel_rfl, ?_⟩) hS ?_
       rotate_left
       ·
        intro w' hS
        obtain ⟨sE0, sE1, sE2, sA0, sA1, sA2, sA3⟩ := hS
        go_simp
        try with_reducible rfl
       clear hS
       replace RA := (RA.step hsu6).step hsu7
       have a0 := RA.cell 0 rfl
       have a1 := RA.cell 1 rfl
       have f0 := RA.frozen 0
       have f1 := RA.frozen 1
       have fl := RA.lt
       refine AnyJ.one (i := 10) (by kernel_rfl) rfl (fun Kz hKz => ?_)
       go_simp
       refine hKz _ _ (fun _ => HS.out _ ((hbu7.setCell (hp := hA) (p := ⟨u4.heap.size, 0, none⟩) _).setCell (hp := hA) (p := ⟨u4.heap.size, 1, none⟩) _)) ?_
       clear hKz Kz
       refine AnyJ.one (i := 11) (by kernel_rfl) rfl (fun Kz hKz => ?_)
       go_simp
       refine hKz _ _ (fun h => by cases h) ?_
       clear hKz Kz
       refine AnyJ.done (by kernel_rfl) ?_ _
       try simp only [Act.put, List.setIfInBounds_toArray, List.set_cons_zero, List.set_cons_succ]
       clear a0 a1 f0 f1 fl
       go_wp2_with fail
       go_meet
       exact ⟨_, rfl, rfl, RA.set2 _ _, (hbu7.setCell (hp := hA) (p := ⟨u4.heap.size, 0, none⟩) _).setCell (hp := hA) (p := ⟨u4.heap.size, 1, none⟩) _⟩
     case' rest =>
      obtain ⟨A, rfl, rfl, RA, hb5⟩ := hcut
      obtain ⟨w5, hw5⟩ : ∃ wd, wd = wc := ⟨_, rfl⟩
      subst hw5
      have R_q_5 : Row w5 (w.heap.size) [.int .i64 r.id, .int .i64 r.lv, .int .i64 r.kd, .int .i64 r.fr, .int .i64 r.un, .int .i64 r.ls, .int .i64 r.ms, .int .i64 r.ar, .int .i64 r.kn, .int .i64 r.kk, .int .i64 r.wh.op, .int .i64 r.wh.n, .slice r.wh.at' r.wh.ks.length r.wh.cap, .int .i64 r.pr.op, .int .i64 r.pr.n, .slice r.pr.at' r.pr.ks.length r.pr.cap] := by (repeat' (first | (with_reducible assumption) | (with_reducible refine Row.new' _ _ _ (by first | rfl | (simp; done) | omega)) | (with_reducible first | refine Row.alloc ?_ _ | refine Row.drew ?_ | refine Row.step ?_ (by assumption) | refine Row.drewN ?_ _) | (with_reducible refine Row.set2' ?_ _ _; first | exact ⟨_, _, by assumption⟩ | exact ⟨_, _, Row.alloc (by assumption) _⟩) | (with_reducible refine Row.other ?_ (by first | omega | (simp; omega)) _)))
      have c_q_0_5 := R_q_5.cell 0 rfl
      have c_q_1_5 := R_q_5.cell 1 rfl
      have c_q_2_5 := R_q_5.cell 2 rfl
      have c_q_3_5 := R_q_5.cell 3 rfl
      have c_q_4_5 := R_q_5.cell 4 rfl
      have c_q_5_5 := R_q_5.cell 5 rfl
      have c_q_6_5 := R_q_5.cell 6 rfl
      have c_q_7_5 := R_q_5.cell 7 rfl
      have c_q_8_5 := R_q_5.cell 8 rfl
      have c_q_9_5 := R_q_5.cell 9 rfl
      have c_q_10_5 := R_q_5.cell 10 rfl
      have c_q_11_5 := R_q_5.cell 11 rfl
      have c_q_12_5 := R_q_5.cell 12 rfl
      have c_q_13_5 := R_q_5.cell 13 rfl
      have c_q_14_5 := R_q_5.cell 14 rfl
      have c_q_15_5 := R_q_5.cell 15 rfl
      have d_q_5 := ldV_row R_q_5 rfl
      have l_q_5 := R_q_5.lt
      have R_a_5 : Row w5 (w.heap.size + 1) [.int .i64 (k), .int .i64 (fr), .int .i64 (un), .int .i64 (ps)] := by (repeat' (first | (with_reducible assumption) | (with_reducible refine Row.new' _ _ _ (by first | rfl | (simp; done) | omega)) | (with_reducible first | refine Row.alloc ?_ _ | refine Row.drew ?_ | refine Row.step ?_ (by assumption) | refine Row.drewN ?_ _) | (with_reducible refine Row.set2' ?_ _ _; first | exact ⟨_, _, by assumption⟩ | exact ⟨_, _, Row.alloc (by assumption) _⟩) | (with_reducible refine Row.other ?_ (by first | omega | (simp; omega)) _)))
      have c_a_0_5 := R_a_5.cell 0 rfl
      have c_a_1_5 := R_a_5.cell 1 rfl
      have c_a_2_5 := R_a_5.cell 2 rfl
      have c_a_3_5 := R_a_5.cell 3 rfl
      have l_a_5 := R_a_5.lt
      have HB5 : Below w.heap.size w w5 := by (repeat' (first | (with_reducible first | exact Below.refl _ _ | assumption | exact Bw.out (by assumption) | refine bw_alloc ?_ _ | refine bw_step ?_ (by assumption) | refine Below.alloc ?_ ?_ _ | refine Below.drew ?_ | refine below_drewN ?_ _ | refine Below.setCell ?_ ?_ _ | refine below_step ?_ (by assumption) ?_ | exact Nat.le_refl _) | omega | (simp; omega) | (simp; done)))
      clear R_q_4 c_q_0_4 c_q_1_4 c_q_2_4 c_q_3_4 c_q_4_4 c_q_5_4 c_q_6_4 c_q_7_4 c_q_8_4 c_q_9_4 c_q_10_4 c_q_11_4 c_q_12_4 c_q_13_4 c_q_14_4 c_q_15_4 d_q_4 R_a_4 c_a_0_4 c_a_1_4 c_a_2_4 c_a_3_4 hb4 HB4
      have ca0 := RA.cell 0 rfl
      have cal := RA.lt
      go_wp2_with fail
      go_returns
      refine ⟨rfl, ?_⟩
      (repeat' (first | (with_reducible first | exact Below.refl _ _ | assumption | exact Bw.out (by assumption) | refine bw_alloc ?_ _ | refine bw_step ?_ (by assumption) | refine Below.alloc ?_ ?_ _ | refine Below.drew ?_ | refine below_drewN ?_ _ | refine Below.setCell ?_ ?_ _ | refine below_step ?_ (by assumption) ?_ | exact Nat.le_refl _) | omega | (simp; omega) | (simp; done)))
end
section
set_option linter.unusedSimpArgs false
set_option linter.unusedVariables false
open Go.RowKit
attribute [local go_sem ↓] ld_eq st_eq
attribute [local go_sem] ldR_run ldV_drew ldV_alloc ldV_at16 stR_run sz16_rate stB_drew stB_at16 stW_at16 stB_set ldV_set stW_cell stW_frozen ldV_stW stB_stW
theorem R_valid10_p (a : Option Addr) (n cap : Nat) (l : List RateV) (w : World) (hm : n ≤ 9223372036854775807) (hs : SlR w a n l) (p : Bool) (hp : validR l = p) :
  Calls Tryz.prog 39 #[.slice a n cap] w fun e w' => e = .returned (.bool p) ∧ Below w.heap.size w w' := by
 subst hp; exact R_valid10 a n cap l w hm hs
set_option maxRecDepth 100000 in
set_option maxHeartbeats 6400000 in
theorem R_Night_p (ad : Option Addr) (n cap : Nat) (l : List RateV) (k fr un ps nt : Int) (w : World) (hs : SlR w ad n l) (hm : n ≤ 9223372036854775807) (N I E : Int) (hR : nightV l ⟨k, fr, un, ps⟩ nt = (N, I, E)) :
  Calls Tryz.prog 13 #[.slice ad n cap, .agg #[.int .i64 k, .int .i64 fr, .int .i64 un, .int .i64 ps], .int .i64 nt] w fun e w' => e = .returned (.tuple #[.int .i64 N, .int .i64 I, .int .i64 E]) ∧ Below w.heap.size w w' := by
 have HS := Lib.hid hs
 have HLN := Lib.hid hs.1
 obtain ⟨p1, hp1⟩ : ∃ p, validR l = p := ⟨_, rfl⟩
 obtain ⟨p2, hp2⟩ : ∃ p, askB ⟨k, fr, un, ps⟩ = p := ⟨_, rfl⟩
 obtain ⟨p3, hp3⟩ : ∃ p, inE nt fr (un - 1) = p := ⟨_, rfl⟩
 have hno : (p1 && (p2 && p3)) = false → N = 0 ∧ I = 0 ∧ E = 1 := fun hf => by
  have h1 := hR
  unfold nightV inN at h1
  rw [hp1, hp2, ← inN_within, hp3, hf] at h1
  simp only [Bool.false_eq_true, if_false, Prod.mk.injEq] at h1
  exact ⟨h1.1.symm, h1.2.1.symm, h1.2.2.symm⟩
 have hin : p1 = true → p2 = true → p3 = true → (validR l && (askB ⟨k, fr, un, ps⟩ && inN ⟨k, fr, un, ps⟩ nt)) = true ∧ (fr ≤ nt ∧ nt < un) := fun q1 q2 q3 => by
  rw [q3, inN_within] at hp3
  refine ⟨?_, by simpa using hp3⟩
  unfold inN
  rw [hp1, hp2, hp3, q1, q2]
  rfl
 have HP1 := Lib.hid hp1
 have HP2 := Lib.hid hp2
 have HP3 := Lib.hid hp3
 have HNO := Lib.hid hno
 have HIN := Lib.hid hin
 have HR := Lib.hid hR
 have hun : p2 = true → 1 ≤ un ∧ un ≤ 366 := fun h => by
  obtain ⟨⟨b1, b2, b3, b4⟩, _, _⟩ := askB_in (hp2.trans h)
  simp only at b1 b2 b3 b4
  omega
 clear hR hp1 hp2 hp3 hno hin hs
 go_enter Tryz.func13, Tryz.ntmps13
 go_wp2_with fail
 refine (R_valid10_p ad n cap l _ hm (HS.out.step ((Below.refl w.heap.size w).alloc (Nat.le_refl _) _)) p1 HP1.out).mono ?_
 rintro e w1 ⟨rfl, hb1⟩
 have R_a_1 : Row w1 (w.heap.size) [.int .i64 (k), .int .i64 (fr), .int .i64 (un), .int .i64 (ps)] := by (repeat' (first | (with_reducible assumption) | (with_reducible refine Row.new' _ _ _ (by first | rfl | (simp; done) | omega)) | (with_reducible first | refine Row.alloc ?_ _ | refine Row.drew ?_ | refine Row.step ?_ (by assumption) | refine Row.drewN ?_ _) | (with_reducible refine Row.set2' ?_ _ _; first | exact ⟨_, _, by assumption⟩ | exact ⟨_, _, Row.alloc (by assumption) _⟩) | (with_reducible refine Row.other ?_ (by first | omega | (simp; omega)) _)))
 have c_a_0_1 := R_a_1.cell 0 rfl
 have c_a_1_1 := R_a_1.cell 1 rfl
 have c_a_2_1 := R_a_1.cell 2 rfl
 have c_a_3_1 := R_a_1.cell 3 rfl
 have l_a_1 := R_a_1.lt
 have HB1 : Below w.heap.size w w1 := by (repeat' (first | (with_reducible first | exact Below.refl _ _ | assumption | exact Bw.out (by assumption) | refine bw_alloc ?_ _ | refine bw_step ?_ (by assumption) | refine Below.alloc ?_ ?_ _ | refine Below.drew ?_ | refine below_drewN ?_ _ | refine Below.setCell ?_ ?_ _ | refine below_step ?_ (by assumption) ?_ | exact Nat.le_refl _) | omega | (simp; omega) | (simp; done)))
 go_wp2_with fail
 refine (R_ask_p k fr un ps p2 HP2.out _).mono ?_
 rintro e w2 ⟨rfl, hb2⟩
 have R_a_2 : Row w2 (w.heap.size) [.int .i64 (k), .int .i64 (fr), .int .i64 (un), .int .i64 (ps)] := by (repeat' (first | (with_reducible assumption) | (with_reducible refine Row.new' _ _ _ (by first | rfl | (simp; done) | omega)) | (with_reducible first | refine Row.alloc ?_ _ | refine Row.drew ?_ | refine Row.step ?_ (by assumption) | refine Row.drewN ?_ _) | (with_reducible refine Row.set2' ?_ _ _; first | exact ⟨_, _, by assumption⟩ | exact ⟨_, _, Row.alloc (by assumption) _⟩) | (with_reducible refine Row.other ?_ (by first | omega | (simp; omega)) _)))
 have c_a_0_2 := R_a_2.cell 0 rfl
 have c_a_1_2 := R_a_2.cell 1 rfl
 have c_a_2_2 := R_a_2.cell 2 rfl
 have c_a_3_2 := R_a_2.cell 3 rfl
 have l_a_2 := R_a_2.lt
 have HB2 : Below w.heap.size w w2 := by (repeat' (first | (with_reducible first | exact Below.refl _ _ | assumption | exact Bw.out (by assumption) | refine bw_alloc ?_ _ | refine bw_step ?_ (by assumption) | refine Below.alloc ?_ ?_ _ | refine Below.drew ?_ | refine below_drewN ?_ _ | refine Below.setCell ?_ ?_ _ | refine below_step ?_ (by assumption) ?_ | exact Nat.le_refl _) | omega | (simp; omega) | (simp; done)))
 clear R_a_1 c_a_0_1 c_a_1_1 c_a_2_1 c_a_3_1 hb1 HB1
 cases p1 with
 | false =>
  obtain ⟨rfl, rfl, rfl⟩ := HNO.out rfl
  go_wp2_with fail
  go_returns
  refine ⟨rfl, ?_⟩
  (repeat' (first | (with_reducible first | exact Below.refl _ _ | assumption | exact Bw.out (by assumption) | refine bw_alloc ?_ _ | refine bw_step ?_ (by assumption) | refine Below.alloc ?_ ?_ _ | refine Below.drew ?_ | refine below_drewN ?_ _ | refine Below.setCell ?_ ?_ _ | refine below_step ?_ (by assumption) ?_ | exact Nat.le_refl _) | omega | (simp; omega) | (simp; done)))
 | true =>
  cases p2 with
  | false =>
   obtain ⟨rfl, rfl, rfl⟩ := HNO.out rfl
   go_wp2_with fail
   go_returns
   refine ⟨rfl, ?_⟩
   (repeat' (first | (with_reducible first | exact Below.refl _ _ | assumption | exact Bw.out (by assumption) | refine bw_alloc ?_ _ | refine bw_step ?_ (by assumption) | refine Below.alloc ?_ ?_ _ | refine Below.drew ?_ | refine below_drewN ?_ _ | refine Below.setCell ?_ ?_ _ | refine below_step ?_ (by assumption) ?_ | exact Nat.le_refl _) | omega | (simp; omega) | (simp; done)))
  | true =>
   obtain ⟨un1, un2⟩ := hun (by simp)
   clear hun
   go_wp2_with fail
   refine (R_in11_p nt fr (un - 1) p3 HP3.out _).mono ?_
   rintro e w3 ⟨rfl, hb3⟩
   have R_a_3 : Row w3 (w.heap.size) [.int .i64 (k), .int .i64 (fr), .int .i64 (un), .int .i64 (ps)] := by (repeat' (first | (with_reducible assumption) | (with_reducible refine Row.new' _ _ _ (by first | rfl | (simp; done) | omega)) | (with_reducible first | refine Row.alloc ?_ _ | refine Row.drew ?_ | refine Row.step ?_ (by assumption) | refine Row.drewN ?_ _) | (with_reducible refine Row.set2' ?_ _ _; first | exact ⟨_, _, by assumption⟩ | exact ⟨_, _, Row.alloc (by assumption) _⟩) | (with_reducible refine Row.other ?_ (by first | omega | (simp; omega)) _)))
   have c_a_0_3 := R_a_3.cell 0 rfl
   have c_a_1_3 := R_a_3.cell 1 rfl
   have c_a_2_3 := R_a_3.cell 2 rfl
   have c_a_3_3 := R_a_3.cell 3 rfl
   have l_a_3 := R_a_3.lt
   have HB3 : Below w.heap.size w w3 := by (repeat' (first | (with_reducible first | exact Below.refl _ _ | assumption | exact Bw.out (by assumption) | refine bw_alloc ?_ _ | refine bw_step ?_ (by assumption) | refine Below.alloc ?_ ?_ _ | refine Below.drew ?_ | refine below_drewN ?_ _ | refine Below.setCell ?_ ?_ _ | refine below_step ?_ (by assumption) ?_ | exact Nat.le_refl _) | omega | (simp; omega) | (simp; done)))
   clear R_a_2 c_a_0_2 c_a_1_2 c_a_2_2 c_a_3_2 hb2 HB2
   cases p3 with
   | false =>
    obtain ⟨rfl, rfl, rfl⟩ := HNO.out rfl
    go_wp2_with fail
    go_returns
    refine ⟨rfl, ?_⟩
    (repeat' (first | (with_reducible first | exact Below.refl _ _ | assumption | exact Bw.out (by assumption) | refine bw_alloc ?_ _ | refine bw_step ?_ (by assumption) | refine Below.alloc ?_ ?_ _ | refine Below.drew ?_ | refine below_drewN ?_ _ | refine Below.setCell ?_ ?_ _ | refine below_step ?_ (by assumption) ?_ | exact Nat.le_refl _) | omega | (simp; omega) | (simp; done)))
   | true =>
    have HI := Lib.hid (HIN.out (by simp) (by simp) (by simp)).1
    have HNT := Lib.hid (HIN.out (by simp) (by simp) (by simp)).2
    have HRA := Lib.hid R_a_3
    have HBI3 := Lib.hid HB3
    have hsz3 := HB3.size
    clear HIN HNO
    go_wp2_with fail
    clear c_a_0_3 c_a_1_3 c_a_2_3 c_a_3_3 hb3 HB3 R_a_3
    go_loopw [11, 12] (fun v11 v12 wr => ∃ (q : Nat) (z : Int) (o : Option RateV), q ≤ n ∧ v11 = .int .i64 z ∧ v12 = .int .i64 q ∧ Hid (bestR ⟨k, fr, un, ps⟩ nt none (l.take q) = (o, 0)) ∧ Hid (IdxO l q o z) ∧ Hid (Below w3.heap.size w3 wr)) (fun _ v12 _ => n - (intOf v12).toNat)
    case atStart => exact ⟨0, -1, none, Nat.zero_le _, rfl, rfl, rfl, Or.inl ⟨rfl, rfl⟩, Below.refl _ _⟩
    case round =>
     obtain ⟨q, z, o, hq, rfl, rfl, hbe, hix, hC⟩ := hrel
     have hsC := hC.out.size
     have HBw : Hid (Below w.heap.size w wr) := HBI3.out.trans (hC.out.mono hsz3)
     by_cases hlt : q < n
     ·
      obtain ⟨x, b, off, hx, rfl, hlb, hxin, hcl⟩ := (HS.out.step HBw.out).get hlt
      have HSX : Hid (∀ W, Below wr.heap.size wr W → ldV W (.pointer (some ⟨b, off + q * 16, none⟩)) = some (.agg #[.int .i64 x.id, .int .i64 x.lv, .int .i64 x.kd, .int .i64 x.fr, .int .i64 x.un, .int .i64 x.ls, .int .i64 x.ms, .int .i64 x.ar, .int .i64 x.kn, .int .i64 x.kk, .int .i64 x.wh.op, .int .i64 x.wh.n, .slice x.wh.at' x.wh.ks.length x.wh.cap, .int .i64 x.pr.op, .int .i64 x.pr.n, .slice x.pr.at' x.pr.ks.length x.pr.cap]) ∧ W.cell? ⟨w.heap.size, 0, none⟩ = some (.int .i64 k) ∧ W.cell? ⟨w.heap.size, 1, none⟩ = some (.int .i64 fr) ∧ W.cell? ⟨w.heap.size, 2, none⟩ = some (.int .i64 un) ∧ W.cell? ⟨w.heap.size, 3, none⟩ = some (.int .i64 ps)) := fun W h => by
       have RA := (HRA.out.step hC.out).step h
       exact ⟨ldV_at (fun j v hj => (h.cell (p := ⟨b, off + q * 16 + j, none⟩) (World.block_lt_of_cell? wr _ (hcl.out j v hj))).trans (hcl.out j v hj)) rfl, RA.cell 0 rfl, RA.cell 1 rfl, RA.cell 2 rfl, RA.cell 3 rfl⟩
      have HCX : Hid (∀ W, Below wr.heap.size wr W → W.cell? ⟨b, off + q * 16, none⟩ = some (.int .i64 x.id) ∧ W.cell? ⟨b, off + q * 16 + 1, none⟩ = some (.int .i64 x.lv)) := fun W h =>
       ⟨(h.cell (p := ⟨b, off + q * 16 + 0, none⟩) (World.block_lt_of_cell? wr _ (hcl.out 0 _ rfl))).trans (hcl.out 0 _ rfl), (h.cell (p := ⟨b, off + q * 16 + 1, none⟩) (World.block_lt_of_cell? wr _ (hcl.out 1 _ rfl))).trans (hcl.out 1 _ rfl)⟩
      obtain ⟨BX, EX, hBX⟩ : ∃ B E, appl x ⟨k, fr, un, ps⟩ nt = (B, E) := ⟨_, _, rfl⟩
      have HAP : Hid (applV x ⟨k, fr, un, ps⟩ nt = (BX, EX)) := by
       show _ = _
       rw [applV_in HI.out (List.mem_of_getElem? hx.out), hBX]
      have HBX := Lib.hid hBX
      have i1 : (0 : Int) ≤ (q : Int) := by omega
      have i2 : (q : Int) < (n : Int) := by omega
      clear hcl hBX
      go_upto_region 9 with fail
      refine AnyJ.beginP (fun W => ldV W (.pointer (some ⟨b, off + q * 16, none⟩)) = some (.agg #[.int .i64 x.id, .int .i64 x.lv, .int .i64 x.kd, .int .i64 x.fr, .int .i64 x.un, .int .i64 x.ls, .int .i64 x.ms, .int .i64 x.ar, .int .i64 x.kn, .int .i64 x.kk, .int .i64 x.wh.op, .int .i64 x.wh.n, .slice x.wh.at' x.wh.ks.length x.wh.cap, .int .i64 x.pr.op, .int .i64 x.pr.n, .slice x.pr.at' x.pr.ks.length x.pr.cap]) ∧ W.cell? ⟨w.heap.size, 0, none⟩ = some (.int .i64 k) ∧ W.cell? ⟨w.heap.size, 1, none⟩ = some (.int .i64 fr) ∧ W.cell? ⟨w.heap.size, 2, none⟩ = some (.int .i64 un) ∧ W.cell? ⟨w.heap.size, 3, none⟩ = some (.int .i64 ps)) (fun _ => true) (by kernel_rfl) (HSX.out _ (Below.refl _ _).drew) (fun hS => ?_)
      refine AnyJ.takeD (i := 0) (d := some 46) (v := ?_) rfl (by kernel_rfl) (by kernel_rfl) (by kernel_rfl) (by kernel_rfl) (by kernel_rfl) (fun _ _ _ h => h) (Or.inl ⟨by kernel_rfl, ?_⟩) hS ?_
      rotate_left
      ·
       intro w' hS
       obtain ⟨s0, s1, s2, s3, s4⟩ := hS
       go_simp
       try with_reducible rfl
      refine AnyJ.takeD (i := 1) (d := some 47) (v := ?_) rfl (by kernel_rfl) (by kernel_rfl) (by kernel_rfl) (by kernel_rfl) (by kernel_rfl) (fun _ _ _ h => h) (Or.inl ⟨by kernel_rfl, ?_⟩) hS ?_
      rotate_left
      ·
       intro w' hS
       obtain ⟨s0, s1, s2, s3, s4⟩ := hS
       go_simp
       try with_reducible rfl
      refine AnyJ.takeD (i := 2) (d := some 48) (v := ?_) rfl (by kernel_rfl) (by kernel_rfl) (by kernel_rfl) (by kernel_rfl) (by kernel_rfl) (fun _ _ _ h => h) (Or.inl ⟨by kernel_rfl, ?_⟩) hS ?_
      rotate_left
      ·
       intro w' hS
       obtain ⟨s0, s1, s2, s3, s4⟩ := hS
       go_simp
       try with_reducible rfl
      refine AnyJ.takeD (i := 3) (d := some 49) (v := ?_) rfl (by kernel_rfl) (by kernel_rfl) (by kernel_rfl) (by kernel_rfl) (by kernel_rfl) (fun _ _ _ h => h) (Or.inl ⟨by kernel_rfl, ?_⟩) hS ?_
      rotate_left
      ·
       intro w' hS
       obtain ⟨s0, s1, s2, s3, s4⟩ := hS
       go_simp
       try with_reducible rfl
      refine AnyJ.takeD (i := 4) (d := some 50) (v := ?_) rfl (by kernel_rfl) (by kernel_rfl) (by kernel_rfl) (by kernel_rfl) (by kernel_rfl) (fun _ _ _ h => h) (Or.inl ⟨by kernel_rfl, ?_⟩) hS ?_
      rotate_left
      ·
       intro w' hS
       obtain ⟨s0, s1, s2, s3, s4⟩ := hS
       go_simp
       try with_reducible rfl
      refine AnyJ.takeD (i := 5) (d := some 51) (v := ?_) rfl (by kernel_rfl) (by kernel_rfl) (by kernel_rfl) (by kernel_rfl) (by kernel_rfl) (fun _ _ _ h => h) (Or.inl ⟨by kernel_rfl, ?_⟩) hS ?_
      rotate_left
      ·
       intro w' hS
       obtain ⟨s0, s1, s2, s3, s4⟩ := hS
       go_simp
       try with_reducible rfl
      clear hS
      refine AnyJ.one (i := 6) (by kernel_rfl) rfl (fun Kz hKz => ?_)
      go_simp
      refine (R_Applies_p x k fr un ps nt wr.drew (hxin.out.step (Below.refl _ _).drew) BX EX HAP.out).mono ?_
      rintro e w4 ⟨rfl, hb4⟩
      have hbr : Below wr.heap.size wr w4 := ((Below.refl _ wr).drew).trans hb4
      have hS := HSX.out _ hbr
      refine hKz _ _ (fun _ => hS) ?_
      clear hKz Kz hb4
      refine AnyJ.takeD (i := 7) (d := some 45) (v := ?_) rfl (by kernel_rfl) (by kernel_rfl) (by kernel_rfl) (by kernel_rfl) (by kernel_rfl) (fun _ _ _ h => h) (Or.inl ⟨by kernel_rfl, ?_⟩) hS ?_
      rotate_left
      ·
       intro w' hS
       obtain ⟨s0, s1, s2, s3, s4⟩ := hS
       go_simp
       try with_reducible rfl
      refine AnyJ.takeD (i := 8) (d := some 53) (v := ?_) rfl (by kernel_rfl) (by kernel_rfl) (by kernel_rfl) (by kernel_rfl) (by kernel_rfl) (fun _ _ _ h => h) (Or.inl ⟨by kernel_rfl, ?_⟩) hS ?_
      rotate_left
      ·
       intro w' hS
       obtain ⟨s0, s1, s2, s3, s4⟩ := hS
       go_simp
       try with_reducible rfl
      refine AnyJ.takeD (i := 9) (d := some 54) (v := ?_) rfl (by kernel_rfl) (by kernel_rfl) (by kernel_rfl) (by kernel_rfl) (by kernel_rfl) (fun _ _ _ h => h) (Or.inl ⟨by kernel_rfl, ?_⟩) hS ?_
      rotate_left
      ·
       intro w' hS
       obtain ⟨s0, s1, s2, s3, s4⟩ := hS
       go_simp
       try with_reducible rfl
      refine AnyJ.takeD (i := 10) (d := some 13) (v := ?_) rfl (by kernel_rfl) (by kernel_rfl) (by kernel_rfl) (by kernel_rfl) (by kernel_rfl) (fun _ _ _ h => h) (Or.inl ⟨by kernel_rfl, ?_⟩) hS ?_
      rotate_left
      ·
       intro w' hS
       obtain ⟨s0, s1, s2, s3, s4⟩ := hS
       go_simp
       try with_reducible rfl
      refine AnyJ.takeD (i := 11) (d := some 14) (v := ?_) rfl (by kernel_rfl) (by kernel_rfl) (by kernel_rfl) (by kernel_rfl) (by kernel_rfl) (fun _ _ _ h => h) (Or.inl ⟨by kernel_rfl, ?_⟩) hS ?_
      rotate_left
      ·
       intro w' hS
       obtain ⟨s0, s1, s2, s3, s4⟩ := hS
       go_simp
       try with_reducible rfl
      refine AnyJ.done (by kernel_rfl) ?_ _
      try simp only [Act.put, List.setIfInBounds_toArray, List.set_cons_zero, List.set_cons_succ]
      clear hS
      have hsz4 : wr.heap.size ≤ w4.heap.size := hbr.size
      obtain ⟨x0, x1⟩ := HCX.out _ hbr
      have HBR := Lib.hid hbr
      have HB4 : Hid (Below w3.heap.size w3 w4) := hC.out.trans (hbr.mono hsC)
      clear hbr
      by_cases hE : EX = 0
      ·
       subst hE
       have hst := best_step hx.out hbe.out (by rw [HBX.out])
       rw [HBX.out] at hst
       have HST := Lib.hid hst
       clear hst
       cases BX with
       | false =>
        have HBE : Hid (bestR ⟨k, fr, un, ps⟩ nt none (l.take (q + 1)) = (o, 0)) := HST.out
        have HIX : Hid (IdxO l (q + 1) o z) := by
         rcases hix.out with h | ⟨j, y, h1, h2⟩
         ·
          exact Or.inl h
         ·
          exact Or.inr ⟨j, y, by omega, h2⟩
        go_upto_region 12 with fail
        go_quiet (fail)
        go_wp2_with fail
        go_roundw
        case rel => exact ⟨q + 1, _, _, by omega, rfl, by go_num, HBE.out, HIX.out, (below_drewN HB4.out _ : Below _ _ _)⟩
        case measure => simp [intOf]; omega
       | true =>
        rcases hix.out with ⟨rfl, rfl⟩ | ⟨j, y, hj, hy, rfl, rfl⟩
        ·
         have HBE : Hid (bestR ⟨k, fr, un, ps⟩ nt none (l.take (q + 1)) = (some x, 0)) := HST.out
         have HIX : Hid (IdxO l (q + 1) (some x) q) := Or.inr ⟨q, x, by omega, hx.out, rfl, rfl⟩
         go_upto_region 12 with fail
         go_quiet (fail)
         go_wp2_with fail
         go_roundw
         case rel => exact ⟨q + 1, _, _, by omega, rfl, by go_num, HBE.out, HIX.out, (below_drewN HB4.out _ : Below _ _ _)⟩
         case measure => simp [intOf]; omega
        ·
         obtain ⟨y', b', off', hy', e', _, _, hcl'⟩ := (HS.out.step HBw.out).get (show j < n by omega)
         cases e'
         have hyy : y' = y := by have h1 := hy'.out; rw [hy] at h1; exact (Option.some.inj h1).symm
         subst hyy
         have y0 : w4.cell? ⟨b, off + j * 16, none⟩ = some (.int .i64 y'.id) := (HBR.out.cell (p := ⟨b, off + j * 16 + 0, none⟩) (World.block_lt_of_cell? wr _ (hcl'.out 0 _ rfl))).trans (hcl'.out 0 _ rfl)
         have y1 : w4.cell? ⟨b, off + j * 16 + 1, none⟩ = some (.int .i64 y'.lv) := (HBR.out.cell (p := ⟨b, off + j * 16 + 1, none⟩) (World.block_lt_of_cell? wr _ (hcl'.out 1 _ rfl))).trans (hcl'.out 1 _ rfl)
         have HY := Lib.hid hy
         have i3 : (0 : Int) ≤ (j : Int) := by omega
         have i4 : (j : Int) < (n : Int) := by omega
         have i5 : ¬ ((j : Int) < 0) := by omega
         clear hcl' hy
         obtain ⟨t, ht⟩ : ∃ t, btr x y' = t := ⟨_, rfl⟩
         have HT := Lib.hid ht
         have HBE0 : Hid (bestR ⟨k, fr, un, ps⟩ nt none (l.take (q + 1)) = (if t then some x else some y', 0)) := by
          show _ = _
          rw [HST.out]
          show ((if btr x y' = true then some x else some y'), (0 : Int)) = _
          rw [ht]
         have HWIN : Hid (IdxO l (q + 1) (some x) q) := Or.inr ⟨q, x, by omega, hx.out, rfl, rfl⟩
         have HOLD : Hid (IdxO l (q + 1) (some y') j) := Or.inr ⟨j, y', by omega, HY.out, rfl, rfl⟩
         clear ht
         by_cases hl1 : y'.lv < x.lv
         ·
          have g1 : decide (y'.lv < x.lv) = true := by simpa using hl1
          have hT : t = true := by rw [← HT.out]; unfold btr; simp [hl1]
          subst hT
          have HBE : Hid (bestR ⟨k, fr, un, ps⟩ nt none (l.take (q + 1)) = (some x, 0)) := HBE0.out
          have HIX := HWIN
          clear hl1
          go_upto_region 12 with fail
          go_quiet (fail)
          go_wp2_with fail
          go_roundw
          case rel => exact ⟨q + 1, _, _, by omega, rfl, by go_num, HBE.out, HIX.out, (below_drewN HB4.out _ : Below _ _ _)⟩
          case measure => simp [intOf]; omega
         ·
          have g1 : decide (y'.lv < x.lv) = false := by simpa using hl1
          by_cases hl2 : x.lv = y'.lv
          ·
           have g2 : (x.lv == y'.lv) = true := by simpa using hl2
           by_cases hl3 : x.id < y'.id
           ·
            have g3 : decide (x.id < y'.id) = true := by simpa using hl3
            have hT : t = true := by rw [← HT.out]; unfold btr; simp [hl2, hl3]
            subst hT
            have HBE : Hid (bestR ⟨k, fr, un, ps⟩ nt none (l.take (q + 1)) = (some x, 0)) := HBE0.out
            have HIX := HWIN
            clear hl1 hl2 hl3
            go_upto_region 12 with fail
            go_quiet (fail)
            go_wp2_with fail
            go_roundw
            case rel => exact ⟨q + 1, _, _, by omega, rfl, by go_num, HBE.out, HIX.out, (below_drewN HB4.out _ : Below _ _ _)⟩
            case measure => simp [intOf]; omega
           ·
            have g3 : decide (x.id < y'.id) = false := by simpa using hl3
            have hT : t = false := by rw [← HT.out]; unfold btr; simp [hl2, hl3]
            subst hT
            have HBE : Hid (bestR ⟨k, fr, un, ps⟩ nt none (l.take (q + 1)) = (some y', 0)) := HBE0.out
            have HIX := HOLD
            clear hl1 hl2 hl3
            go_upto_region 12 with fail
            go_quiet (fail)
            go_wp2_with fail
            go_roundw
            case rel => exact ⟨q + 1, _, _, by omega, rfl, by go_num, HBE.out, HIX.out, (below_drewN HB4.out _ : Below _ _ _)⟩
            case measure => simp [intOf]; omega
          ·
           have g2 : (x.lv == y'.lv) = false := by simpa using hl2
           have hT : t = false := by rw [← HT.out]; unfold btr; simp [hl1, hl2]
           subst hT
           have HBE : Hid (bestR ⟨k, fr, un, ps⟩ nt none (l.take (q + 1)) = (some y', 0)) := HBE0.out
           have HIX := HOLD
           clear hl1 hl2
           go_upto_region 12 with fail
           go_quiet (fail)
           go_wp2_with fail
           go_roundw
           case rel => exact ⟨q + 1, _, _, by omega, rfl, by go_num, HBE.out, HIX.out, (below_drewN HB4.out _ : Below _ _ _)⟩
           case measure => simp [intOf]; omega
      ·
       have hE' : (EX != 0) = true := by simpa using hE
       have hb := best_err hx.out hbe.out (by rw [HBX.out]; exact hE)
       rw [HBX.out] at hb
       obtain ⟨rfl, rfl, rfl⟩ := night_err HI.out HR.out hb hE
       clear hE hb
       go_wp2_with fail
       go_returns
       refine ⟨rfl, ?_⟩
       exact HBI3.out.trans (HB4.out.mono hsz3)
     ·
      obtain rfl : n = q := by omega
      have hbl := hbe.out
      rw [List.take_of_length_le (by rw [HLN.out]; omega)] at hbl
      rcases hix.out with ⟨rfl, rfl⟩ | ⟨j, y, hj, hy, rfl, rfl⟩
      ·
       obtain ⟨rfl, rfl, rfl⟩ := night_none HI.out HR.out hbl
       clear hbl
       go_wp2_with fail
       go_returns
       refine ⟨rfl, ?_⟩
       exact HBw.out
      ·
       obtain ⟨y', b, off, hy', rfl, _, hyin, hcl⟩ := (HS.out.step HBw.out).get hj
       have hyy : y' = y := by have h1 := hy'.out; rw [hy] at h1; exact (Option.some.inj h1).symm
       subst hyy
       obtain ⟨N1, D1, E1, hev⟩ : ∃ N D E, y'.pr.ev (var4 (un - fr) ps (nt - fr) (dayI nt)) = (N, D, E) := ⟨_, _, _, rfl⟩
       obtain ⟨ns1, ns2, ns3⟩ := night_some HI.out HR.out hbl (show y'.pr.ev ((⟨k, fr, un, ps⟩ : AskV).vars nt) = _ from hev)
       have HN1 := Lib.hid ns1
       have HN2 := Lib.hid ns2
       have HN3 := Lib.hid ns3
       have HEV := Lib.hid hev
       have HYI : Hid (y'.pr.In wr) := hyin.out.2
       have HYO : Hid (y'.pr.ok = true) := validE_ok (formB_valid (rateB_form ((validR_in HP1.out).2 y' (List.mem_of_getElem? hy))).1).2
       have HSY : Hid (∀ W, Below wr.heap.size wr W → W.cell? ⟨b, off + j * 16 + 13, none⟩ = some (.int .i64 y'.pr.op) ∧ W.cell? ⟨b, off + j * 16 + 14, none⟩ = some (.int .i64 y'.pr.n) ∧ W.cell? ⟨b, off + j * 16 + 15, none⟩ = some (.slice y'.pr.at' y'.pr.ks.length y'.pr.cap) ∧ W.cell? ⟨w.heap.size, 0, none⟩ = some (.int .i64 k) ∧ W.cell? ⟨w.heap.size, 1, none⟩ = some (.int .i64 fr) ∧ W.cell? ⟨w.heap.size, 2, none⟩ = some (.int .i64 un) ∧ W.cell? ⟨w.heap.size, 3, none⟩ = some (.int .i64 ps)) := fun W h => by
        have RA := (HRA.out.step hC.out).step h
        have hc : ∀ j' v, y'.cells[j']? = some v → W.cell? ⟨b, off + j * 16 + j', none⟩ = some v := fun j' v hj' => (h.cell (p := ⟨b, off + j * 16 + j', none⟩) (World.block_lt_of_cell? wr _ (hcl.out j' v hj'))).trans (hcl.out j' v hj')
        exact ⟨hc 13 _ rfl, hc 14 _ rfl, hc 15 _ rfl, RA.cell 0 rfl, RA.cell 1 rfl, RA.cell 2 rfl, RA.cell 3 rfl⟩
       have HCY : Hid (∀ W, Below wr.heap.size wr W → W.cell? ⟨b, off + j * 16, none⟩ = some (.int .i64 y'.id)) := fun W h =>
        (h.cell (p := ⟨b, off + j * 16 + 0, none⟩) (World.block_lt_of_cell? wr _ (hcl.out 0 _ rfl))).trans (hcl.out 0 _ rfl)
       have i3 : (0 : Int) ≤ (j : Int) := by omega
       have i4 : (j : Int) < (n : Int) := by omega
       have i5 : ¬ ((j : Int) < 0) := by omega
       clear hcl hyin hev ns1 ns2 ns3 hbl hy hix hbe
       go_upto_region 16 with fail
       go_cut [15, 16] from 105 to 116 (fun v u wx => ∃ A : Nat, v = .pointer (some ⟨A, 0, none⟩) ∧ u = .int .i64 E1 ∧ Row wx A [.int .i64 N1, .int .i64 D1] ∧ Below wr.heap.size wr wx)
       case first =>
        refine AnyJ.beginP (fun W => W.cell? ⟨b, off + j * 16 + 13, none⟩ = some (.int .i64 y'.pr.op) ∧ W.cell? ⟨b, off + j * 16 + 14, none⟩ = some (.int .i64 y'.pr.n) ∧ W.cell? ⟨b, off + j * 16 + 15, none⟩ = some (.slice y'.pr.at' y'.pr.ks.length y'.pr.cap) ∧ W.cell? ⟨w.heap.size, 0, none⟩ = some (.int .i64 k) ∧ W.cell? ⟨w.heap.size, 1, none⟩ = some (.int .i64 fr) ∧ W.cell? ⟨w.heap.size, 2, none⟩ = some (.int .i64 un) ∧ W.cell? ⟨w.heap.size, 3, none⟩ = some (.int .i64 ps)) (fun j => decide (j ≤ 13)) (by kernel_rfl) (HSY.out _ (Below.refl _ _).drew) (fun hS => ?_)
        obtain ⟨u4, hu4⟩ : ∃ X, World.drew wr = X := ⟨_, rfl⟩
        have hbu4 : Below wr.heap.size wr u4 := by rw [← hu4]; exact (Below.refl _ _).drew
        rw [hu4] at hS ⊢
        clear hu4
        refine AnyJ.takeD (i := 0) (d := some 106) (v := ?_) rfl (by kernel_rfl) (by kernel_rfl) (by kernel_rfl) (by kernel_rfl) (by kernel_rfl) (fun _ _ _ h => h) (Or.inl ⟨by kernel_rfl, ?_⟩) hS ?_
        rotate_left
        ·
         intro w' hS
         obtain ⟨sE0, sE1, sE2, sA0, sA1, sA2, sA3⟩ := hS
         go_simp
         try with_reducible rfl
        refine AnyJ.takeD (i := 1) (d := some 107) (v := ?_) rfl (by kernel_rfl) (by kernel_rfl) (by kernel_rfl) (by kernel_rfl) (by kernel_rfl) (fun _ _ _ h => h) (Or.inl ⟨by kernel_rfl, ?_⟩) hS ?_
        rotate_left
        ·
         intro w' hS
         obtain ⟨sE0, sE1, sE2, sA0, sA1, sA2, sA3⟩ := hS
         go_simp
         try with_reducible rfl
        refine AnyJ.takeD (i := 2) (d := some 108) (v := ?_) rfl (by kernel_rfl) (by kernel_rfl) (by kernel_rfl) (by kernel_rfl) (by kernel_rfl) (fun _ _ _ h => h) (Or.inl ⟨by kernel_rfl, ?_⟩) hS ?_
        rotate_left
        ·
         intro w' hS
         obtain ⟨sE0, sE1, sE2, sA0, sA1, sA2, sA3⟩ := hS
         go_simp
         try with_reducible rfl
        refine AnyJ.takeD (i := 3) (d := some 109) (v := ?_) rfl (by kernel_rfl) (by kernel_rfl) (by kernel_rfl) (by kernel_rfl) (by kernel_rfl) (fun _ _ _ h => h) (Or.inl ⟨by kernel_rfl, ?_⟩) hS ?_
        rotate_left
        ·
         intro w' hS
         obtain ⟨sE0, sE1, sE2, sA0, sA1, sA2, sA3⟩ := hS
         go_simp
         try with_reducible rfl
        refine AnyJ.takeD (i := 4) (d := some 110) (v := ?_) rfl (by kernel_rfl) (by kernel_rfl) (by kernel_rfl) (by kernel_rfl) (by kernel_rfl) (fun _ _ _ h => h) (Or.inl ⟨by kernel_rfl, ?_⟩) hS ?_
        rotate_left
        ·
         intro w' hS
         obtain ⟨sE0, sE1, sE2, sA0, sA1, sA2, sA3⟩ := hS
         go_simp
         try with_reducible rfl
        refine AnyJ.takeD (i := 5) (d := some 111) (v := ?_) rfl (by kernel_rfl) (by kernel_rfl) (by kernel_rfl) (by kernel_rfl) (by kernel_rfl) (fun _ _ _ h => h) (Or.inl ⟨by kernel_rfl, ?_⟩) hS ?_
        rotate_left
        ·
         intro w' hS
         obtain ⟨sE0, sE1, sE2, sA0, sA1, sA2, sA3⟩ := hS
         go_simp
         try with_reducible rfl
        refine AnyJ.takeD (i := 6) (d := some 112) (v := ?_) rfl (by kernel_rfl) (by kernel_rfl) (by kernel_rfl) (by kernel_rfl) (by kernel_rfl) (fun _ _ _ h => h) (Or.inl ⟨by kernel_rfl, ?_⟩) hS ?_
        rotate_left
        ·
         intro w' hS
         obtain ⟨sE0, sE1, sE2, sA0, sA1, sA2, sA3⟩ := hS
         go_simp
         try with_reducible rfl
        clear hS
        refine AnyJ.two (i := 7) (j := 12) (by kernel_rfl) rfl rfl (fun Kz hKz => ?_) (fun Kz hKz => ?_)
        ·
         go_simp
         refine (R_vars_any k fr un ps nt u4 HP2.out HNT.out).mono ?_
         rintro e u5 ⟨rfl, hsu5⟩
         have hbu5 : Below wr.heap.size wr u5 := hbu4.trans (hsu5.mono hbu4.size)
         refine hKz _ _ (fun _ => HSY.out _ hbu5) ?_
         clear hKz Kz
         refine AnyJ.two (i := 8) (j := 12) (by kernel_rfl) rfl rfl (fun Kz hKz => ?_) (fun Kz hKz => ?_)
         ·
          go_simp
          refine (R_eval_p y'.pr (un - fr) ps (nt - fr) (dayI nt) u5 (HYI.out.step hbu5) HYO.out N1 D1 E1 HEV.out).mono ?_
          rintro e u6 ⟨rfl, hsu6⟩
          have hbu6 : Below wr.heap.size wr u6 := hbu5.trans (hsu6.mono hbu5.size)
          have hS := HSY.out _ hbu6
          refine hKz _ _ (fun _ => hS) ?_
          clear hKz Kz
          refine AnyJ.takeD (i := 9) (d := some 105) (v := ?_) rfl (by kernel_rfl) (by kernel_rfl) (by kernel_rfl) (by kernel_rfl) (by kernel_rfl) (fun _ _ _ h => h) (Or.inl ⟨by kernel_rfl, ?_⟩) hS ?_
          rotate_left
          ·
           intro w' hS
           obtain ⟨sE0, sE1, sE2, sA0, sA1, sA2, sA3⟩ := hS
           go_simp
           try with_reducible rfl
          refine AnyJ.takeD (i := 10) (d := some 115) (v := ?_) rfl (by kernel_rfl) (by kernel_rfl) (by kernel_rfl) (by kernel_rfl) (by kernel_rfl) (fun _ _ _ h => h) (Or.inl ⟨by kernel_rfl, ?_⟩) hS ?_
          rotate_left
          ·
           intro w' hS
           obtain ⟨sE0, sE1, sE2, sA0, sA1, sA2, sA3⟩ := hS
           go_simp
           try with_reducible rfl
          refine AnyJ.takeD (i := 11) (d := some 116) (v := ?_) rfl (by kernel_rfl) (by kernel_rfl) (by kernel_rfl) (by kernel_rfl) (by kernel_rfl) (fun _ _ _ h => h) (Or.inl ⟨by kernel_rfl, ?_⟩) hS ?_
          rotate_left
          ·
           intro w' hS
           obtain ⟨sE0, sE1, sE2, sA0, sA1, sA2, sA3⟩ := hS
           go_simp
           try with_reducible rfl
          clear hS
          refine AnyJ.one (i := 12) (by kernel_rfl) rfl (fun Kz hKz => ?_)
          go_simp
          obtain ⟨u7, hwu7⟩ : ∃ X, World.alloc u6 (.cells #[.int .i64 0, .int .i64 0] 33) = X := ⟨_, rfl⟩
          rw [hwu7]
          have hsu7 : Below u6.heap.size u6 u7 := by rw [← hwu7]; exact (Below.refl _ _).alloc (Nat.le_refl _) _
          have hbu7 : Below wr.heap.size wr u7 := hbu6.trans (hsu7.mono hbu6.size)
          have hA : wr.heap.size ≤ u6.heap.size := hbu6.size
          have RA : Row u7 u6.heap.size [.int .i64 0, .int .i64 0] := by rw [← hwu7]; exact Row.new' _ _ _ rfl
          clear hwu7
          refine hKz _ _ (fun _ => HSY.out _ hbu7) ?_
          clear hKz Kz
          have a0 := RA.cell 0 rfl
          have a1 := RA.cell 1 rfl
          have f0 := RA.frozen 0
          have f1 := RA.frozen 1
          have fl := RA.lt
          refine AnyJ.one (i := 13) (by kernel_rfl) rfl (fun Kz hKz => ?_)
          go_simp
          refine hKz _ _ (fun _ => HSY.out _ ((hbu7.setCell (hp := hA) (p := ⟨u6.heap.size, 0, none⟩) _).setCell (hp := hA) (p := ⟨u6.heap.size, 1, none⟩) _)) ?_
          clear hKz Kz
          refine AnyJ.one (i := 14) (by kernel_rfl) rfl (fun Kz hKz => ?_)
          go_simp
          refine hKz _ _ (fun h => by cases h) ?_
          clear hKz Kz
          refine AnyJ.done (by kernel_rfl) ?_ _
          try simp only [Act.put, List.setIfInBounds_toArray, List.set_cons_zero, List.set_cons_succ]
          clear a0 a1 f0 f1 fl
          go_wp2_with fail
          go_meet
          exact ⟨_, rfl, rfl, RA.set2 _ _, (hbu7.setCell (hp := hA) (p := ⟨u6.heap.size, 0, none⟩) _).setCell (hp := hA) (p := ⟨u6.heap.size, 1, none⟩) _⟩
         ·
          go_simp
          obtain ⟨u6, hwu6⟩ : ∃ X, World.alloc u5 (.cells #[.int .i64 0, .int .i64 0] 33) = X := ⟨_, rfl⟩
          rw [hwu6]
          have hsu6 : Below u5.heap.size u5 u6 := by rw [← hwu6]; exact (Below.refl _ _).alloc (Nat.le_refl _) _
          have hbu6 : Below wr.heap.size wr u6 := hbu5.trans (hsu6.mono hbu5.size)
          have hA : wr.heap.size ≤ u5.heap.size := hbu5.size
          have RA : Row u6 u5.heap.size [.int .i64 0, .int .i64 0] := by rw [← hwu6]; exact Row.new' _ _ _ rfl
          clear hwu6
          refine hKz _ _ (fun _ => HSY.out _ hbu6) ?_
          clear hKz Kz
          refine AnyJ.one (i := 8) (by kernel_rfl) rfl (fun Kz hKz => ?_)
          go_simp
          refine (R_eval_p y'.pr (un - fr) ps (nt - fr) (dayI nt) u6 (HYI.out.step hbu6) HYO.out N1 D1 E1 HEV.out).mono ?_
          rintro e u7 ⟨rfl, hsu7⟩
          have hbu7 : Below wr.heap.size wr u7 := hbu6.trans (hsu7.mono hbu6.size)
          have hS := HSY.out _ hbu7
          refine hKz _ _ (fun _ => hS) ?_
          clear hKz Kz
          refine AnyJ.takeD (i := 9) (d := some 105) (v := ?_) rfl (by kernel_rfl) (by kernel_rfl) (by kernel_rfl) (by kernel_rfl) (by kernel_rfl) (fun _ _ _ h => h) (Or.inl ⟨by kernel_rfl, ?_⟩) hS ?_
          rotate_left
          ·
           intro w' hS
           obtain ⟨sE0, sE1, sE2, sA0, sA1, sA2, sA3⟩ := hS
           go_simp
           try with_reducible rfl
          refine AnyJ.takeD (i := 10) (d := some 115) (v := ?_) rfl (by kernel_rfl) (by kernel_rfl) (by kernel_rfl) (by kernel_rfl) (by kernel_rfl) (fun _ _ _ h => h) (Or.inl ⟨by kernel_rfl, ?_⟩) hS ?_
          rotate_left
          ·
           intro w' hS
           obtain ⟨sE0, sE1, sE2, sA0, sA1, sA2, sA3⟩ := hS
           go_simp
           try with_reducible rfl
          refine AnyJ.takeD (i := 11) (d := some 116) (v := ?_) rfl (by kernel_rfl) (by kernel_rfl) (by kernel_rfl) (by kernel_rfl) (by kernel_rfl) (fun _ _ _ h => h) (Or.inl ⟨by kernel_rfl, ?_⟩) hS ?_
          rotate_left
          ·
           intro w' hS
           obtain ⟨sE0, sE1, sE2, sA0, sA1, sA2, sA3⟩ := hS
           go_simp
           try with_reducible rfl
          clear hS
          replace RA := RA.step hsu7
          have a0 := RA.cell 0 rfl
          have a1 := RA.cell 1 rfl
          have f0 := RA.frozen 0
          have f1 := RA.frozen 1
          have fl := RA.lt
          refine AnyJ.one (i := 13) (by kernel_rfl) rfl (fun Kz hKz => ?_)
          go_simp
          refine hKz _ _ (fun _ => HSY.out _ ((hbu7.setCell (hp := hA) (p := ⟨u5.heap.size, 0, none⟩) _).setCell (hp := hA) (p := ⟨u5.heap.size, 1, none⟩) _)) ?_
          clear hKz Kz
          refine AnyJ.one (i := 14) (by kernel_rfl) rfl (fun Kz hKz => ?_)
          go_simp
          refine hKz _ _ (fun h => by cases h) ?_
          clear hKz Kz
          refine AnyJ.done (by kernel_rfl) ?_ _
          try simp only [Act.put, List.setIfInBounds_toArray, List.set_cons_zero, List.set_cons_succ]
          clear a0 a1 f0 f1 fl
          go_wp2_with fail
          go_meet
          exact ⟨_, rfl, rfl, RA.set2 _ _, (hbu7.setCell (hp := hA) (p := ⟨u5.heap.size, 0, none⟩) _).setCell (hp := hA) (p := ⟨u5.heap.size, 1, none⟩) _⟩
        ·
         go_simp
         obtain ⟨u5, hwu5⟩ : ∃ X, World.alloc u4 (.cells #[.int .i64 0, .int .i64 0] 33) = X := ⟨_, rfl⟩
         rw [hwu5]
         have hsu5 : Below u4.heap.size u4 u5 := by rw [← hwu5]; exact (Below.refl _ _).alloc (Nat.le_refl _) _
         have hbu5 : Below wr.heap.size wr u5 := hbu4.trans (hsu5.mono hbu4.size)
         have hA : wr.heap.size ≤ u4.heap.size := hbu4.size
         have RA : Row u5 u4.heap.size [.int .i64 0, .int .i64 0] := by rw [← hwu5]; exact Row.new' _ _ _ rfl
         clear hwu5
         refine hKz _ _ (fun _ => HSY.out _ hbu5) ?_
         clear hKz Kz
         refine AnyJ.one (i := 7) (by kernel_rfl) rfl (fun Kz hKz => ?_)
         go_simp
         refine (R_vars_any k fr un ps nt u5 HP2.out HNT.out).mono ?_
         rintro e u6 ⟨rfl, hsu6⟩
         have hbu6 : Below wr.heap.size wr u6 := hbu5.trans (hsu6.mono hbu5.size)
         refine hKz _ _ (fun _ => HSY.out _ hbu6) ?_
         clear hKz Kz
         refine AnyJ.one (i := 8) (by kernel_rfl) rfl (fun Kz hKz => ?_)
         go_simp
         refine (R_eval_p y'.pr (un - fr) ps (nt - fr) (dayI nt) u6 (HYI.out.step hbu6) HYO.out N1 D1 E1 HEV.out).mono ?_
         rintro e u7 ⟨rfl, hsu7⟩
         have hbu7 : Below wr.heap.size wr u7 := hbu6.trans (hsu7.mono hbu6.size)
         have hS := HSY.out _ hbu7
         refine hKz _ _ (fun _ => hS) ?_
         clear hKz Kz
         refine AnyJ.takeD (i := 9) (d := some 105) (v := ?_) rfl (by kernel_rfl) (by kernel_rfl) (by kernel_rfl) (by kernel_rfl) (by kernel_rfl) (fun _ _ _ h => h) (Or.inl ⟨by kernel_rfl, ?_⟩) hS ?_
         rotate_left
         ·
          intro w' hS
          obtain ⟨sE0, sE1, sE2, sA0, sA1, sA2, sA3⟩ := hS
          go_simp
          try with_reducible rfl
         refine AnyJ.takeD (i := 10) (d := some 115) (v := ?_) rfl (by kernel_rfl) (by kernel_rfl) (by kernel_rfl) (by kernel_rfl) (by kernel_rfl) (fun _ _ _ h => h) (Or.inl ⟨by kernel_rfl, ?_⟩) hS ?_
         rotate_left
         ·
          intro w' hS
          obtain ⟨sE0, sE1, sE2, sA0, sA1, sA2, sA3⟩ := hS
          go_simp
          try with_reducible rfl
         refine AnyJ.takeD (i := 11) (d := some 116) (v := ?_) rfl (by kernel_rfl) (by kernel_rfl) (by kernel_rfl) (by kernel_rfl) (by kernel_rfl) (fun _ _ _ h => h) (Or.inl ⟨by kernel_rfl, ?_⟩) hS ?_
         rotate_left
         ·
          intro w' hS
          obtain ⟨sE0, sE1, sE2, sA0, sA1, sA2, sA3⟩ := hS
          go_simp
          try with_reducible rfl
         clear hS
         replace RA := (RA.step hsu6).step hsu7
         have a0 := RA.cell 0 rfl
         have a1 := RA.cell 1 rfl
         have f0 := RA.frozen 0
         have f1 := RA.frozen 1
         have fl := RA.lt
         refine AnyJ.one (i := 13) (by kernel_rfl) rfl (fun Kz hKz => ?_)
         go_simp
         refine hKz _ _ (fun _ => HSY.out _ ((hbu7.setCell (hp := hA) (p := ⟨u4.heap.size, 0, none⟩) _).setCell (hp := hA) (p := ⟨u4.heap.size, 1, none⟩) _)) ?_
         clear hKz Kz
         refine AnyJ.one (i := 14) (by kernel_rfl) rfl (fun Kz hKz => ?_)
         go_simp
         refine hKz _ _ (fun h => by cases h) ?_
         clear hKz Kz
         refine AnyJ.done (by kernel_rfl) ?_ _
         try simp only [Act.put, List.setIfInBounds_toArray, List.set_cons_zero, List.set_cons_succ]
         clear a0 a1 f0 f1 fl
         go_wp2_with fail
         go_meet
         exact ⟨_, rfl, rfl, RA.set2 _ _, (hbu7.setCell (hp := hA) (p := ⟨u4.heap.size, 0, none⟩) _).setCell (hp := hA) (p := ⟨u4.heap.size, 1, none⟩) _⟩
       case' rest =>
        obtain ⟨A, rfl, rfl, RA, hb4⟩ := hcut
        obtain ⟨w4, hw4⟩ : ∃ wd, wd = wc := ⟨_, rfl⟩
        subst hw4
        have ca0 := RA.cell 0 rfl
        have ca1 := RA.cell 1 rfl
        have cal := RA.lt
        have HB4 := Lib.hid hb4
        have HBW4 : Hid (Below w.heap.size w w4) := HBw.out.trans (hb4.mono HBw.out.size)
        clear hb4
        by_cases hE1 : E1 = 0
        ·
         have hE1' : (E1 != 0) = false := by simpa using hE1
         obtain ⟨R, hRd⟩ : ∃ R, rdVal N1 D1 3 = R := ⟨_, rfl⟩
         obtain ⟨RE, hRE⟩ : ∃ R, rdErr N1 D1 3 = R := ⟨_, rfl⟩
         have hgood : vldP N1 D1 := by have h := (y'.pr.good (var4 (un - fr) ps (nt - fr) (dayI nt))).1; rw [HEV.out] at h; exact h hE1
         have hrn : rnd 3 N1 D1 = R := by rw [← hRd, (rd_ok ⟨hgood, by omega, by omega⟩).1]
         have HRND : Hid (∀ w : World, Calls Tryz.prog 40 #[.agg #[.int .i64 N1, .int .i64 D1], .int .i64 3] w fun e w' => e = .returned (.tuple #[.int .i64 R, .int .i64 RE]) ∧ Below w.heap.size w w') := fun w => by
          have h := R_round_any N1 D1 3 w
          rw [hRd, hRE] at h
          exact h
         have HRN := Lib.hid hrn
         have HE1 := Lib.hid hE1
         clear hRd hRE hgood hrn hE1
         by_cases hneg : R < 0
         ·
          obtain ⟨rfl, rfl, rfl⟩ := HN2.out HE1.out (by rw [HRN.out]; exact hneg)
          go_wp2_with fail
          refine (HRND.out w4).mono ?_
          rintro e w5 ⟨rfl, hb5⟩
          have HB5 : Hid (Below w.heap.size w w5) := HBW4.out.trans (hb5.mono HBW4.out.size)
          clear hb5
          go_wp2_with fail
          go_returns
          refine ⟨rfl, ?_⟩
          exact HB5.out
         ·
          obtain ⟨hN, hI, hE0⟩ := HN3.out HE1.out (by rw [HRN.out]; exact hneg)
          rw [HRN.out] at hN
          subst N I E
          go_wp2_with fail
          refine (HRND.out w4).mono ?_
          rintro e w5 ⟨rfl, hb5⟩
          have HB5 : Hid (Below w.heap.size w w5) := HBW4.out.trans (hb5.mono HBW4.out.size)
          have cy5 := HCY.out _ (HB4.out.trans (hb5.mono HB4.out.size))
          clear hb5
          go_upto_region 22 with fail
          go_quiet (fail)
          go_wp2_with fail
          go_returns
          refine ⟨rfl, ?_⟩
          exact (below_drewN HB5.out _ : Below _ _ _)
        ·
         have hE1' : (E1 != 0) = true := by simpa using hE1
         obtain ⟨rfl, rfl, rfl⟩ := HN1.out hE1
         clear hE1
         go_wp2_with fail
         go_returns
         refine ⟨rfl, ?_⟩
         exact HBW4.out
end
section
set_option linter.unusedSimpArgs false
set_option linter.unusedVariables false
open Go.RowKit
attribute [local go_sem ↓] ld_eq st_eq
attribute [local go_sem] ldR_run ldV_drew ldV_alloc ldV_at16 stR_run sz16_rate stB_drew stB_at16 stW_at16 stB_set ldV_set stW_cell stW_frozen ldV_stW stB_stW
set_option maxRecDepth 100000 in
set_option maxHeartbeats 1600000 in
theorem R_keep_p (ad : Option Addr) (n cap : Nat) (l : List RateV) (id : Int) (w : World) (hs : SlR w ad n l) (hm : n ≤ 9223372036854775807) (A B : Int) (hR : keepL l id = (A, B)) :
  Calls Tryz.prog 44 #[.slice ad n cap, .int .i64 id] w fun e w' => e = .returned (.agg #[.int .i64 A, .int .i64 B]) ∧ Below w.heap.size w w' := by
 have HS := Lib.hid hs
 have HLN := Lib.hid hs.1
 have HR := Lib.hid hR
 clear hs hR
 go_enter Tryz.func44, Tryz.ntmps44
 have HB0 := Below.refl w.heap.size w
 go_wp2_with fail
 obtain ⟨w1, hw1⟩ : ∃ x, World.alloc w (.cells #[.int .i64 0, .int .i64 0] 33) = x := ⟨_, rfl⟩
 rw [hw1]
 have hb1 : Below w.heap.size w w1 := by rw [← hw1]; (repeat' (first | (with_reducible first | exact Below.refl _ _ | assumption | exact Bw.out (by assumption) | refine bw_alloc ?_ _ | refine bw_step ?_ (by assumption) | refine Below.alloc ?_ ?_ _ | refine Below.drew ?_ | refine below_drewN ?_ _ | refine Below.setCell ?_ ?_ _ | refine below_step ?_ (by assumption) ?_ | exact Nat.le_refl _) | omega | (simp; omega) | (simp; done)))
 have R_o_1 : Row w1 (w.heap.size) [.int .i64 (0), .int .i64 (0)] := by rw [← hw1]; (repeat' (first | (with_reducible assumption) | (with_reducible refine Row.new' _ _ _ (by first | rfl | (simp; done) | omega)) | (with_reducible first | refine Row.alloc ?_ _ | refine Row.drew ?_ | refine Row.step ?_ (by assumption) | refine Row.drewN ?_ _) | (with_reducible refine Row.set2' ?_ _ _; first | exact ⟨_, _, by assumption⟩ | exact ⟨_, _, Row.alloc (by assumption) _⟩) | (with_reducible refine Row.other ?_ (by first | omega | (simp; omega)) _)))
 have c_o_0_1 := R_o_1.cell 0 rfl
 have c_o_1_1 := R_o_1.cell 1 rfl
 have z_o_0_1 := R_o_1.frozen 0
 have z_o_1_1 := R_o_1.frozen 1
 have l_o_1 := R_o_1.lt
 have HB1 := HB0.trans (hb1.mono HB0.size)
 have hs1 := hb1.size
 have hz1 := HB1.size
 go_loopw [5] (fun v5 wr => ∃ q : Nat, q ≤ n ∧ v5 = .int .i64 q ∧ Hid (∀ y ∈ l.take q, y.id ≠ id) ∧ wr = w1) (fun v5 _ => n - (intOf v5).toNat)
 case atStart => exact ⟨0, Nat.zero_le _, rfl, by show ∀ y ∈ l.take 0, _; simp, rfl⟩
 case round =>
  obtain ⟨q, hq, rfl, hno, rfl⟩ := hrel
  by_cases hlt : q < n
  ·
   obtain ⟨x, b, off, hx, rfl, hlb, hxin, hcl⟩ := (HS.out.step HB1).get hlt
   have c0 : wr.cell? ⟨b, off + q * 16, none⟩ = some (.int .i64 x.id) := hcl.out 0 _ rfl
   have c8 : wr.cell? ⟨b, off + q * 16 + 8, none⟩ = some (.int .i64 x.kn) := hcl.out 8 _ rfl
   have c9 : wr.cell? ⟨b, off + q * 16 + 9, none⟩ = some (.int .i64 x.kk) := hcl.out 9 _ rfl
   have i0 : (0 : Int) ≤ (q : Int) := by omega
   have i1 : (q : Int) < (n : Int) := by omega
   by_cases hid : x.id = id
   ·
    have hid' : (x.id == id) = true := by simpa using hid
    have hk := keepL_first hx.out hid hno.out
    rw [HR.out] at hk
    simp only [Prod.mk.injEq] at hk
    obtain ⟨rfl, rfl⟩ := hk
    clear hid hcl
    go_wp2_with fail
    have RP := R_o_1.set2 (.int .i64 x.kn) (.int .i64 x.kk)
    have q0 := RP.cell 0 rfl
    have q1 := RP.cell 1 rfl
    refine bodyPost_ret (v := .agg #[.int .i64 x.kn, .int .i64 x.kk]) (by simp [results, Tryz.results44, go_sem, q0, q1]) rfl ⟨rfl, by (repeat' (first | (with_reducible first | exact Below.refl _ _ | assumption | exact Bw.out (by assumption) | refine bw_alloc ?_ _ | refine bw_step ?_ (by assumption) | refine Below.alloc ?_ ?_ _ | refine Below.drew ?_ | refine below_drewN ?_ _ | refine Below.setCell ?_ ?_ _ | refine below_step ?_ (by assumption) ?_ | exact Nat.le_refl _) | omega | (simp; omega) | (simp; done)))⟩
   ·
    have hid' : (x.id == id) = false := by simpa using hid
    have hno' : Hid (∀ y ∈ l.take (q + 1), y.id ≠ id) := by
     show ∀ y ∈ l.take (q + 1), _
     rw [take_snoc hx.out]
     intro y hy
     rcases List.mem_append.1 hy with h | h
     ·
      exact hno.out y h
     ·
      simp at h; subst h; exact hid
    clear hid hcl hno
    go_wp2_with fail
    go_roundw
    case rel => exact ⟨q + 1, by omega, by go_num, hno', trivial⟩
    case measure => simp [intOf]; omega
  ·
   obtain rfl : n = q := by omega
   have hk : keepL l id = (0, 0) := keepL_none (by have h := hno.out; rwa [List.take_of_length_le (by rw [HLN.out]; omega)] at h)
   rw [HR.out] at hk
   simp only [Prod.mk.injEq] at hk
   obtain ⟨rfl, rfl⟩ := hk
   go_wp2_with fail
   have RP := R_o_1.set2 (.int .i64 0) (.int .i64 0)
   have q0 := RP.cell 0 rfl
   have q1 := RP.cell 1 rfl
   refine bodyPost_ret (v := .agg #[.int .i64 0, .int .i64 0]) (by simp [results, Tryz.results44, go_sem, q0, q1]) rfl ⟨rfl, by (repeat' (first | (with_reducible first | exact Below.refl _ _ | assumption | exact Bw.out (by assumption) | refine bw_alloc ?_ _ | refine bw_step ?_ (by assumption) | refine Below.alloc ?_ ?_ _ | refine Below.drew ?_ | refine below_drewN ?_ _ | refine Below.setCell ?_ ?_ _ | refine below_step ?_ (by assumption) ?_ | exact Nat.le_refl _) | omega | (simp; omega) | (simp; done)))⟩
set_option maxRecDepth 100000 in
set_option maxHeartbeats 6400000 in
theorem R_Price_p (ad : Option Addr) (n cap : Nat) (l : List RateV) (k fr un ps : Int) (w : World) (hs : SlR w ad n l) (hm : n ≤ 9223372036854775807) (P : List Int) (K E : Int) (hR : priceV l ⟨k, fr, un, ps⟩ = (P, K, E)) :
  Calls Tryz.prog 15 #[.slice ad n cap, .agg #[.int .i64 k, .int .i64 fr, .int .i64 un, .int .i64 ps]] w fun e w' => ∃ v, e = .returned (.tuple #[v, .int .i64 K, .int .i64 E]) ∧ SlV w' v P ∧ Below w.heap.size w w' := by
 have HS := Lib.hid hs
 obtain ⟨p1, hp1⟩ : ∃ p, validR l = p := ⟨_, rfl⟩
 obtain ⟨p2, hp2⟩ : ∃ p, askB ⟨k, fr, un, ps⟩ = p := ⟨_, rfl⟩
 obtain ⟨M, hM⟩ : ∃ M, (⟨k, fr, un, ps⟩ : AskV).len = M := ⟨_, rfl⟩
 have hMu : M = (un - fr).toNat := by rw [← hM]; rfl
 have hno : (p1 && p2) = false → P = [] ∧ K = 0 ∧ E = 1 := fun hf => by
  have h1 := hR
  unfold priceV at h1
  rw [hp1, hp2, hf] at h1
  simp only [Bool.false_eq_true, if_false, Prod.mk.injEq] at h1
  exact ⟨h1.1.symm, h1.2.1.symm, h1.2.2.symm⟩
 have hyes : p1 = true → p2 = true → (P, K, E) = if errT l ⟨k, fr, un, ps⟩ M ≠ 0 then ([], 0, errT l ⟨k, fr, un, ps⟩ M) else if 1000000000 < sumT (fun j => (cstJ l ⟨k, fr, un, ps⟩ j).1) M then ([], 0, 3) else (cstL l ⟨k, fr, un, ps⟩ M, sumT (keepJ l ⟨k, fr, un, ps⟩) M, 0) := fun q1 q2 => by
  have h1 := hR
  unfold priceV at h1
  rw [hp1, hp2, q1, q2, hM] at h1
  exact h1.symm
 have HP1 := Lib.hid hp1
 have HP2 := Lib.hid hp2
 have HNO := Lib.hid hno
 have HYES := Lib.hid hyes
 have hun : p2 = true → 0 ≤ fr ∧ fr < un ∧ un ≤ 366 ∧ un - fr ≤ 60 := fun h => by
  obtain ⟨⟨b1, b2, b3, b4⟩, _, _⟩ := askB_in (hp2.trans h)
  simp only at b1 b2 b3 b4
  omega
 clear hR hp1 hp2 hno hyes hs hM
 go_enter Tryz.func15, Tryz.ntmps15
 go_wp2_with fail
 refine (R_valid10_p ad n cap l _ hm (HS.out.step ((Below.refl w.heap.size w).alloc (Nat.le_refl _) _)) p1 HP1.out).mono ?_
 rintro e w1 ⟨rfl, hb1⟩
 have R_a_1 : Row w1 (w.heap.size) [.int .i64 (k), .int .i64 (fr), .int .i64 (un), .int .i64 (ps)] := by (repeat' (first | (with_reducible assumption) | (with_reducible refine Row.new' _ _ _ (by first | rfl | (simp; done) | omega)) | (with_reducible first | refine Row.alloc ?_ _ | refine Row.drew ?_ | refine Row.step ?_ (by assumption) | refine Row.drewN ?_ _) | (with_reducible refine Row.set2' ?_ _ _; first | exact ⟨_, _, by assumption⟩ | exact ⟨_, _, Row.alloc (by assumption) _⟩) | (with_reducible refine Row.other ?_ (by first | omega | (simp; omega)) _)))
 have c_a_0_1 := R_a_1.cell 0 rfl
 have c_a_1_1 := R_a_1.cell 1 rfl
 have c_a_2_1 := R_a_1.cell 2 rfl
 have c_a_3_1 := R_a_1.cell 3 rfl
 have l_a_1 := R_a_1.lt
 have HB1 : Below w.heap.size w w1 := by (repeat' (first | (with_reducible first | exact Below.refl _ _ | assumption | exact Bw.out (by assumption) | refine bw_alloc ?_ _ | refine bw_step ?_ (by assumption) | refine Below.alloc ?_ ?_ _ | refine Below.drew ?_ | refine below_drewN ?_ _ | refine Below.setCell ?_ ?_ _ | refine below_step ?_ (by assumption) ?_ | exact Nat.le_refl _) | omega | (simp; omega) | (simp; done)))
 go_wp2_with fail
 refine (R_ask_p k fr un ps p2 HP2.out _).mono ?_
 rintro e w2 ⟨rfl, hb2⟩
 have R_a_2 : Row w2 (w.heap.size) [.int .i64 (k), .int .i64 (fr), .int .i64 (un), .int .i64 (ps)] := by (repeat' (first | (with_reducible assumption) | (with_reducible refine Row.new' _ _ _ (by first | rfl | (simp; done) | omega)) | (with_reducible first | refine Row.alloc ?_ _ | refine Row.drew ?_ | refine Row.step ?_ (by assumption) | refine Row.drewN ?_ _) | (with_reducible refine Row.set2' ?_ _ _; first | exact ⟨_, _, by assumption⟩ | exact ⟨_, _, Row.alloc (by assumption) _⟩) | (with_reducible refine Row.other ?_ (by first | omega | (simp; omega)) _)))
 have c_a_0_2 := R_a_2.cell 0 rfl
 have c_a_1_2 := R_a_2.cell 1 rfl
 have c_a_2_2 := R_a_2.cell 2 rfl
 have c_a_3_2 := R_a_2.cell 3 rfl
 have l_a_2 := R_a_2.lt
 have HB2 : Below w.heap.size w w2 := by (repeat' (first | (with_reducible first | exact Below.refl _ _ | assumption | exact Bw.out (by assumption) | refine bw_alloc ?_ _ | refine bw_step ?_ (by assumption) | refine Below.alloc ?_ ?_ _ | refine Below.drew ?_ | refine below_drewN ?_ _ | refine Below.setCell ?_ ?_ _ | refine below_step ?_ (by assumption) ?_ | exact Nat.le_refl _) | omega | (simp; omega) | (simp; done)))
 clear R_a_1 c_a_0_1 c_a_1_1 c_a_2_1 c_a_3_1 hb1 HB1
 cases p1 with
 | false =>
  obtain ⟨rfl, rfl, rfl⟩ := HNO.out rfl
  go_wp2_with fail
  go_returns
  refine ⟨_, rfl, SlV.nil _, ?_⟩
  (repeat' (first | (with_reducible first | exact Below.refl _ _ | assumption | exact Bw.out (by assumption) | refine bw_alloc ?_ _ | refine bw_step ?_ (by assumption) | refine Below.alloc ?_ ?_ _ | refine Below.drew ?_ | refine below_drewN ?_ _ | refine Below.setCell ?_ ?_ _ | refine below_step ?_ (by assumption) ?_ | exact Nat.le_refl _) | omega | (simp; omega) | (simp; done)))
 | true =>
  cases p2 with
  | false =>
   obtain ⟨rfl, rfl, rfl⟩ := HNO.out rfl
   go_wp2_with fail
   go_returns
   refine ⟨_, rfl, SlV.nil _, ?_⟩
   (repeat' (first | (with_reducible first | exact Below.refl _ _ | assumption | exact Bw.out (by assumption) | refine bw_alloc ?_ _ | refine bw_step ?_ (by assumption) | refine Below.alloc ?_ ?_ _ | refine Below.drew ?_ | refine below_drewN ?_ _ | refine Below.setCell ?_ ?_ _ | refine below_step ?_ (by assumption) ?_ | exact Nat.le_refl _) | omega | (simp; omega) | (simp; done)))
  | true =>
   obtain ⟨un1, un2, un3, un4⟩ := hun (by simp)
   have HY := Lib.hid (HYES.out (by simp) (by simp))
   have HSB := Lib.hid HB2
   have HRA := Lib.hid R_a_2
   clear hun HYES HNO
   go_wp2_with fail
   clear c_a_0_2 c_a_1_2 c_a_2_2 c_a_3_2 hb2 HB2 R_a_2
   go_loopw [9, 10, 11, 12] (fun v9 v10 v11 v12 wr => ∃ q : Nat, q ≤ M ∧ v11 = .int .i64 (sumT (keepJ l ⟨k, fr, un, ps⟩) q) ∧ v10 = .int .i64 (sumT (fun j => (cstJ l ⟨k, fr, un, ps⟩ j).1) q) ∧ v12 = .int .i64 (fr + q) ∧ Hid (OwnV wr w2.heap.size v9 (cstL l ⟨k, fr, un, ps⟩ q)) ∧ Hid (errT l ⟨k, fr, un, ps⟩ q = 0) ∧ Hid (Below w2.heap.size w2 wr)) (fun _ _ _ v12 _ => M - ((intOf v12) - fr).toNat)
   case atStart =>
    exact ⟨0, by omega, rfl, rfl, by simp, OwnV.nil _ _, rfl, Below.refl _ _⟩
   case round =>
    obtain ⟨q, hq, rfl, rfl, rfl, hO, hE, hB⟩ := hrel
    have hsB := hB.out.size
    have hsW := HSB.out.size
    have RA := HRA.out.step hB.out
    have a0 := RA.cell 0 rfl
    have a1 := RA.cell 1 rfl
    have a2 := RA.cell 2 rfl
    have a3 := RA.cell 3 rfl
    have al := RA.lt
    have hk0 := sumT_bound (f := keepJ l ⟨k, fr, un, ps⟩) (m := -1000000000) (M := 1000000000) (fun j => keepJ_bound _ _ j) q
    have hk1 := sumT_bound (f := fun j => (cstJ l ⟨k, fr, un, ps⟩ j).1) (m := 0) (M := 1000000000) (fun j => priceN_bound _ _ _) q
    have hk2 := keepJ_bound l ⟨k, fr, un, ps⟩ q
    have hk3 : 0 ≤ (cstJ l ⟨k, fr, un, ps⟩ q).1 ∧ (cstJ l ⟨k, fr, un, ps⟩ q).1 ≤ 1000000000 := priceN_bound _ _ _
    obtain ⟨S0, hS0⟩ : ∃ S, sumT (keepJ l ⟨k, fr, un, ps⟩) q = S := ⟨_, rfl⟩
    obtain ⟨S1, hS1⟩ : ∃ S, sumT (fun j => (cstJ l ⟨k, fr, un, ps⟩ j).1) q = S := ⟨_, rfl⟩
    have HS0 := Lib.hid hS0
    have HS1 := Lib.hid hS1
    rw [hS0] at hk0
    rw [hS1] at hk1
    rw [hS0, hS1]
    clear hS0 hS1
    have hqM : (q : Int) ≤ 60 := by omega
    obtain ⟨hk00, hk01⟩ : -60000000000 ≤ S0 ∧ S0 ≤ 60000000000 := by omega
    obtain ⟨hk10, hk11⟩ : 0 ≤ S1 ∧ S1 ≤ 60000000000 := by omega
    clear hk0 hk1
    by_cases hlt : q < M
    ·
     have hun5 : fr + q < un := by omega
     obtain ⟨N, b, F, hcst⟩ : ∃ N b F, cstJ l ⟨k, fr, un, ps⟩ q = (N, b, F) := ⟨_, _, _, rfl⟩
     obtain ⟨r, hr⟩ : ∃ r, b.getD zR = r := ⟨_, rfl⟩
     have hkj : keepJ l ⟨k, fr, un, ps⟩ q = ptVal N r.kn r.kk 3 := by unfold keepJ; rw [hcst, hr]
     rw [hcst] at hk3
     rw [hkj] at hk2
     simp only at hk3
     have HCS := Lib.hid hcst
     have hpn : priceN l ⟨k, fr, un, ps⟩ (fr + q) = (N, b, F) := hcst
     have HNV : Hid (nightV l ⟨k, fr, un, ps⟩ (fr + q) = (N, r.id, F)) := by
      show _ = _
      unfold nightV inN
      rw [HP1.out, HP2.out, hpn, hr, if_pos (by simp only [Bool.true_and, Bool.and_eq_true, decide_eq_true_eq]; omega)]
     have HKP : Hid (F = 0 → keepL l r.id = (r.kn, r.kk)) := fun h => by
      have h1 := keep_night HP1.out hpn h
      rw [hr] at h1
      exact h1
     obtain ⟨T, hT⟩ : ∃ T, ptVal N r.kn r.kk 3 = T := ⟨_, rfl⟩
     obtain ⟨TE, hTE⟩ : ∃ T, ptErr N r.kn r.kk 3 = T := ⟨_, rfl⟩
     have HKJ : Hid (keepJ l ⟨k, fr, un, ps⟩ q = T) := hkj.trans hT
     rw [hT] at hk2
     have HPT : Hid (∀ w : World, Calls Tryz.prog 43 #[.int .i64 N, .agg #[.int .i64 r.kn, .int .i64 r.kk], .int .i64 3] w fun e w' => e = .returned (.tuple #[.int .i64 T, .int .i64 TE]) ∧ Below w.heap.size w w') := fun w => by
      have h := R_part_any N r.kn r.kk 3 w
      rw [hT, hTE] at h
      exact h
     obtain ⟨hk20, hk21⟩ := hk2
     obtain ⟨hk30, hk31⟩ := hk3
     have hF1 : errT l ⟨k, fr, un, ps⟩ (q + 1) = F := by unfold errT; rw [if_neg (by rw [hE.out]; simp), hcst]
     have HF1 := Lib.hid hF1
     clear hcst hr hkj hT hTE hF1 RA hpn
     go_wp2_with fail
     refine (R_Night_p ad n cap l k fr un ps (fr + q) wr (HS.out.step (HSB.out.trans (hB.out.mono hsW))) hm N r.id F HNV.out).mono ?_
     rintro e w3 ⟨rfl, hb3⟩
     have hB3 : Hid (Below w2.heap.size w2 w3) := hB.out.trans (hb3.mono hsB)
     have hO3 : Hid (OwnV w3 w2.heap.size u9 (cstL l ⟨k, fr, un, ps⟩ q)) := hO.out.step hb3
     have hs3 := hb3.size
     clear a0 a1 a2 a3 al hb3
     by_cases hF : F = 0
     ·
      have hF' : (F != 0) = false := by simpa using hF
      have HF := Lib.hid hF
      have HK2 := Lib.hid (HKP.out hF)
      clear hF
      go_wp2_with fail
      refine (R_keep_p ad n cap l r.id w3 (HS.out.step (HSB.out.trans (hB3.out.mono hsW))) hm r.kn r.kk HK2.out).mono ?_
      rintro e w4 ⟨rfl, hb4⟩
      have hB4 : Hid (Below w2.heap.size w2 w4) := hB3.out.trans (hb4.mono hB3.out.size)
      have hO4 : Hid (OwnV w4 w2.heap.size u9 (cstL l ⟨k, fr, un, ps⟩ q)) := hO3.out.step hb4
      clear hb4 hB hO hB3 hO3
      go_wp2_with fail
      refine (HPT.out w4).mono ?_
      rintro e w5 ⟨rfl, hb5⟩
      have hB5 : Hid (Below w2.heap.size w2 w5) := hB4.out.trans (hb5.mono hB4.out.size)
      have hO5 : Hid (OwnV w5 w2.heap.size u9 (cstL l ⟨k, fr, un, ps⟩ q)) := hO4.out.step hb5
      have hs5 := hB5.out.size
      clear hb5 hB4 hO4
      go_upto_region 16 with (at_builtin; refine wpList_append_int rfl _ _ _ rfl Tryz.underlying45 w2.heap.size _ (cstL l ⟨k, fr, un, ps⟩ q) rfl (hO5.out.alloc _) w5.heap.size 1 N rfl ((Row.new' w5 [_] _ rfl).cell 0 rfl) (by rw [cstL_length]; omega) (by simp; omega) ?_; intro v' w6 hown1 hbl1 hsz1)
      have H7 : Hid (Below w2.heap.size w2 w6) := hbl1 w2 (hB5.out.alloc hB5.out.size _)
      have H1 : Hid (OwnV w6 w2.heap.size v' (cstL l ⟨k, fr, un, ps⟩ (q + 1))) := by
       show OwnV _ _ _ _
       rw [cstL_succ, HCS.out]; exact hown1
      have H2 : Hid (S0 + T = sumT (keepJ l ⟨k, fr, un, ps⟩) (q + 1)) := by
       show _ = _
       unfold sumT; rw [HS0.out, HKJ.out]
      have H3 : Hid (S1 + N = sumT (fun j => (cstJ l ⟨k, fr, un, ps⟩ j).1) (q + 1)) := by
       show _ = _
       unfold sumT; rw [HS1.out, HCS.out]
      have H4 : Hid (errT l ⟨k, fr, un, ps⟩ (q + 1) = 0) := HF1.out.trans HF.out
      clear hown1 hbl1 hsz1 hB5 hO5 HF1 HF HKJ HCS HS0 HS1
      go_wp2_with fail
      go_roundw
      case rel => exact ⟨q + 1, by omega, by rw [H2.out], by rw [H3.out], by go_num, H1.out, H4.out, H7.out⟩
      case measure => simp [intOf]; omega
     ·
      have hF' : (F != 0) = true := by simpa using hF
      obtain ⟨rfl, rfl, rfl⟩ : P = [] ∧ K = 0 ∧ E = F := by
       have h := HY.out
       have h2 : errT l ⟨k, fr, un, ps⟩ M = F := by rw [← HF1.out]; exact errT_stay (by omega) (by rw [HF1.out]; exact hF)
       rw [h2, if_pos hF] at h
       simp only [Prod.mk.injEq] at h
       exact h
      clear hF
      go_wp2_with fail
      go_returns
      refine ⟨_, rfl, SlV.nil _, ?_⟩
      exact HSB.out.trans (hB3.out.mono hsW)
    ·
     obtain rfl : M = q := by omega
     have h := HY.out
     rw [hE.out, if_neg (by simp), HS0.out, HS1.out] at h
     have hun6 : fr + (M : Int) = un := by omega
     have HSM : Hid (Below w.heap.size w wr) := HSB.out.trans (hB.out.mono hsW)
     by_cases hbig : 1000000000 < S1
     ·
      rw [if_pos hbig] at h
      simp only [Prod.mk.injEq] at h
      obtain ⟨rfl, rfl, rfl⟩ := h
      have hun7 : ¬ (fr + (M : Int) < un) := by omega
      have HUN := Lib.hid hun6
      clear hun6
      go_wp2_with fail
      go_returns
      exact ⟨_, rfl, SlV.nil _, HSM.out⟩
     ·
      rw [if_neg hbig] at h
      simp only [Prod.mk.injEq] at h
      obtain ⟨hP, hK, rfl⟩ := h
      subst hK
      have HPP := Lib.hid hP
      have hun7 : ¬ (fr + (M : Int) < un) := by omega
      have HUN := Lib.hid hun6
      have HSL := Lib.hid hO.out.sl
      clear hun6 hP
      go_wp2_with fail
      go_returns
      exact ⟨_, rfl, by rw [HPP.out]; exact HSL.out, HSM.out⟩
end
end Go.Proofs.YtcmodmchnokmgaaGreat
