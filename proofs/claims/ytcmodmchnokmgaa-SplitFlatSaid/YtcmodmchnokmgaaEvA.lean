/-
 Plain facts: the values of expressions.
-/
import Derived.Test.YtcmodmchnokmgaaTyP
import Derived.Test.YtcmodmchnokmgaaRatV
import Derived.Test.YtcmodmchnokmgaaRatB
namespace Go.Proofs.Ytcmodmchnokmgaa
set_option linter.unusedSimpArgs false
set_option linter.unusedVariables false
open Go.RowKit
/-- A ratio, and an error. -/
abbrev V3 := Int × Int × Int
def mk3 (n d : Int) : V3 := (mkN n d, mkD n d, mkE n d)
def trI (b : Bool) : Int := if b then 1 else 0
/-- What an operator with two kids makes of two ratios. -/
def ap2 (op a b c d : Int) : V3 :=
 if op = 4 then (opN a b c d (a * d + c * b) (b * d), opD a b c d (a * d + c * b) (b * d), opE a b c d (a * d + c * b) (b * d))
 else if op = 5 then (opN a b c d (a * d - c * b) (b * d), opD a b c d (a * d - c * b) (b * d), opE a b c d (a * d - c * b) (b * d))
 else if op = 6 then (opN a b c d (a * c) (b * d), opD a b c d (a * c) (b * d), opE a b c d (a * c) (b * d))
 else if op = 7 then (if c = 0 then (0, 0, 22) else mk3 (a * d) (b * c))
 else if op = 8 then (if cmpV a b c d < 0 then (a, b, 0) else (c, d, 0))
 else if op = 9 then (if 0 < cmpV a b c d then (a, b, 0) else (c, d, 0))
 else if op = 11 then (trI (decide (cmpV a b c d < 0)), 1, 0)
 else if op = 12 then (trI (decide (cmpV a b c d = 0)), 1, 0)
 else if op = 13 then (trI (decide (a = 1) && decide (c = 1)), 1, 0)
 else (trI (decide (a = 1) || decide (c = 1)), 1, 0)
def zz : V3 := (0, 0, 1)
/-- What an operator makes of what its kids are. -/
def evOp (v : Int → Int) (op n : Int) (l : List V3) : V3 :=
 if op = 1 ∨ op = 2 then mk3 n 1
 else if op = 3 then mk3 (v n) 1
 else if (l.getD 0 zz).2.2 ≠ 0 then (0, 0, (l.getD 0 zz).2.2)
 else if op = 15 then (trI (decide ((l.getD 0 zz).1 = 0)), 1, 0)
 else if op = 10 then (if (l.getD 0 zz).1 = 1 then l.getD 1 zz else l.getD 2 zz)
 else if (l.getD 1 zz).2.2 ≠ 0 then (0, 0, (l.getD 1 zz).2.2)
 else ap2 op (l.getD 0 zz).1 (l.getD 0 zz).2.1 (l.getD 1 zz).1 (l.getD 1 zz).2.1
mutual
def Ex.ev (v : Int → Int) : Ex → V3 | .node op n _ _ ks => evOp v op n (evL v ks)
def evL (v : Int → Int) : List Ex → List V3
 | [] => []
 | x :: r => x.ev v :: evL v r
end
theorem evL_map (v : Int → Int) (l : List Ex) : evL v l = l.map (Ex.ev v) := by
 induction l with
 | nil => simp [evL]
 | cons x r ih => simp [evL, ih]
theorem Ex.ev_eq (v : Int → Int) (x : Ex) : x.ev v = evOp v x.op x.n (x.ks.map (Ex.ev v)) := by
 cases x; simp only [Ex.ev, Ex.ks, Ex.op, Ex.n, evL_map]
theorem map_getD {l : List Ex} {k : Nat} {y : Ex} (v : Int → Int) (h : l[k]? = some y) : (l.map (Ex.ev v)).getD k zz = y.ev v := by
 rw [List.getD_eq_getElem?_getD, List.getElem?_map, h]; rfl
/-! The cases, one by one. -/
theorem ev_num {v : Int → Int} {x : Ex} (h : x.op = 1 ∨ x.op = 2) : x.ev v = mk3 x.n 1 := by
 rw [x.ev_eq]; unfold evOp; rw [if_pos h]
theorem ev_var {v : Int → Int} {x : Ex} (h : x.op = 3) : x.ev v = mk3 (v x.n) 1 := by
 rw [x.ev_eq]; unfold evOp; rw [if_neg (by omega), if_pos h]
theorem ev_bad {v : Int → Int} {x y : Ex} (h : 4 ≤ x.op) (hy : x.ks[0]? = some y) (he : (y.ev v).2.2 ≠ 0) : x.ev v = (0, 0, (y.ev v).2.2) := by
 rw [x.ev_eq]; unfold evOp; rw [map_getD v hy, if_neg (by omega), if_neg (by omega), if_pos he]
theorem ev_not {v : Int → Int} {x y : Ex} (h : x.op = 15) (hy : x.ks[0]? = some y) (he : (y.ev v).2.2 = 0) : x.ev v = (trI (decide ((y.ev v).1 = 0)), 1, 0) := by
 rw [x.ev_eq]; unfold evOp; rw [map_getD v hy, if_neg (by omega), if_neg (by omega), if_neg (by omega), if_pos h]
theorem ev_then {v : Int → Int} {x y z : Ex} (h : x.op = 10) (hy : x.ks[0]? = some y) (he : (y.ev v).2.2 = 0) (h1 : (y.ev v).1 = 1) (hz : x.ks[1]? = some z) : x.ev v = z.ev v := by
 rw [x.ev_eq]; unfold evOp; rw [map_getD v hy, map_getD v hz, if_neg (by omega), if_neg (by omega), if_neg (by omega), if_neg (by omega), if_pos h, if_pos h1]
theorem ev_else {v : Int → Int} {x y z : Ex} (h : x.op = 10) (hy : x.ks[0]? = some y) (he : (y.ev v).2.2 = 0) (h1 : (y.ev v).1 ≠ 1) (hz : x.ks[2]? = some z) : x.ev v = z.ev v := by
 rw [x.ev_eq]; unfold evOp; rw [map_getD v hy, map_getD v hz, if_neg (by omega), if_neg (by omega), if_neg (by omega), if_neg (by omega), if_pos h, if_neg h1]
theorem ev_bad2 {v : Int → Int} {x y z : Ex} (h : 4 ≤ x.op) (h2 : x.op ≠ 10 ∧ x.op ≠ 15) (hy : x.ks[0]? = some y) (he : (y.ev v).2.2 = 0) (hz : x.ks[1]? = some z) (he2 : (z.ev v).2.2 ≠ 0) : x.ev v = (0, 0, (z.ev v).2.2) := by
 rw [x.ev_eq]; unfold evOp; rw [map_getD v hy, map_getD v hz, if_neg (by omega), if_neg (by omega), if_neg (by omega), if_neg (by omega), if_neg (by omega), if_pos he2]
theorem ev_two {v : Int → Int} {x y z : Ex} (h : 4 ≤ x.op) (h2 : x.op ≠ 10 ∧ x.op ≠ 15) (hy : x.ks[0]? = some y) (he : (y.ev v).2.2 = 0) (hz : x.ks[1]? = some z) (he2 : (z.ev v).2.2 = 0) : x.ev v = ap2 x.op (y.ev v).1 (y.ev v).2.1 (z.ev v).1 (z.ev v).2.1 := by
 rw [x.ev_eq]; unfold evOp; rw [map_getD v hy, map_getD v hz, if_neg (by omega), if_neg (by omega), if_neg (by omega), if_neg (by omega), if_neg (by omega), if_neg (by omega)]
/-! Where there is no error, the value is a ratio; errors go with 0. -/
def Good (t : V3) : Prop := (t.2.2 = 0 → vldP t.1 t.2.1) ∧ (t.2.2 ≠ 0 → t.1 = 0 ∧ t.2.1 = 0) ∧ (t.2.2 = 0 ∨ t.2.2 = 1 ∨ t.2.2 = 3 ∨ t.2.2 = 22)
theorem fit_bad {n d : Int} (h : fitE n d ≠ 0) : fitN n d = 0 ∧ fitD n d = 0 := by
 unfold fitE at h; unfold fitN fitD
 split at h
 ·
  simp at h
 ·
  rename_i h1; rw [if_neg h1, if_neg h1]; exact ⟨rfl, rfl⟩
theorem good_fit {n d : Int} (hd : 0 < d) : Good (fitN n d, fitD n d, fitE n d) := by
 refine ⟨fun h => (fit_ok hd h).1, fun h => fit_bad h, ?_⟩
 rcases fitE_or n d with h | h <;> simp [h]
theorem good_mk (n d : Int) : Good (mk3 n d) := by
 unfold mk3
 by_cases h : mkP n d
 ·
  by_cases hd : d < 0
  ·
   obtain ⟨e1, e2, e3⟩ := mk_neg h hd
   rw [e1, e2, e3]; exact good_fit (by omega)
  ·
   obtain ⟨e1, e2, e3⟩ := mk_pos h hd
   rw [e1, e2, e3]
   have := h.1
   exact good_fit (by omega)
 ·
  obtain ⟨e1, e2, e3⟩ := mk_not h
  rw [e1, e2, e3]
  exact ⟨fun h => by simp at h, fun _ => ⟨rfl, rfl⟩, by simp⟩
theorem good_op {a b c d n : Int} : Good (opN a b c d n (b * d), opD a b c d n (b * d), opE a b c d n (b * d)) := by
 by_cases h : vldP a b ∧ vldP c d
 ·
  rw [opN_ok h.1 h.2, opD_ok h.1 h.2, opE_ok h.1 h.2]
  have h1 := h.1.1
  have h2 := h.2.1
  exact good_fit (Int.mul_pos (by omega) (by omega))
 ·
  obtain ⟨e1, e2, e3⟩ := op_not (n := n) (m := b * d) h
  rw [e1, e2, e3]
  exact ⟨fun h => by simp at h, fun _ => ⟨rfl, rfl⟩, by simp⟩
theorem vld_01 (b : Bool) : vldP (trI b) 1 := by cases b <;> decide
theorem good_tr (b : Bool) : Good (trI b, 1, 0) := ⟨fun _ => vld_01 b, fun h => by simp at h, by simp⟩
theorem good_id {a b : Int} (h : vldP a b) : Good (a, b, 0) := ⟨fun _ => h, fun h => by simp at h, by simp⟩
theorem good_err {e : Int} (h : e = 1 ∨ e = 3 ∨ e = 22) : Good (0, 0, e) := ⟨fun h0 => by simp only at h0; omega, fun _ => ⟨rfl, rfl⟩, Or.inr h⟩
theorem good_ap2 {op a b c d : Int} (h1 : vldP a b) (h2 : vldP c d) : Good (ap2 op a b c d) := by
 unfold ap2
 repeat' split
 all_goals first | exact good_op | exact good_mk _ _ | exact good_tr _ | exact good_id h1 | exact good_id h2 | exact good_err (by simp)
theorem good_zz : Good zz := good_err (by simp)
mutual
theorem Ex.good (v : Int → Int) : ∀ x : Ex, Good (x.ev v)
 | .node op n _ _ ks => by
  simp only [Ex.ev]
  have hl := good_evL v ks
  have g : ∀ i, Good ((evL v ks).getD i zz) := fun i => by
   rw [List.getD_eq_getElem?_getD]
   cases h : (evL v ks)[i]? with
   | none => exact good_zz
   | some t => exact hl t (List.mem_of_getElem? h)
  unfold evOp
  repeat' split
  all_goals first | exact good_mk _ _ | exact good_tr _ | exact g _ | skip
  ·
   rename_i h; exact good_err (by have := (g 0).2.2; omega)
  ·
   rename_i h; exact good_err (by have := (g 1).2.2; omega)
  ·
   rename_i h0 _ _ h1; exact good_ap2 ((g 0).1 (by omega)) ((g 1).1 (by omega))
theorem good_evL (v : Int → Int) : ∀ (l : List Ex), ∀ t ∈ evL v l, Good t
 | [], t, h => by simp [evL] at h
 | x :: r, t, h => by
  simp only [evL, List.mem_cons] at h
  rcases h with rfl | h
  ·
   exact Ex.good v x
  ·
   exact good_evL v r t h
end
/-! The variables of a night of an ask. -/
structure AskV where
 k : Int
 fr : Int
 un : Int
 ps : Int
/-- Four numbers, as the variables 1 to 4. -/
def var4 (a b c d : Int) (k : Int) : Int := if k = 1 then a else if k = 2 then b else if k = 3 then c else if k = 4 then d else 0
def dayI (n : Int) : Int := if 0 ≤ n ∧ n ≤ 366 then (n + 3) % 7 else 0
def dayE (n : Int) : Int := if 0 ≤ n ∧ n ≤ 366 then 0 else 1
def AskV.vars (a : AskV) (nt : Int) : Int → Int := var4 (a.un - a.fr) a.ps (nt - a.fr) (dayI nt)
def askB (a : AskV) : Bool := (decide (0 ≤ a.fr) && (decide (a.fr < a.un) && (decide (a.un ≤ 366) && decide (a.un - a.fr ≤ 60)))) && (inE a.k 1 20 && inE a.ps 1 8)
def varsB (a b c d : Int) : Bool := inE a 1 60 && (inE b 1 8 && (inE c 0 59 && inE d 0 6))
/-- What Eval answers. -/
def evalV (x : Ex) (a b c d : Int) : V3 := if (validE x && decide (x.ty ≠ 0)) && varsB a b c d then x.ev (var4 a b c d) else (0, 0, 1)
/-- Is the weekday's bit set? -/
def bitB (ar day : Int) : Bool := decide (ar / 2 ^ day.toNat % 2 = 1)
def fitsR (r : RateV) (a : AskV) (nt : Int) : Bool :=
 decide (r.kd = a.k) && ((decide (r.fr ≤ nt) && decide (nt < r.un)) && ((decide (r.ls ≤ a.un - a.fr) && decide (a.un - a.fr ≤ r.ms)) && bitB r.ar (dayI a.fr)))
/-- Whether a rate that can be used applies: whether, and an error. -/
def appl (r : RateV) (a : AskV) (nt : Int) : Bool × Int :=
 if fitsR r a nt then (decide ((r.wh.ev (a.vars nt)).1 = 1), (r.wh.ev (a.vars nt)).2.2) else (false, 0)
def inN (a : AskV) (nt : Int) : Bool := decide (a.fr ≤ nt) && decide (nt < a.un)
def applV (r : RateV) (a : AskV) (nt : Int) : Bool × Int := if rateB r && (askB a && inN a nt) then appl r a nt else (false, 1)
/-- Is a rate better than another one? -/
def btr (r b : RateV) : Bool := decide (b.lv < r.lv) || (decide (r.lv = b.lv) && decide (r.id < b.id))
def upd1 (b : Option RateV) (r : RateV) : Option RateV := match b with | none => some r | some x => if btr r x then some r else some x
/-- The best rate that applies, or the first error. -/
def bestR (a : AskV) (nt : Int) : Option RateV → List RateV → Option RateV × Int
 | b, [] => (b, 0)
 | b, r :: l => if (appl r a nt).2 ≠ 0 then (none, (appl r a nt).2) else bestR a nt (if (appl r a nt).1 then upd1 b r else b) l
/-- The price by the best rate. -/
def costR (a : AskV) (nt : Int) (r : RateV) : Int × Int :=
 if (r.pr.ev (a.vars nt)).2.2 ≠ 0 then (0, (r.pr.ev (a.vars nt)).2.2)
 else if (rnd 3 (r.pr.ev (a.vars nt)).1 (r.pr.ev (a.vars nt)).2.1) < 0 then (0, 22) else (rnd 3 (r.pr.ev (a.vars nt)).1 (r.pr.ev (a.vars nt)).2.1, 0)
end Go.Proofs.Ytcmodmchnokmgaa
