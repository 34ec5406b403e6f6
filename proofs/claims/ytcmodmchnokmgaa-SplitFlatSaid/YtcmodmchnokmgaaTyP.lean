/-
 Plain facts: the walks over the kids (well-formed, size, types); which rates are well-formed, can be used, together.
-/
import Derived.Test.YtcmodmchnokmgaaMA
import Derived.Test.YtcmodmchnokmgaaRatA
namespace Go.Proofs.Ytcmodmchnokmgaa
set_option linter.unusedSimpArgs false
set_option linter.unusedVariables false
open Go.RowKit
/-! Well-formed, step by step over the kids. -/
/-- The first k kids are well-formed and fit. -/
def fitsL (l : List Ex) (lv : Nat) (left : Int) : Bool := okL l && (decide (dpL l ≤ lv) && decide ((szL l : Int) ≤ left))
theorem fitsE_eq (x : Ex) (lv : Nat) (left : Int) : fitsE x lv left = (nodeB x.op x.n x.ks.length && (decide (1 ≤ lv) && (decide (1 ≤ left) && fitsL x.ks (lv - 1) (left - 1)))) := by
 unfold fitsE fitsL
 rw [x.ok_eq, x.depth_eq, x.size_eq, Bool.eq_iff_iff]
 simp only [Bool.and_eq_true, decide_eq_true_eq]
 constructor
 ·
  rintro ⟨⟨h1, h2⟩, h3, h4⟩; exact ⟨h1, by omega, by omega, h2, by omega, by omega⟩
 ·
  rintro ⟨h1, h3, h4, h2, h5, h6⟩; exact ⟨⟨h1, h2⟩, by omega, by omega⟩
theorem fitsL_nil {lv : Nat} {left : Int} (h : 0 ≤ left) : fitsL [] lv left = true := by
 unfold fitsL; simp [okL, dpL, szL, h]
theorem fitsL_take {l : List Ex} {k : Nat} {y : Ex} {lv : Nat} {left : Int} (h : l[k]? = some y) : fitsL (l.take (k + 1)) lv left = (fitsL (l.take k) lv left && fitsE y lv (left - szL (l.take k))) := by
 unfold fitsL fitsE
 rw [okL_take h, dpL_take h, szL_take h, Bool.eq_iff_iff]
 have := y.size_pos
 simp only [Bool.and_eq_true, decide_eq_true_eq]
 constructor
 ·
  rintro ⟨⟨h1, h2⟩, h3, h4⟩; exact ⟨⟨h1, by omega, by omega⟩, h2, by omega, by omega⟩
 ·
  rintro ⟨⟨h1, h3, h4⟩, h2, h5, h6⟩; exact ⟨⟨h1, h2⟩, by omega, by omega⟩
theorem fitsL_mono {l : List Ex} {k : Nat} {lv : Nat} {left : Int} (h : fitsL l lv left = true) : fitsL (l.take k) lv left = true := by
 unfold fitsL at h ⊢
 rw [← List.take_append_drop k l, okL_append, dpL_append, szL_append] at h
 simp only [Bool.and_eq_true, decide_eq_true_eq] at h ⊢
 exact ⟨h.1.1, by omega, by omega⟩
theorem fitsL_no {l : List Ex} {k : Nat} {y : Ex} {lv : Nat} {left : Int} (h : l[k]? = some y) (hk : fitsE y lv (left - szL (l.take k)) = false) : fitsL l lv left = false := by
 rw [← Bool.not_eq_true]
 intro hf
 have := fitsL_mono (k := k + 1) hf
 rw [fitsL_take h, hk] at this
 simp at this
theorem fitsE_left {x : Ex} {lv : Nat} {left : Int} (h : fitsE x lv left = true) : (x.size : Int) ≤ left := by
 unfold fitsE at h; simp only [Bool.and_eq_true, decide_eq_true_eq] at h; exact h.2.2
theorem fitsL_left {l : List Ex} {lv : Nat} {left : Int} (h : fitsL l lv left = true) : (szL l : Int) ≤ left := by
 unfold fitsL at h; simp only [Bool.and_eq_true, decide_eq_true_eq] at h; exact h.2.2
theorem validE_ok {x : Ex} (h : validE x = true) : x.ok = true := by
 unfold validE at h; simp only [Bool.and_eq_true] at h; exact h.1
theorem nodeB_kids {op n : Int} {k : Nat} (h : nodeB op n k = true) : k ≤ 3 := by
 unfold nodeB at h
 (repeat' split at h) <;> simp at h <;> omega
theorem ok_node {x : Ex} (h : x.ok = true) : nodeB x.op x.n x.ks.length = true ∧ okL x.ks = true := by
 rw [x.ok_eq, Bool.and_eq_true] at h; exact h
theorem ok_kid {x y : Ex} {k : Nat} (h : x.ok = true) (hy : x.ks[k]? = some y) : y.ok = true := okL_mem hy (ok_node h).2
theorem validE_kid {x y : Ex} {k : Nat} (h : validE x = true) (hy : x.ks[k]? = some y) : validE y = true := by
 have h1 := okL_mem hy (ok_node (validE_ok h)).2
 have h2 := szL_mem hy
 have h3 := dpL_mem hy
 unfold validE at h ⊢
 rw [x.size_eq, x.depth_eq] at h
 simp only [Bool.and_eq_true, decide_eq_true_eq] at h ⊢
 exact ⟨h1, by omega, by omega⟩
theorem ty_kid {x y : Ex} {k : Nat} (h : x.ty ≠ 0) (hy : x.ks[k]? = some y) : y.ty ≠ 0 := fun hz => by
 rw [x.ty_eq, if_pos] at h
 ·
  exact h rfl
 ·
  rw [List.any_eq_true]
  exact ⟨y.ty, List.mem_map.2 ⟨y, List.mem_of_getElem? hy, rfl⟩, by simp [hz]⟩
/-! What the functions answer. -/
def inferV (x : Ex) : Int := if validE x = true then x.ty else 0
def inferE (x : Ex) : Int := if validE x = true then (if x.ty = 0 then 20 else 0) else 1
def sizeV (x : Ex) (lv : Nat) (left : Int) : Int := if fitsE x lv left = true then left - x.size else -1
def leftV (x : Ex) (most : Int) : Int := if (x.size : Int) ≤ most then most - x.size else -1
def fewE (x : Ex) : Bool := decide (x.size ≤ 300)
def formB (r : RateV) : Bool :=
 (inE r.id 1 1000000 && (inE r.lv 0 100 && (inE r.kd 1 20 && inE r.ar 1 127))) &&
 ((decide (0 ≤ r.fr) && (decide (r.fr < r.un) && decide (r.un ≤ 366))) &&
 (vld r.kn r.kk && (inE r.kn 0 r.kk &&
 ((decide (1 ≤ r.ls) && (decide (r.ls ≤ r.ms) && decide (r.ms ≤ 60))) && (validE r.wh && validE r.pr)))))
def tyB (r : RateV) : Bool := decide (r.wh.ty = 3) && decide (r.pr.ty = 2)
def rateB (r : RateV) : Bool := formB r && tyB r
def rateE (r : RateV) : Int := if formB r = true then (if tyB r = true then 0 else 20) else 1
def validR (l : List RateV) : Bool := decide (l.length ≤ 100) && (l.all rateB && decide ((l.map RateV.id).Nodup))
def fewR (l : List RateV) : Bool := decide (l.length ≤ 105) && l.all (fun r => fewE r.wh && fewE r.pr)
theorem rateB_form {r : RateV} (h : rateB r = true) : formB r = true ∧ r.wh.ty = 3 ∧ r.pr.ty = 2 := by
 unfold rateB tyB at h
 simp only [Bool.and_eq_true, decide_eq_true_eq] at h
 exact h
theorem formB_valid {r : RateV} (h : formB r = true) : validE r.wh = true ∧ validE r.pr = true := by
 unfold formB at h
 simp only [Bool.and_eq_true] at h
 exact h.2.2.2.2.2
end Go.Proofs.Ytcmodmchnokmgaa
