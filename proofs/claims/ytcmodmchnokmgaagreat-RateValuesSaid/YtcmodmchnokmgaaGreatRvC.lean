/-
 Plain facts: what is true or false has the value 0 or 1.
-/
import Derived.Test.YtcmodmchnokmgaaGreatRvB
namespace Go.Proofs.YtcmodmchnokmgaaGreat
set_option linter.unusedSimpArgs false
set_option linter.unusedVariables false
open Go.RowKit
theorem ty_kidD {x y : Ex} {k : Nat} (hy : x.ks[k]? = some y) : (x.ks.map Ex.ty).getD k 0 = y.ty := by
 rw [List.getD_eq_getElem?_getD, List.getElem?_map, hy]; rfl
theorem ty_op {x : Ex} (h : x.ty ≠ 0) : x.ty = tyOp x.op ((x.ks.map Ex.ty).getD 0 0) ((x.ks.map Ex.ty).getD 1 0) ((x.ks.map Ex.ty).getD 2 0) := by
 have h1 := x.ty_eq
 by_cases hc : (x.ks.map Ex.ty).any (fun t => decide (t = 0)) = true
 ·
  rw [if_pos hc] at h1; exact (h h1).elim
 ·
  rw [if_neg hc] at h1; exact h1
theorem tyOp_3 {op a b c : Int} (h : tyOp op a b c = 3) : op = 11 ∨ op = 12 ∨ op = 13 ∨ op = 14 ∨ (op = 15 ∧ a = 3) ∨ (op = 10 ∧ a = 3 ∧ b = 3 ∧ c = 3) := by
 unfold tyOp at h
 (repeat' split at h) <;> omega
theorem trI_01 (b : Bool) : (trI b = 0 ∨ trI b = 1) := by cases b <;> simp [trI]
theorem bool_val (v : Int → Int) : ∀ (N : Nat) (x : Ex), x.size ≤ N → x.ok = true → x.ty = 3 → (x.ev v).2.2 = 0 → ((x.ev v).1 = 0 ∨ (x.ev v).1 = 1) ∧ (x.ev v).2.1 = 1 := by
 intro N
 induction N with
 | zero => intro x hx; have := x.size_pos; omega
 | succ N ih =>
  intro x hx hok hty hev
  have hnb := nodeB_op (ok_node hok).1
  have ht := ty_op (x := x) (by omega)
  rw [hty] at ht
  have h3 := tyOp_3 ht.symm
  have hk : ∀ (k : Nat), k < x.ks.length → ∃ y, x.ks[k]? = some y ∧ y.size ≤ N ∧ y.ok = true := fun k hk => by
   refine ⟨_, List.getElem?_eq_getElem hk, ?_, ok_kid hok (List.getElem?_eq_getElem hk)⟩
   have := szL_mem (List.getElem?_eq_getElem hk)
   have h2 := x.size_eq
   omega
  have hlen : x.ks.length = kidN x.op := hnb.2.2
  have ho4 : 4 ≤ x.op := by omega
  obtain ⟨g1, g2, g3⟩ := kidN_ge ho4 hnb.2.1
  obtain ⟨y, hy, hys, hyo⟩ := hk 0 (by omega)
  have hye : (y.ev v).2.2 = 0 := by
   by_cases e : (y.ev v).2.2 = 0
   ·
    exact e
   ·
    rw [ev_bad ho4 hy e] at hev; exact hev
  by_cases h15 : x.op = 15
  ·
   rw [ev_not h15 hy hye]; exact ⟨trI_01 _, rfl⟩
  obtain ⟨z, hz, hzs, hzo⟩ := hk 1 (by have := g2 h15; omega)
  by_cases h10 : x.op = 10
  ·
   have hb : z.ty = 3 := by rw [← ty_kidD hz]; omega
   by_cases h1 : (y.ev v).1 = 1
   ·
    rw [ev_then h10 hy hye h1 hz] at hev ⊢
    exact ih z hzs hzo hb hev
   ·
    obtain ⟨u, hu, hus, huo⟩ := hk 2 (by have := g3 h10; omega)
    have hc : u.ty = 3 := by rw [← ty_kidD hu]; omega
    rw [ev_else h10 hy hye h1 hu] at hev ⊢
    exact ih u hus huo hc hev
  ·
   have hze : (z.ev v).2.2 = 0 := by
    by_cases e : (z.ev v).2.2 = 0
    ·
     exact e
    ·
     rw [ev_bad2 ho4 ⟨h10, h15⟩ hy hye hz e] at hev; exact hev
   rw [ev_two ho4 ⟨h10, h15⟩ hy hye hz hze]
   have hc : x.op = 11 ∨ x.op = 12 ∨ x.op = 13 ∨ x.op = 14 := by omega
   rcases hc with e | e | e | e <;> rw [e] <;> exact ⟨trI_01 _, rfl⟩
end Go.Proofs.YtcmodmchnokmgaaGreat
