/-
  Plain facts: expressions that are alike but for their numbers; kids replaced; memory that is no part of an expression.
-/
import Derived.Test.YtcmodmchnokmgaaTyP
namespace Go.Proofs.Ytcmodmchnokmgaa
set_option linter.unusedSimpArgs false
set_option linter.unusedVariables false
open Go.RowKit

mutual
/-- The same operators; where the one has a fitting number, the other has. -/
def AlikeE : Ex → Ex → Prop
  | .node op n _ _ ks, .node op' n' _ _ ks' => (op' = op ∧ (nodeB op n ks.length = true → nodeB op n' ks.length = true)) ∧ AlikeL ks ks'
def AlikeL : List Ex → List Ex → Prop
  | [], [] => True
  | x :: r, y :: s => AlikeE x y ∧ AlikeL r s
  | [], _ :: _ => False
  | _ :: _, [] => False
end
theorem AlikeL.length : ∀ {l m : List Ex}, AlikeL l m → m.length = l.length
  | [], [], _ => rfl
  | x :: r, y :: s, h => by unfold AlikeL at h; simp [AlikeL.length h.2]
  | [], _ :: _, h => by unfold AlikeL at h; exact h.elim
  | _ :: _, [], h => by unfold AlikeL at h; exact h.elim
theorem AlikeL.snoc : ∀ {l m : List Ex} {x y : Ex}, AlikeL l m → AlikeE x y → AlikeL (l ++ [x]) (m ++ [y])
  | [], [], x, y, _, hx => by
    simp only [List.nil_append]; unfold AlikeL; exact ⟨hx, by unfold AlikeL; trivial⟩
  | a :: r, b :: s, x, y, h, hx => by
    unfold AlikeL at h
    simp only [List.cons_append]
    unfold AlikeL
    exact ⟨h.1, h.2.snoc hx⟩
  | [], _ :: _, _, _, h, _ => by unfold AlikeL at h; exact h.elim
  | _ :: _, [], _, _, h, _ => by unfold AlikeL at h; exact h.elim
mutual
theorem AlikeE.all : ∀ {x y : Ex}, AlikeE x y → y.size = x.size ∧ y.depth = x.depth ∧ (x.ok = true → y.ok = true) ∧ y.ty = x.ty
  | .node op n a c ks, .node op' n' a' c' ks', h => by
    unfold AlikeE at h
    obtain ⟨⟨rfl, h1⟩, h2⟩ := h
    have hl := h2.length
    obtain ⟨g1, g2, g3, g4⟩ := AlikeL.all h2
    refine ⟨by simp only [Ex.size, g1], by simp only [Ex.depth, g2], fun hok => ?_, by simp only [Ex.ty, g4]⟩
    simp only [Ex.ok, Bool.and_eq_true] at hok ⊢
    exact ⟨by rw [hl]; exact h1 hok.1, g3 hok.2⟩
theorem AlikeL.all : ∀ {l m : List Ex}, AlikeL l m → szL m = szL l ∧ dpL m = dpL l ∧ (okL l = true → okL m = true) ∧ tyL m = tyL l
  | [], [], _ => ⟨rfl, rfl, fun h => h, rfl⟩
  | x :: r, y :: s, h => by
    unfold AlikeL at h
    obtain ⟨a1, a2, a3, a4⟩ := AlikeE.all h.1
    obtain ⟨b1, b2, b3, b4⟩ := AlikeL.all h.2
    refine ⟨by simp only [szL, a1, b1], by simp only [dpL, a2, b2], fun hok => ?_, by simp only [tyL, a4, b4]⟩
    simp only [okL, Bool.and_eq_true] at hok ⊢
    exact ⟨a3 hok.1, b3 hok.2⟩
  | [], _ :: _, h => by unfold AlikeL at h; exact h.elim
  | _ :: _, [], h => by unfold AlikeL at h; exact h.elim
end
theorem AlikeE.valid {x y : Ex} (h : AlikeE x y) (hv : validE x = true) : validE y = true := by
  obtain ⟨h1, h2, h3, _⟩ := h.all
  unfold validE at hv ⊢
  simp only [Bool.and_eq_true] at hv ⊢
  exact ⟨h3 hv.1, by rw [h2, h1]; exact hv.2⟩
theorem AlikeE.infer {x y : Ex} (h : AlikeE x y) (hv : validE x = true) : inferV y = inferV x ∧ inferE y = inferE x := by
  have h4 := h.all.2.2.2
  unfold inferV inferE
  rw [h.valid hv, hv, h4]
  exact ⟨rfl, rfl⟩
/-- One of the kids replaced by another one of the same type. -/
theorem ty_set {x z y k : Ex} {i : Nat} (hk : x.ks[i]? = some k) (hz : z.ks = x.ks.set i y) (ho : z.op = x.op) (ht : y.ty = k.ty) : z.ty = x.ty := by
  have e : z.ks.map Ex.ty = x.ks.map Ex.ty := by
    rw [hz, List.map_set, ht]
    refine List.ext_getElem? fun j => ?_
    rw [List.getElem?_set]
    split
    · rename_i hij
      subst hij
      obtain ⟨hlt, hke⟩ := List.getElem?_eq_some_iff.1 hk
      simp [hlt, hke]
    · rfl
  rw [z.ty_eq, x.ty_eq, e, ho]
mutual
/-- Nothing of an expression's memory lies in block g. -/
def Ex.Off (g : Nat) : Ex → Prop | .node _ _ ad _ ks => (ks ≠ [] → ∀ b o s, ad = some ⟨b, o, s⟩ → b ≠ g) ∧ OffL g ks
def OffL (g : Nat) : List Ex → Prop
  | [] => True
  | x :: r => x.Off g ∧ OffL g r
end
mutual
theorem Ex.Off.step {g : Nat} {w w1 : World} (hb : ∀ b, b < w.heap.size → b ≠ g → w1.heap[b]? = w.heap[b]?) : ∀ {x : Ex}, x.Off g → x.In w → x.In w1
  | .node _ _ ad _ ks, ho, h => by
    unfold Ex.In at h ⊢
    unfold Ex.Off at ho
    exact ⟨h.1, OffL.step hb ho.1 ho.2 h.2⟩
theorem OffL.step {g : Nat} {w w1 : World} (hb : ∀ b, b < w.heap.size → b ≠ g → w1.heap[b]? = w.heap[b]?) {ad : Option Addr} : ∀ {i : Nat} {l : List Ex}, (l ≠ [] → ∀ b o s, ad = some ⟨b, o, s⟩ → b ≠ g) → OffL g l → ExIn w ad i l → ExIn w1 ad i l
  | _, [], _, _, _ => by unfold ExIn; trivial
  | i, x :: r, h0, ho, h => by
    unfold ExIn at h ⊢
    unfold OffL at ho
    refine ⟨⟨?_, Ex.Off.step hb ho.1 h.1.2⟩, OffL.step hb (fun _ => h0 (by simp)) ho.2 h.2⟩
    obtain ⟨b, off, e, c0, c1, c2⟩ := h.1.1
    have hl := World.block_lt_of_cell? w _ c0
    have hne := h0 (by simp) b off none e
    have key : ∀ o, w1.cell? ⟨b, o, none⟩ = w.cell? ⟨b, o, none⟩ := fun o => by simp only [World.cell?, hb b hl hne]
    exact ⟨b, off, e, (key _).trans c0, (key _).trans c1, (key _).trans c2⟩
end
mutual
theorem Ex.Off.far {g : Nat} {w : World} (hg : w.heap.size ≤ g) : ∀ {x : Ex}, x.In w → x.Off g
  | .node _ _ ad _ ks, h => by
    unfold Ex.In at h
    unfold Ex.Off
    exact ⟨OffL.far0 hg h.2, OffL.far hg h.2⟩
theorem OffL.far0 {g : Nat} {w : World} (hg : w.heap.size ≤ g) {ad : Option Addr} : ∀ {i : Nat} {l : List Ex}, ExIn w ad i l → (l ≠ [] → ∀ b o s, ad = some ⟨b, o, s⟩ → b ≠ g)
  | _, [], _ => fun h => (h rfl).elim
  | i, x :: r, h => by
    unfold ExIn at h
    intro _ b o s e
    obtain ⟨b', off, e', c0, _⟩ := h.1.1
    rw [e] at e'
    cases e'
    have hl := World.block_lt_of_cell? w _ c0
    simp at hl
    omega
theorem OffL.far {g : Nat} {w : World} (hg : w.heap.size ≤ g) {ad : Option Addr} : ∀ {i : Nat} {l : List Ex}, ExIn w ad i l → OffL g l
  | _, [], _ => by unfold OffL; trivial
  | i, x :: r, h => by
    unfold ExIn at h
    unfold OffL
    exact ⟨Ex.Off.far hg h.1.2, OffL.far hg h.2⟩
end
theorem OffL.of {g : Nat} : ∀ {l : List Ex}, (∀ x ∈ l, x.Off g) → OffL g l
  | [], _ => by unfold OffL; trivial
  | x :: r, h => by unfold OffL; exact ⟨h x (by simp), OffL.of (fun y hy => h y (by simp [hy]))⟩

end Go.Proofs.Ytcmodmchnokmgaa
