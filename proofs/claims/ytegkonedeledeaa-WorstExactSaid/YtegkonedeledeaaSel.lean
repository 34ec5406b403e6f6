/-
  Plain facts: some channels, one after the other, that sell no more than their shares.
-/
import Derived.Test.YtegkonedeledeaaTopO
namespace Go.Proofs.Ytegkonedeledeaa
set_option linter.unusedSimpArgs false
set_option linter.unusedVariables false

theorem nodup_snoc' {q : List Int} {x : Int} (h : q.Nodup) (hx : x ∉ q) : (q ++ [x]).Nodup := by
  rw [List.nodup_append]
  exact ⟨h, by simp, fun a ha b hb => by simp at hb; subst hb; exact fun e => hx (e ▸ ha)⟩
/-- Some channels below k, at most c of them, that sell D together at most. -/
def Sel (zs : List Int) (c : Nat) (k : Nat) (o : Nat) (D : Int) : Prop := ∃ q : List Int, q.Nodup ∧ (∀ x ∈ q, 0 ≤ x ∧ x < k) ∧ q.length = o ∧ o ≤ c ∧ 0 ≤ D ∧ D ≤ (atL zs q).sum
theorem Sel.start (zs : List Int) (c : Nat) : Sel zs c 0 0 0 := ⟨[], List.nodup_nil, fun x hx => by simp at hx, rfl, Nat.zero_le _, by omega, by simp [atL]⟩
theorem Sel.skip {zs : List Int} {c k o : Nat} {D : Int} (h : Sel zs c k o D) : Sel zs c (k + 1) o D := by
  obtain ⟨q, h1, h2, h3, h4, h5, h6⟩ := h
  exact ⟨q, h1, fun x hx => by have := h2 x hx; omega, h3, h4, h5, h6⟩
theorem Sel.add {zs : List Int} {c k o : Nat} {D m : Int} (h : Sel zs c k o D) (ho : o < c) (h0 : 0 ≤ m) (hm : m ≤ zs.getD k 0) : Sel zs c (k + 1) (o + 1) (D + m) := by
  obtain ⟨q, h1, h2, h3, h4, h5, h6⟩ := h
  refine ⟨q ++ [(k : Int)], nodup_snoc' h1 (fun hk => by have := h2 _ hk; omega), fun x hx => ?_, by simp [h3], by omega, by omega, ?_⟩
  · rcases List.mem_append.1 hx with e | e
    · have := h2 x e; omega
    · simp at e; omega
  · unfold atL at h6 ⊢
    rw [List.map_append, List.sum_append]
    simp at h6 ⊢
    simp [List.getD_eq_getElem?_getD] at hm
    omega
theorem Sel.le {zs : List Int} {c k o : Nat} {D : Int} (h : Sel zs c k o D) (hz : shIn zs) (hk : k ≤ zs.length) : D ≤ topS zs c ∧ 0 ≤ D := by
  obtain ⟨q, h1, h2, h3, h4, h5, h6⟩ := h
  have := topS_greatest (fun z hz' => (hz z hz').1) c h1 (fun x hx => by have := h2 x hx; omega) (by omega)
  omega

end Go.Proofs.Ytegkonedeledeaa
