/-
  Plain facts on the reference's way to the greatest shares: again and again the best channel that is not named yet. It names what Top names.
-/
import Derived.Test.YtmjckadaiikapaaTopO
namespace Go.Proofs.Ytmjckadaiikapaa
set_option linter.unusedSimpArgs false
set_option linter.unusedVariables false

/-- The best of the first i channels that are not in out; -1 if there is none. -/
def bst (zs out : List Int) : Nat → Int
  | 0 => -1
  | i + 1 => if (i : Int) ∉ out ∧ (bst zs out i < 0 ∨ shr zs (bst zs out i) < shr zs i) then (i : Int) else bst zs out i

theorem bst_spec (zs out : List Int) : ∀ i : Nat, (bst zs out i = -1 ∧ ∀ j : Nat, j < i → (j : Int) ∈ out) ∨
    (∃ b : Nat, b < i ∧ bst zs out i = (b : Int) ∧ (b : Int) ∉ out ∧ ∀ j : Nat, j < i → (j : Int) ∉ out → j = b ∨ ltK (shKey zs) b j)
  | 0 => Or.inl ⟨rfl, fun j h => by omega⟩
  | i + 1 => by
    unfold bst
    rcases bst_spec zs out i with ⟨h1, h2⟩ | ⟨b, hb, h1, h2, h3⟩
    · rw [h1]
      by_cases hi : (i : Int) ∈ out
      · rw [if_neg (fun h => h.1 hi)]
        refine Or.inl ⟨rfl, fun j hj => ?_⟩
        by_cases e : j = i
        · rw [e]; exact hi
        · exact h2 j (by omega)
      · rw [if_pos ⟨hi, Or.inl (by omega)⟩]
        refine Or.inr ⟨i, by omega, rfl, hi, fun j hj hjo => ?_⟩
        by_cases e : j = i
        · exact Or.inl e
        · exact absurd (h2 j (by omega)) hjo
    · rw [h1]
      by_cases hi : (i : Int) ∈ out
      · rw [if_neg (fun h => h.1 hi)]
        refine Or.inr ⟨b, by omega, rfl, h2, fun j hj hjo => ?_⟩
        by_cases e : j = i
        · rw [e] at hjo; exact absurd hi hjo
        · exact h3 j (by omega) hjo
      · by_cases hlt : shr zs b < shr zs i
        · rw [if_pos ⟨hi, Or.inr hlt⟩]
          have hib : ltK (shKey zs) i b := by unfold ltK shKey; unfold shr at hlt; omega
          refine Or.inr ⟨i, by omega, rfl, hi, fun j hj hjo => ?_⟩
          by_cases e : j = i
          · exact Or.inl e
          · rcases h3 j (by omega) hjo with g | g
            · subst g; exact Or.inr hib
            · exact Or.inr (ltK_trans hib g)
        · rw [if_neg (fun h => h.2.elim (fun h => by omega) hlt)]
          have hbi : ltK (shKey zs) b i := by unfold ltK shKey; unfold shr at hlt; omega
          refine Or.inr ⟨b, by omega, rfl, h2, fun j hj hjo => ?_⟩
          by_cases e : j = i
          · subst e; exact Or.inr hbi
          · exact h3 j (by omega) hjo
theorem bst_lo (zs out : List Int) (i : Nat) : -1 ≤ bst zs out i ∧ bst zs out i < i := by
  rcases bst_spec zs out i with ⟨h1, _⟩ | ⟨b, hb, h1, _⟩ <;> omega

theorem mem_drop_of {l : List Int} {k : Nat} {x : Int} (hx : x ∈ l) (hk : x ∉ l.take k) : x ∈ l.drop k := by
  rw [← List.take_append_drop k l] at hx
  exact (List.mem_append.1 hx).resolve_left hk
theorem getD_mem_int {l : List Int} {k : Nat} (hk : k < l.length) : l.getD k 0 ∈ l := by simp [List.getD, hk]
theorem not_in_take {l : List Int} (h : l.Nodup) {k : Nat} (hk : k < l.length) : l.getD k 0 ∉ l.take k := by
  have e := List.take_append_drop k l
  rw [← e] at h
  rw [List.drop_eq_getElem_cons hk] at h
  have := (List.nodup_append.1 h).2.2
  intro hm
  have h2 : l.getD k 0 = l[k] := by simp [List.getD, hk]
  rw [h2] at hm
  exact this _ hm _ (List.mem_cons_self ..) rfl
/-- The best channel that is not among the first k is the next one. -/
theorem bst_top {zs : List Int} {k : Nat} (hk : k < zs.length) : bst zs (topL zs k) zs.length = (topAll zs).getD k 0 := by
  have hkl : k < (topAll zs).length := by rw [topAll_length]; exact hk
  have hm := getD_mem_int hkl
  obtain ⟨m1, m2⟩ := topAll_mem.1 hm
  obtain ⟨t, ht⟩ := Int.eq_ofNat_of_zero_le m1
  have hnt : (topAll zs).getD k 0 ∉ topL zs k := not_in_take (topAll_nodup zs) hkl
  rw [ht] at m2 hnt ⊢
  rcases bst_spec zs (topL zs k) zs.length with ⟨_, h2⟩ | ⟨b, hb, h1, h2, h3⟩
  · exact absurd (h2 t (by omega)) hnt
  · rw [h1]
    rcases h3 t (by omega) hnt with e | h4
    · rw [e]
    · have hbm : (b : Int) ∈ (topAll zs).drop k := mem_drop_of (topAll_mem.2 ⟨by omega, by omega⟩) h2
      rw [List.drop_eq_getElem_cons hkl] at hbm
      have e2 : (topAll zs)[k] = (t : Int) := by rw [← ht]; simp [List.getD, hkl]
      rcases List.mem_cons.1 hbm with e | h5
      · rw [e, e2]
      · have hp := topAll_sorted zs
        rw [← List.take_append_drop k (topAll zs), List.pairwise_append, List.drop_eq_getElem_cons hkl] at hp
        have := (List.pairwise_cons.1 hp.2.1).1 _ h5
        rw [e2] at this
        unfold ltK at this h4
        omega
theorem topL_succ {zs : List Int} {k : Nat} (hk : k < zs.length) : topL zs (k + 1) = topL zs k ++ [(topAll zs).getD k 0] := by
  unfold topL
  rw [List.take_succ_eq_append_getElem (by rw [topAll_length]; exact hk)]
  simp [List.getD, topAll_length, hk]

end Go.Proofs.Ytmjckadaiikapaa
