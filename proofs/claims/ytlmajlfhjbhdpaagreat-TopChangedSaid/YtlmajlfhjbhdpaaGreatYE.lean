/-
 Plain: which stays and rooms are reached from a stay for which there is no room.
-/
import Derived.Test.YtlmajlfhjbhdpaaGreatZQ
namespace Go.Proofs.YtlmajlfhjbhdpaaGreat
set_option linter.unusedSimpArgs false
set_option linter.unusedVariables false
/-- What reach holds: stays R, rooms T, the stays Q whose rooms are still to be looked at; of stay i the rooms from k0 on are. -/
structure RI (fits : Nat → Nat → Bool) (m sn : Nat) (O : OwnO) (stay i k0 : Nat) (R T Q : List Nat) : Prop where
 st : stay ∈ R
 pend : i ∈ R
 nr : R.Nodup
 nt : T.Nodup
 tm : ∀ k ∈ T, k < m
 rn : ∀ j ∈ R, j < sn
 qr : ∀ j ∈ Q, j ∈ R
 all : ∀ j ∈ R, j ∉ Q → ∀ k, k < m → fits j k = true → k ∈ T ∨ (j = i ∧ k0 ≤ k)
 has : ∀ k ∈ T, ∃ j ∈ R, fits j k = true
 own : ∀ k ∈ T, ∀ j, O k = some j → j ∈ R
 from' : ∀ j ∈ R, j = stay ∨ ∃ k ∈ T, O k = some j
 least : ∀ C : Nat → Prop, C stay → (∀ i, C i → ∀ k, k < m → fits i k = true → ∀ j, O k = some j → C j) → ∀ j ∈ R, C j
section
variable {fits : Nat → Nat → Bool} {m sn : Nat} {O : OwnO} {stay i k0 : Nat} {R T Q : List Nat}
theorem RI.start (h : stay < sn) : RI fits m sn O stay stay m [stay] [] [stay] where
 st := by simp
 pend := by simp
 nr := by simp
 nt := by simp
 tm := by simp
 rn := by simpa using h
 qr := by simp
 all := fun j hj hq => (hq hj).elim
 has := by simp
 own := by simp
 from' := by simp
 least := fun C h0 _ j hj => by simp at hj; subst hj; exact h0
/-- The next stay is looked at. -/
theorem RI.pop {x : Nat} (h : RI fits m sn O stay i m R T (x :: Q)) : RI fits m sn O stay x 0 R T Q :=
 { h with
  pend := h.qr x (by simp)
  qr := fun j hj => h.qr j (by simp [hj])
  all := fun j hj hq k hk hf => by
   by_cases e : j = x
   ·
    exact Or.inr ⟨e, Nat.zero_le _⟩
   ·
    exact Or.inl ((h.all j hj (by simp [e, hq]) k hk hf).resolve_right (fun hh => by omega)) }
theorem RI.skip (h : RI fits m sn O stay i k0 R T Q) (hs : k0 ∈ T ∨ fits i k0 = false) : RI fits m sn O stay i (k0 + 1) R T Q :=
 { h with
  all := fun j hj hq k hk hf => by
   rcases h.all j hj hq k hk hf with h1 | ⟨h1, h2⟩
   ·
    exact Or.inl h1
   ·
    by_cases e : k = k0
    ·
     subst e
     subst h1
     rcases hs with hs | hs
     ·
      exact Or.inl hs
     ·
      rw [hf] at hs; cases hs
    ·
     exact Or.inr ⟨h1, by omega⟩ }
theorem RI.take (h : RI fits m sn O stay i k0 R T Q) (hk : k0 < m) (ht : k0 ∉ T) (hf : fits i k0 = true) (ho : ∀ j, O k0 = some j → j ∈ R) : RI fits m sn O stay i (k0 + 1) R (T ++ [k0]) Q :=
 { h with
  nt := List.nodup_append.2 ⟨h.nt, by simp, fun a ha b hb => by simp at hb; subst hb; exact fun e => ht (e ▸ ha)⟩
  tm := fun k hk' => by
   rcases List.mem_append.1 hk' with h1 | h1
   ·
    exact h.tm k h1
   ·
    simp at h1; omega
  all := fun j hj hq k hk' hf' => by
   rcases h.all j hj hq k hk' hf' with h1 | ⟨h1, h2⟩
   ·
    exact Or.inl (List.mem_append.2 (Or.inl h1))
   ·
    by_cases e : k = k0
    ·
     exact Or.inl (List.mem_append.2 (Or.inr (by simp [e])))
    ·
     exact Or.inr ⟨h1, by omega⟩
  has := fun k hk' => by
   rcases List.mem_append.1 hk' with h1 | h1
   ·
    exact h.has k h1
   ·
    simp at h1; subst h1; exact ⟨i, h.pend, hf⟩
  own := fun k hk' j hj => by
   rcases List.mem_append.1 hk' with h1 | h1
   ·
    exact h.own k h1 j hj
   ·
    simp at h1; subst h1; exact ho j hj
  from' := fun j hj => (h.from' j hj).imp id (fun ⟨k, h1, h2⟩ => ⟨k, List.mem_append.2 (Or.inl h1), h2⟩) }
theorem RI.takeNew {x : Nat} (h : RI fits m sn O stay i k0 R T Q) (hk : k0 < m) (ht : k0 ∉ T) (hf : fits i k0 = true) (ho : O k0 = some x) (hx : x ∉ R) (hxn : x < sn) : RI fits m sn O stay i (k0 + 1) (R ++ [x]) (T ++ [k0]) (Q ++ [x]) where
 st := List.mem_append.2 (Or.inl h.st)
 pend := List.mem_append.2 (Or.inl h.pend)
 nr := List.nodup_append.2 ⟨h.nr, by simp, fun a ha b hb => by simp at hb; subst hb; exact fun e => hx (e ▸ ha)⟩
 nt := List.nodup_append.2 ⟨h.nt, by simp, fun a ha b hb => by simp at hb; subst hb; exact fun e => ht (e ▸ ha)⟩
 tm := fun k hk' => by
  rcases List.mem_append.1 hk' with h1 | h1
  ·
   exact h.tm k h1
  ·
   simp at h1; omega
 rn := fun j hj => by
  rcases List.mem_append.1 hj with h1 | h1
  ·
   exact h.rn j h1
  ·
   simp at h1; omega
 qr := fun j hj => by
  rcases List.mem_append.1 hj with h1 | h1
  ·
   exact List.mem_append.2 (Or.inl (h.qr j h1))
  ·
   exact List.mem_append.2 (Or.inr h1)
 all := fun j hj hq k hk' hf' => by
  rcases List.mem_append.1 hj with h1 | h1
  ·
   rcases h.all j h1 (fun hh => hq (List.mem_append.2 (Or.inl hh))) k hk' hf' with h2 | ⟨h2, h3⟩
   ·
    exact Or.inl (List.mem_append.2 (Or.inl h2))
   ·
    by_cases e : k = k0
    ·
     exact Or.inl (List.mem_append.2 (Or.inr (by simp [e])))
    ·
     exact Or.inr ⟨h2, by omega⟩
  ·
   exact (hq (List.mem_append.2 (Or.inr h1))).elim
 has := fun k hk' => by
  rcases List.mem_append.1 hk' with h1 | h1
  ·
   obtain ⟨j, a, b⟩ := h.has k h1
   exact ⟨j, List.mem_append.2 (Or.inl a), b⟩
  ·
   simp at h1; subst h1; exact ⟨i, List.mem_append.2 (Or.inl h.pend), hf⟩
 own := fun k hk' j hj => by
  rcases List.mem_append.1 hk' with h1 | h1
  ·
   exact List.mem_append.2 (Or.inl (h.own k h1 j hj))
  ·
   simp at h1; subst h1
   rw [ho] at hj
   cases hj
   exact List.mem_append.2 (Or.inr (by simp))
 from' := fun j hj => by
  rcases List.mem_append.1 hj with h1 | h1
  ·
   exact (h.from' j h1).imp id (fun ⟨k, h1, h2⟩ => ⟨k, List.mem_append.2 (Or.inl h1), h2⟩)
  ·
   simp at h1; subst h1; exact Or.inr ⟨k0, List.mem_append.2 (Or.inr (by simp)), ho⟩
 least := fun C h0 hC j hj => by
  rcases List.mem_append.1 hj with h1 | h1
  ·
   exact h.least C h0 hC j h1
  ·
   simp at h1; subst h1; exact hC i (h.least C h0 hC i h.pend) k0 hk hf j ho
/-- How much there is still to do. -/
theorem RI.few (h : RI fits m sn O stay i k0 R T Q) : T.length ≤ m := by
 have h1 : ((List.range m).filter (fun k => decide (k ∈ T))).Perm T := (List.perm_ext_iff_of_nodup (List.nodup_range.filter _) h.nt).2 fun k => by
  rw [List.mem_filter, List.mem_range, decide_eq_true_eq]
  exact ⟨fun hh => hh.2, fun hh => ⟨h.tm k hh, hh⟩⟩
 rw [← h1.length_eq]
 exact Nat.le_trans (List.length_filter_le _ _) (by simp)
/-- At the end: all rooms that suit one of R are in T. -/
theorem RI.shut (h : RI fits m sn O stay i m R T []) : ∀ j ∈ R, ∀ k, k < m → fits j k = true → k ∈ T := fun j hj k hk hf => (h.all j hj (by simp) k hk hf).resolve_right (fun hh => by omega)
/-- .. and where each room of T is had by a stay: one stay more than rooms. -/
theorem RI.count {S : SetB} (h : RI fits m sn O stay i m R T []) (hM : PM fits m O) (hst : ∀ k, O k ≠ Option.some stay) (h1 : ∀ k, k < m → fits stay k = true → S k = true)
  (h2 : ∀ k, k < m → S k = true → ∃ j, O k = Option.some j ∧ ∀ k', k' < m → fits j k' = true → S k' = true) : R.length = T.length + 1 := by
 have hC := h.least (fun j => ∀ k, k < m → fits j k = true → S k = true) h1 (fun i hi k hk hf j hj => by
  obtain ⟨j', e1, e2⟩ := h2 k hk (hi k hk hf)
  rw [hj] at e1
  cases e1
  exact e2)
 have hT : ∀ k ∈ T, ∃ j, O k = Option.some j := fun k hk => by
  obtain ⟨j, hj, hf⟩ := h.has k hk
  obtain ⟨j', e, _⟩ := h2 k (h.tm k hk) (hC j hj k (h.tm k hk) hf)
  exact ⟨j', e⟩
 have hperm : R.Perm (stay :: T.map (fun k => (O k).getD 0)) := by
  refine (List.perm_ext_iff_of_nodup h.nr ?_).2 fun j => ?_
  ·
   rw [List.nodup_cons]
   constructor
   ·
    intro hm
    obtain ⟨k, hk, e⟩ := List.mem_map.1 hm
    obtain ⟨j, hj⟩ := hT k hk
    rw [hj] at e
    simp only [Option.getD_some] at e
    exact hst k (by rw [hj, e])
   ·
    rw [List.nodup_iff_pairwise_ne, List.pairwise_map]
    refine (List.nodup_iff_pairwise_ne.1 h.nt).imp_of_mem fun {a b} ha hb hne e => hne ?_
    obtain ⟨ja, ea⟩ := hT a ha
    obtain ⟨jb, eb⟩ := hT b hb
    rw [ea, eb] at e
    simp only [Option.getD_some] at e
    subst e
    exact hM.inj a b ja ea eb
  ·
   rw [List.mem_cons, List.mem_map]
   constructor
   ·
    intro hj
    rcases h.from' j hj with e | ⟨k, hk, e⟩
    ·
     exact Or.inl e
    ·
     exact Or.inr ⟨k, hk, by rw [e]; rfl⟩
   ·
    rintro (e | ⟨k, hk, e⟩)
    ·
     rw [e]; exact h.st
    ·
     obtain ⟨j', e'⟩ := hT k hk
     rw [e'] at e
     simp only [Option.getD_some] at e
     subst e
     exact h.own k hk j' e'
 have := hperm.length_eq
 simpa using this
end
end Go.Proofs.YtlmajlfhjbhdpaaGreat
