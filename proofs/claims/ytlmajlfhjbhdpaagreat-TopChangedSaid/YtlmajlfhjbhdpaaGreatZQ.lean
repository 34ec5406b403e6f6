/-
 Plain: finding rooms along paths that change (findF), what it tells.
-/
namespace Go.Proofs.YtlmajlfhjbhdpaaGreat
set_option linter.unusedSimpArgs false
set_option linter.unusedVariables false
abbrev SetB := Nat → Bool
abbrev OwnO := Nat → Option Nat
def setB (S : SetB) (k : Nat) : SetB := fun x => if x = k then true else S x
def setO (O : OwnO) (k i : Nat) : OwnO := fun x => if x = k then some i else O x
theorem setB_same (S : SetB) (k : Nat) : setB S k k = true := if_pos rfl
theorem setB_sub {S : SetB} {k x : Nat} (h : S x = true) : setB S k x = true := by unfold setB; split <;> first | rfl | exact h
theorem setB_cases {S : SetB} {k x : Nat} (h : setB S k x = true) : x = k ∨ S x = true := by
 unfold setB at h
 split at h
 ·
  exact Or.inl (by assumption)
 ·
  exact Or.inr h
theorem setO_same (O : OwnO) (k i : Nat) : setO O k i k = some i := if_pos rfl
theorem setO_ne {O : OwnO} {k i x : Nat} (h : x ≠ k) : setO O k i x = O x := if_neg h
def findL (fits : Nat → Nat → Bool) (fixed : Nat) (rec : SetB → OwnO → Nat → Bool × SetB × OwnO) (i : Nat) : List Nat → SetB → OwnO → Bool × SetB × OwnO
 | [], S, O => (false, S, O)
 | k :: r, S, O =>
  if S k || !fits i k then findL fits fixed rec i r S O else
  match O k with
  | none => (true, setB S k, setO O k i)
  | some j => if j < fixed then findL fits fixed rec i r (setB S k) O else
   match rec (setB S k) O j with
   | (true, S2, O2) => (true, S2, setO O2 k i)
   | (false, S2, O2) => findL fits fixed rec i r S2 O2
/-- What the closure 'find' of hall.place computes, in depth d. -/
def findF (fits : Nat → Nat → Bool) (fixed m : Nat) : Nat → SetB → OwnO → Nat → Bool × SetB × OwnO
 | 0, S, O, _ => (false, S, O)
 | d + 1, S, O, i => findL fits fixed (findF fits fixed m d) i (List.range m) S O
/-- How many rooms have not been seen. -/
def unseen (m : Nat) (S : SetB) : Nat := ((List.range m).filter (fun k => !S k)).length
theorem unseen_mono {m : Nat} {S S' : SetB} (h : ∀ k, S k = true → S' k = true) : unseen m S' ≤ unseen m S := by
 unfold unseen
 refine List.Sublist.length_le ?_
 have e : (List.range m).filter (fun k => !S' k) = ((List.range m).filter (fun k => !S k)).filter (fun k => !S' k) := by
  rw [List.filter_filter]
  refine List.filter_congr fun k _ => ?_
  cases h1 : S k with
  | false => simp
  | true => simp [h k h1]
 rw [e]
 exact List.filter_sublist
theorem unseen_set {m : Nat} {S : SetB} {k : Nat} (hk : k < m) (h : S k = false) : unseen m (setB S k) < unseen m S := by
 unfold unseen
 have e : (List.range m).filter (fun x => !setB S k x) = ((List.range m).filter (fun x => !S x)).filter (fun x => decide (x ≠ k)) := by
  rw [List.filter_filter]
  refine List.filter_congr fun x _ => ?_
  unfold setB
  by_cases hx : x = k <;> simp [hx]
 rw [e]
 refine List.length_filter_lt_length_iff_exists.2 ⟨k, List.mem_filter.2 ⟨List.mem_range.2 hk, by simp [h]⟩, by simp⟩
section
variable {fits : Nat → Nat → Bool} {fixed m : Nat}
/-- Rooms and their stays: each suits, no stay has two rooms. -/
structure PM (fits : Nat → Nat → Bool) (m : Nat) (O : OwnO) : Prop where
 fit : ∀ k j, O k = some j → k < m ∧ fits j k = true
 inj : ∀ k k' j, O k = some j → O k' = some j → k = k'
/-- What 'find' tells: of the rooms seen before (S) and after (S'), whose rooms they were (O) and are (O'). -/
structure FindP (fits : Nat → Nat → Bool) (fixed m : Nat) (S : SetB) (O : OwnO) (i : Nat) (b : Bool) (S' : SetB) (O' : OwnO) : Prop where
 mono : ∀ k, S k = true → S' k = true
 same : b = false → O' = O
 all : b = false → ∀ k, k < m → fits i k = true → S' k = true
 shut : b = false → ∀ k, k < m → S' k = true → S k = false → ∃ j, O k = some j ∧ (j < fixed ∨ ∀ k', k' < m → fits j k' = true → S' k' = true)
 keep : b = true → ∀ k, S k = true → O' k = O k
 got : b = true → ∃ k1, k1 < m ∧ S k1 = false ∧ O' k1 = some i ∧ ∀ k, O' k = some i → k = k1 ∨ (O k = some i ∧ S k = true)
 fit : b = true → ∀ k j, O' k = some j → k < m ∧ fits j k = true
 inj : b = true → ∀ j, j ≠ i → ∀ k k', O' k = some j → O' k' = some j → k = k'
 who : b = true → ∀ j, j ≠ i → ((∃ k, O k = some j) ↔ ∃ k, O' k = some j)
/-- .. in the middle of the loop: the rooms ks are still to come. -/
theorem findL_spec {rec : SetB → OwnO → Nat → Bool × SetB × OwnO} {d : Nat}
  (hrec : ∀ S O j, unseen m S < d → PM fits m O → (∀ k, O k = some j → S k = true) → FindP fits fixed m S O j (rec S O j).1 (rec S O j).2.1 (rec S O j).2.2)
  {S0 : SetB} {O : OwnO} {i : Nat} (hU : unseen m S0 < d + 1) (hM : PM fits m O) (hi : ∀ k, O k = some i → S0 k = true) :
  ∀ (ks : List Nat) (S : SetB), (∀ k ∈ ks, k < m) → (∀ k, S0 k = true → S k = true) →
   (∀ k, k < m → S k = true → S0 k = false → ∃ j, O k = some j ∧ (j < fixed ∨ ∀ k', k' < m → fits j k' = true → S k' = true)) →
   (∀ k, k < m → k ∉ ks → fits i k = true → S k = true) →
   FindP fits fixed m S0 O i (findL fits fixed rec i ks S O).1 (findL fits fixed rec i ks S O).2.1 (findL fits fixed rec i ks S O).2.2
 | [], S, _, h1, h2, h3 => by
  unfold findL
  exact ⟨h1, fun _ => rfl, fun _ k hk => h3 k hk (by simp), fun _ => h2, fun h => by simp at h, fun h => by simp at h, fun h => by simp at h, fun h => by simp at h, fun h => by simp at h⟩
 | k :: r, S, h0, h1, h2, h3 => by
  have hkm : k < m := h0 k (by simp)
  have h0' : ∀ x ∈ r, x < m := fun x hx => h0 x (by simp [hx])
  unfold findL
  by_cases hc : (S k || !fits i k) = true
  ·
   rw [if_pos hc]
   refine findL_spec hrec hU hM hi r S h0' h1 h2 fun x hx hxr hf => ?_
   by_cases hxk : x = k
   ·
    subst hxk
    simp only [Bool.or_eq_true, Bool.not_eq_true'] at hc
    rcases hc with hc | hc
    ·
     exact hc
    ·
     rw [hf] at hc; cases hc
   ·
    exact h3 x hx (by simp [hxk, hxr]) hf
  ·
   rw [if_neg hc]
   simp only [Bool.or_eq_true, Bool.not_eq_true', not_or, Bool.not_eq_true, Bool.not_eq_false] at hc
   obtain ⟨hSk, hfk⟩ := hc
   have hS0k : S0 k = false := by
    cases h : S0 k with
    | false => rfl
    | true => rw [h1 k h] at hSk; cases hSk
   have hle : unseen m (setB S k) < d := by
    have a1 := unseen_set hkm hSk
    have a2 := unseen_mono (m := m) h1
    omega
   cases hO : O k with
   | none =>
    simp only
    refine ⟨fun x hx => setB_sub (h1 x hx), fun h => by simp at h, fun h => by simp at h, fun h => by simp at h, fun _ x hx => setO_ne (fun e => ?_), fun _ => ⟨k, hkm, hS0k, setO_same _ _ _, fun x hx => ?_⟩, fun _ x j hx => ?_, fun _ j hj x x' hx hx' => ?_, fun _ j hj => ?_⟩
    ·
     subst e; rw [hx] at hS0k; cases hS0k
    ·
     by_cases hxk : x = k
     ·
      exact Or.inl hxk
     ·
      rw [setO_ne hxk] at hx
      exact Or.inr ⟨hx, hi x hx⟩
    ·
     by_cases hxk : x = k
     ·
      subst hxk
      rw [setO_same] at hx
      cases hx
      exact ⟨hkm, hfk⟩
     ·
      rw [setO_ne hxk] at hx
      exact hM.fit x j hx
    ·
     by_cases hxk : x = k
     ·
      subst hxk; rw [setO_same] at hx; cases hx; exact (hj rfl).elim
     ·
      by_cases hxk' : x' = k
      ·
       subst hxk'; rw [setO_same] at hx'; cases hx'; exact (hj rfl).elim
      ·
       rw [setO_ne hxk] at hx
       rw [setO_ne hxk'] at hx'
       exact hM.inj x x' j hx hx'
    ·
     constructor
     ·
      rintro ⟨x, hx⟩
      refine ⟨x, ?_⟩
      rw [setO_ne (fun e => by subst e; rw [hO] at hx; cases hx)]
      exact hx
     ·
      rintro ⟨x, hx⟩
      by_cases hxk : x = k
      ·
       subst hxk; rw [setO_same] at hx; cases hx; exact (hj rfl).elim
      ·
       exact ⟨x, by rwa [setO_ne hxk] at hx⟩
   | some j =>
    simp only
    by_cases hjf : j < fixed
    ·
     rw [if_pos hjf]
     refine findL_spec hrec hU hM hi r (setB S k) h0' (fun x hx => setB_sub (h1 x hx)) (fun x hx hs hs0 => ?_) fun x hx hxr hf => ?_
     ·
      by_cases hxk : x = k
      ·
       subst hxk; exact ⟨j, hO, Or.inl hjf⟩
      ·
       rcases setB_cases hs with h | h
       ·
        exact (hxk h).elim
       ·
        obtain ⟨j', e, h'⟩ := h2 x hx h hs0
        exact ⟨j', e, h'.imp id (fun g k' a b => setB_sub (g k' a b))⟩
     ·
      by_cases hxk : x = k
      ·
       subst hxk; exact setB_same _ _
      ·
       exact setB_sub (h3 x hx (by simp [hxk, hxr]) hf)
    ·
     rw [if_neg hjf]
     have hji : j ≠ i := fun e => by subst e; rw [hi k hO] at hS0k; cases hS0k
     have hR := hrec (setB S k) O j hle hM (fun x hx => by rw [hM.inj x k j hx hO]; exact setB_same _ _)
     rcases hrr : rec (setB S k) O j with ⟨b, S2, O2⟩
     rw [hrr] at hR
     clear hrr
     simp only at hR
     cases b with
     | true =>
      simp only
      obtain ⟨k1, a1, a2, a3, a4⟩ := hR.got rfl
      have hk1 : k1 ≠ k := fun e => by subst e; rw [setB_same] at a2; cases a2
      have hO2k : O2 k = some j := (hR.keep rfl k (setB_same _ _)).trans hO
      refine ⟨fun x hx => hR.mono x (setB_sub (h1 x hx)), fun h => by simp at h, fun h => by simp at h, fun h => by simp at h, fun _ x hx => ?_, fun _ => ⟨k, hkm, hS0k, setO_same _ _ _, fun x hx => ?_⟩, fun _ x y hx => ?_, fun _ y hy x x' hx hx' => ?_, fun _ y hy => ?_⟩
      ·
       rw [setO_ne (fun e => by subst e; rw [hx] at hS0k; cases hS0k)]
       exact hR.keep rfl x (setB_sub (h1 x hx))
      ·
       by_cases hxk : x = k
       ·
        exact Or.inl hxk
       ·
        rw [setO_ne hxk] at hx
        obtain ⟨x0, hx0⟩ := (hR.who rfl i (fun e => hji e.symm)).2 ⟨x, hx⟩
        have hs0 := hi x0 hx0
        have e2 : O2 x0 = some i := (hR.keep rfl x0 (setB_sub (h1 x0 hs0))).trans hx0
        have e3 := hR.inj rfl i (fun e => hji e.symm) x x0 hx e2
        subst e3
        exact Or.inr ⟨hx0, hs0⟩
      ·
       by_cases hxk : x = k
       ·
        subst hxk; rw [setO_same] at hx; cases hx; exact ⟨hkm, hfk⟩
       ·
        rw [setO_ne hxk] at hx
        exact hR.fit rfl x y hx
      ·
       by_cases hxk : x = k
       ·
        subst hxk; rw [setO_same] at hx; cases hx; exact (hy rfl).elim
       ·
        by_cases hxk' : x' = k
        ·
         subst hxk'; rw [setO_same] at hx'; cases hx'; exact (hy rfl).elim
        ·
         rw [setO_ne hxk] at hx
         rw [setO_ne hxk'] at hx'
         by_cases hyj : y = j
         ·
          subst hyj
          have f1 : x = k1 := (a4 x hx).resolve_right (fun h => hxk (hM.inj x k y h.1 hO))
          have f2 : x' = k1 := (a4 x' hx').resolve_right (fun h => hxk' (hM.inj x' k y h.1 hO))
          rw [f1, f2]
         ·
          exact hR.inj rfl y hyj x x' hx hx'
      ·
       by_cases hyj : y = j
       ·
        subst hyj
        exact ⟨fun _ => ⟨k1, by rw [setO_ne hk1]; exact a3⟩, fun _ => ⟨k, hO⟩⟩
       ·
        rw [hR.who rfl y hyj]
        constructor
        ·
         rintro ⟨x, hx⟩
         refine ⟨x, ?_⟩
         rw [setO_ne (fun e => by subst e; rw [hO2k] at hx; cases hx; exact hyj rfl)]
         exact hx
        ·
         rintro ⟨x, hx⟩
         by_cases hxk : x = k
         ·
          subst hxk; rw [setO_same] at hx; cases hx; exact (hy rfl).elim
         ·
          exact ⟨x, by rwa [setO_ne hxk] at hx⟩
     | false =>
      simp only
      have hOe := hR.same rfl
      subst hOe
      refine findL_spec hrec hU hM hi r S2 h0' (fun x hx => hR.mono x (setB_sub (h1 x hx))) (fun x hx hs hs0 => ?_) fun x hx hxr hf => ?_
      ·
       by_cases hxk : x = k
       ·
        subst hxk
        exact ⟨j, hO, Or.inr (hR.all rfl)⟩
       ·
        cases hsx : S x with
        | true =>
         obtain ⟨j', e, h'⟩ := h2 x hx hsx hs0
         exact ⟨j', e, h'.imp id (fun g k' a b => hR.mono k' (setB_sub (g k' a b)))⟩
        | false =>
         exact hR.shut rfl x hx hs (by unfold setB; rw [if_neg hxk]; exact hsx)
      ·
       by_cases hxk : x = k
       ·
        subst hxk; exact hR.mono x (setB_same _ _)
       ·
        exact hR.mono x (setB_sub (h3 x hx (by simp [hxk, hxr]) hf))
theorem findF_spec : ∀ (d : Nat) (S : SetB) (O : OwnO) (i : Nat), unseen m S < d → PM fits m O → (∀ k, O k = some i → S k = true) → FindP fits fixed m S O i (findF fits fixed m d S O i).1 (findF fits fixed m d S O i).2.1 (findF fits fixed m d S O i).2.2
 | 0, _, _, _, h, _, _ => by omega
 | d + 1, S, O, i, h, hM, hi => by
  unfold findF
  exact findL_spec (fun S O j a b c => findF_spec d S O j a b c) h hM hi (List.range m) S (fun k hk => List.mem_range.1 hk) (fun _ h => h) (fun k _ h1 h2 => by rw [h1] at h2; cases h2) (fun k hk hn => (hn (List.mem_range.2 hk)).elim)
/-- What holds whatever the rooms are: what has been seen stays so; whose the rooms are is bounded. -/
theorem findL_low {rec : SetB → OwnO → Nat → Bool × SetB × OwnO} {N i : Nat} (hi : i ≤ N)
  (hrec : ∀ S O j, (∀ k j, O k = some j → j ≤ N) → j ≤ N → (∀ x, S x = true → (rec S O j).2.1 x = true) ∧ ∀ k j', (rec S O j).2.2 k = some j' → j' ≤ N) :
  ∀ (ks : List Nat) (S : SetB) (O : OwnO), (∀ k j, O k = some j → j ≤ N) → (∀ x, S x = true → (findL fits fixed rec i ks S O).2.1 x = true) ∧ ∀ k j, (findL fits fixed rec i ks S O).2.2 k = some j → j ≤ N
 | [], S, O, hO => ⟨fun _ h => h, hO⟩
 | k :: r, S, O, hO => by
  unfold findL
  split
  ·
   exact findL_low hi hrec r S O hO
  ·
   have hset : ∀ (O' : OwnO), (∀ k j, O' k = some j → j ≤ N) → ∀ x j, setO O' k i x = some j → j ≤ N := fun O' h x j hx => by
    unfold setO at hx
    split at hx
    ·
     cases hx; exact hi
    ·
     exact h x j hx
   cases hok : O k with
   | none => exact ⟨fun x h => setB_sub h, hset O hO⟩
   | some j =>
    simp only
    split
    ·
     have := findL_low hi hrec r (setB S k) O hO
     exact ⟨fun x h => this.1 x (setB_sub h), this.2⟩
    ·
     have hr := hrec (setB S k) O j hO (hO k j hok)
     rcases hrr : rec (setB S k) O j with ⟨b, S2, O2⟩
     rw [hrr] at hr
     cases b with
     | true => exact ⟨fun x h => hr.1 x (setB_sub h), hset O2 hr.2⟩
     | false =>
      have := findL_low hi hrec r S2 O2 hr.2
      exact ⟨fun x h => this.1 x (hr.1 x (setB_sub h)), this.2⟩
theorem findF_low {N : Nat} : ∀ (d : Nat) (S : SetB) (O : OwnO) (i : Nat), (∀ k j, O k = some j → j ≤ N) → i ≤ N → (∀ x, S x = true → (findF fits fixed m d S O i).2.1 x = true) ∧ ∀ k j, (findF fits fixed m d S O i).2.2 k = some j → j ≤ N
 | 0, _, _, _, hO, _ => ⟨fun _ h => h, hO⟩
 | d + 1, S, O, i, hO, hi => by
  unfold findF
  exact findL_low hi (fun S O j a b => findF_low d S O j a b) (List.range m) S O hO
/-- A stay is added to those that have a room. -/
theorem place_yes {O : OwnO} {i : Nat} (hM : PM fits m O) (hw : ∀ j, (∃ k, O k = some j) ↔ j < i) {S' : SetB} {O' : OwnO} (h : FindP fits 0 m (fun _ => false) O i true S' O') : PM fits m O' ∧ ∀ j, (∃ k, O' k = some j) ↔ j < i + 1 := by
 obtain ⟨k1, a1, _, a3, a4⟩ := h.got rfl
 refine ⟨⟨h.fit rfl, fun k k' j hk hk' => ?_⟩, fun j => ?_⟩
 ·
  by_cases hj : j = i
  ·
   subst hj
   have e1 : k = k1 := (a4 k hk).resolve_right (fun h => by simp at h)
   have e2 : k' = k1 := (a4 k' hk').resolve_right (fun h => by simp at h)
   rw [e1, e2]
  ·
   exact h.inj rfl j hj k k' hk hk'
 ·
  by_cases hj : j = i
  ·
   subst hj
   exact ⟨fun _ => by omega, fun _ => ⟨k1, a3⟩⟩
  ·
   rw [← h.who rfl j hj, hw]
   omega
/-- A stay has no room: rooms that all are had by stays that suit no others. -/
theorem place_no {O : OwnO} {i : Nat} {S' : SetB} {O' : OwnO} (h : FindP fits 0 m (fun _ => false) O i false S' O') : O' = O ∧ (∀ k, k < m → fits i k = true → S' k = true) ∧ ∀ k, k < m → S' k = true → ∃ j, O k = some j ∧ ∀ k', k' < m → fits j k' = true → S' k' = true :=
 ⟨h.same rfl, h.all rfl, fun k hk hs => by
  obtain ⟨j, e, h'⟩ := h.shut rfl k hk hs rfl
  exact ⟨j, e, h'.resolve_left (by omega)⟩⟩
end
end Go.Proofs.YtlmajlfhjbhdpaaGreat
