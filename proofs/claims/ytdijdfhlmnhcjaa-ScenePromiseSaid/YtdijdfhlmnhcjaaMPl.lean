/-
  Texts built as one: XTopO, XTopR, XWorstP.
-/
import Derived.Test.YtdijdfhlmnhcjaaTopA
namespace Go.Proofs.Ytdijdfhlmnhcjaa

section
set_option linter.unusedSimpArgs false
set_option linter.unusedVariables false

/-- The share of a channel. -/
def shr (zs : List Int) (i : Int) : Int := zs.getD i.toNat 0
theorem atL_eq (zs l : List Int) : atL zs l = l.map (shr zs) := rfl

theorem sum_erase (f : Int → Int) : ∀ {l : List Int} {x : Int}, x ∈ l → (l.map f).sum = f x + ((l.erase x).map f).sum
  | [], x, h => by simp at h
  | y :: r, x, h => by
    by_cases e : y = x
    · subst e; simp
    · have hr : x ∈ r := (List.mem_cons.1 h).resolve_left (fun h => e h.symm)
      have ih := sum_erase f hr
      rw [List.erase_cons_tail (by simpa using e)]
      simp only [List.map_cons, List.sum_cons, ih]
      omega

/-- Of a list that falls, the first k have the greatest sum. -/
theorem greatest (f : Int → Int) : ∀ (S : List Int), S.Pairwise (fun a b => f b ≤ f a) → (∀ x ∈ S, 0 ≤ f x) → ∀ (k : Nat) (l : List Int), l.Nodup → (∀ x ∈ l, x ∈ S) → l.length ≤ k → (l.map f).sum ≤ ((S.take k).map f).sum
  | [], _, _, k, l, _, hs, _ => by
    have : l = [] := List.eq_nil_iff_forall_not_mem.2 (fun x hx => by have := hs x hx; simp at this)
    subst this; simp
  | s :: S, hp, h0, 0, l, _, _, hl => by
    have : l = [] := List.eq_nil_of_length_eq_zero (by omega)
    subst this; simp
  | s :: S, hp, h0, k + 1, l, hn, hs, hl => by
    obtain ⟨p1, p2⟩ := List.pairwise_cons.1 hp
    have g0 : ∀ x ∈ S, 0 ≤ f x := fun x hx => h0 x (by simp [hx])
    rw [List.take_succ_cons, List.map_cons, List.sum_cons]
    by_cases hsl : s ∈ l
    · rw [sum_erase f hsl]
      have ih := greatest f S p2 g0 k (l.erase s) (hn.sublist List.erase_sublist) (fun x hx => by
        have hx2 := (List.Nodup.mem_erase_iff hn).1 hx
        exact (List.mem_cons.1 (hs x hx2.2)).resolve_left hx2.1) (by rw [List.length_erase_of_mem hsl]; omega)
      omega
    · have hS : ∀ x ∈ l, x ∈ S := fun x hx => (List.mem_cons.1 (hs x hx)).resolve_left (fun e => hsl (e ▸ hx))
      cases l with
      | nil =>
        simp
        have := h0 s (by simp)
        have ih := greatest f S p2 g0 k [] List.nodup_nil (fun x hx => by simp at hx) (by simp)
        simp at ih
        omega
      | cons x r =>
        have ih := greatest f S p2 g0 k r (List.nodup_cons.1 hn).2 (fun y hy => hS y (by simp [hy])) (by simp at hl; omega)
        have := p1 x (hS x (by simp))
        simp only [List.map_cons, List.sum_cons]
        omega

theorem topAll_falls (zs : List Int) : (topAll zs).Pairwise (fun a b => shr zs b ≤ shr zs a) :=
  (topAll_sorted zs).imp (fun h => by unfold ltK shKey at h; unfold shr; omega)
/-- Channels, as many or fewer, whichever they are. -/
theorem topS_greatest {zs : List Int} (h0 : ∀ z ∈ zs, 0 ≤ z) (k : Nat) {l : List Int} (hn : l.Nodup) (hs : ∀ x ∈ l, 0 ≤ x ∧ x < zs.length) (hl : l.length ≤ k) : (atL zs l).sum ≤ topS zs k := by
  refine greatest (shr zs) (topAll zs) (topAll_falls zs) (fun x hx => ?_) k l hn (fun x hx => topAll_mem.2 (hs x hx)) hl
  obtain ⟨x1, x2⟩ := topAll_mem.1 hx
  unfold shr
  have hlt : x.toNat < zs.length := by omega
  have := h0 zs[x.toNat] (List.getElem_mem hlt)
  simpa [List.getD, hlt] using this

theorem topS_zero (zs : List Int) : topS zs 0 = 0 := by simp [topS, topL, atL]
theorem topS_succ {zs : List Int} {k : Nat} (h : k < zs.length) : topS zs (k + 1) = topS zs k + shr zs ((topAll zs).getD k 0) := by
  unfold topS topL
  rw [atL_take_succ (by rw [topAll_length]; exact h)]
  rfl
theorem topS_all {zs : List Int} {k : Nat} (h : zs.length ≤ k) : topS zs k = topS zs zs.length := by
  unfold topS topL
  rw [List.take_of_length_le (by rw [topAll_length]; exact h), List.take_of_length_le (by rw [topAll_length]; exact Nat.le_refl _)]
theorem topS_nonneg {zs : List Int} (h : shIn zs) (k : Nat) : 0 ≤ topS zs k := (atL_sum_bounds h _).1
theorem topS_mono {zs : List Int} (h0 : ∀ z ∈ zs, 0 ≤ z) {k m : Nat} (h : k ≤ m) : topS zs k ≤ topS zs m :=
  topS_greatest h0 m (topL_nodup zs k) (fun x hx => topL_mem hx) (by rw [topL_length]; omega)

/-- The sum of some channels, when one share has changed. -/
theorem atL_set {zs : List Int} {c : Nat} {x : Int} (hc : c < zs.length) : ∀ {l : List Int}, l.Nodup → (∀ i ∈ l, 0 ≤ i) →
    (atL (zs.set c x) l).sum = (atL zs l).sum + if (c : Int) ∈ l then x - zs.getD c 0 else 0
  | [], _, _ => by simp [atL]
  | i :: r, hn, h0 => by
    obtain ⟨n1, n2⟩ := List.nodup_cons.1 hn
    have ih := atL_set hc n2 (fun j hj => h0 j (by simp [hj])) (x := x)
    have hi := h0 i (by simp)
    unfold atL at ih ⊢
    simp only [List.map_cons, List.sum_cons, ih]
    have e : (zs.set c x).getD i.toNat 0 = if i.toNat = c then x else zs.getD i.toNat 0 := by
      simp only [List.getD_eq_getElem?_getD, List.getElem?_set]
      by_cases h : c = i.toNat
      · subst h; simp [hc]
      · simp [h, Ne.symm h]
    rw [e]
    by_cases h : i.toNat = c
    · have hic : (c : Int) = i := by omega
      rw [if_pos h, hic, if_neg n1, if_pos (by simp), h]; omega
    · have hic : ¬ (c : Int) = i := by omega
      rw [if_neg h]
      by_cases hr : (c : Int) ∈ r
      · rw [if_pos hr, if_pos (by simp [hr])]; omega
      · rw [if_neg hr, if_neg (by simp [hr, hic])]; omega
theorem set_nonneg {zs : List Int} (h0 : ∀ z ∈ zs, 0 ≤ z) (c : Nat) {x : Int} (hx : 0 ≤ x) : ∀ z ∈ zs.set c x, 0 ≤ z := fun z hz => by
  rcases List.mem_or_eq_of_mem_set hz with g | g
  · exact h0 z g
  · omega
/-- A share that falls by d: the sum falls by 0 to d. -/
theorem topS_less {zs : List Int} (h0 : ∀ z ∈ zs, 0 ≤ z) {c : Nat} (hc : c < zs.length) {x : Int} (hx : 0 ≤ x) (hxz : x ≤ zs.getD c 0) (k : Nat) :
    topS (zs.set c x) k ≤ topS zs k ∧ topS zs k - (zs.getD c 0 - x) ≤ topS (zs.set c x) k := by
  have hl : (zs.set c x).length = zs.length := List.length_set
  constructor
  · have h1 : topS (zs.set c x) k = (atL (zs.set c x) (topL (zs.set c x) k)).sum := rfl
    rw [h1, atL_set hc (topL_nodup _ _) (fun i hi => (topL_mem hi).1)]
    have h2 := topS_greatest h0 k (topL_nodup (zs.set c x) k) (fun i hi => by have := topL_mem hi; rw [hl] at this; exact this) (by rw [topL_length]; omega)
    split <;> omega
  · have h2 := topS_greatest (set_nonneg h0 c hx) k (topL_nodup zs k) (fun i hi => by rw [hl]; exact topL_mem hi) (by rw [topL_length]; omega)
    rw [atL_set hc (topL_nodup _ _) (fun i hi => (topL_mem hi).1)] at h2
    have h1 : topS zs k = (atL zs (topL zs k)).sum := rfl
    split at h2 <;> omega

end

section
set_option linter.unusedSimpArgs false
set_option linter.unusedVariables false

/-- The best of the first i channels that are not in out; -1 if there is none. -/
def bst (zs out : List Int) : Nat → Int
  | 0 => -1
  | i + 1 => if (i : Int) ∉ out ∧ (bst zs out i < 0 ∨ shr zs (bst zs out i) < shr zs i) then (i : Int) else bst zs out i

theorem bst_spec (zs out : List Int) : ∀ i : Nat, (bst zs out i = -1 ∧ ∀ j : Nat, j < i → (j : Int) ∈ out) ∨
    (∃ b : Nat, b < i ∧ bst zs out i = (b : Int) ∧ (b : Int) ∉ out ∧ ∀ j : Nat, j < i → (j : Int) ∉ out → j = b ∨ ltK (shKey zs) b j)
  | 0 => Or.inl ⟨rfl, fun j h => by omega⟩
  | i + 1 => by
    unfold bst
    rcases bst_spec zs out i with ⟨h1, h2⟩ | ⟨b, hb, h1, h2, h3⟩
    · rw [h1]
      by_cases hi : (i : Int) ∈ out
      · rw [if_neg (fun h => h.1 hi)]
        refine Or.inl ⟨rfl, fun j hj => ?_⟩
        by_cases e : j = i
        · rw [e]; exact hi
        · exact h2 j (by omega)
      · rw [if_pos ⟨hi, Or.inl (by omega)⟩]
        refine Or.inr ⟨i, by omega, rfl, hi, fun j hj hjo => ?_⟩
        by_cases e : j = i
        · exact Or.inl e
        · exact absurd (h2 j (by omega)) hjo
    · rw [h1]
      by_cases hi : (i : Int) ∈ out
      · rw [if_neg (fun h => h.1 hi)]
        refine Or.inr ⟨b, by omega, rfl, h2, fun j hj hjo => ?_⟩
        by_cases e : j = i
        · rw [e] at hjo; exact absurd hi hjo
        · exact h3 j (by omega) hjo
      · by_cases hlt : shr zs b < shr zs i
        · rw [if_pos ⟨hi, Or.inr hlt⟩]
          have hib : ltK (shKey zs) i b := by unfold ltK shKey; unfold shr at hlt; omega
          refine Or.inr ⟨i, by omega, rfl, hi, fun j hj hjo => ?_⟩
          by_cases e : j = i
          · exact Or.inl e
          · rcases h3 j (by omega) hjo with g | g
            · subst g; exact Or.inr hib
            · exact Or.inr (ltK_trans hib g)
        · rw [if_neg (fun h => h.2.elim (fun h => by omega) hlt)]
          have hbi : ltK (shKey zs) b i := by unfold ltK shKey; unfold shr at hlt; omega
          refine Or.inr ⟨b, by omega, rfl, h2, fun j hj hjo => ?_⟩
          by_cases e : j = i
          · subst e; exact Or.inr hbi
          · exact h3 j (by omega) hjo
theorem bst_lo (zs out : List Int) (i : Nat) : -1 ≤ bst zs out i ∧ bst zs out i < i := by
  rcases bst_spec zs out i with ⟨h1, _⟩ | ⟨b, hb, h1, _⟩ <;> omega

theorem mem_drop_of {l : List Int} {k : Nat} {x : Int} (hx : x ∈ l) (hk : x ∉ l.take k) : x ∈ l.drop k := by
  rw [← List.take_append_drop k l] at hx
  exact (List.mem_append.1 hx).resolve_left hk
theorem getD_mem_int {l : List Int} {k : Nat} (hk : k < l.length) : l.getD k 0 ∈ l := by simp [List.getD, hk]
theorem not_in_take {l : List Int} (h : l.Nodup) {k : Nat} (hk : k < l.length) : l.getD k 0 ∉ l.take k := by
  have e := List.take_append_drop k l
  rw [← e] at h
  rw [List.drop_eq_getElem_cons hk] at h
  have := (List.nodup_append.1 h).2.2
  intro hm
  have h2 : l.getD k 0 = l[k] := by simp [List.getD, hk]
  rw [h2] at hm
  exact this _ hm _ (List.mem_cons_self ..) rfl
/-- The best channel that is not among the first k is the next one. -/
theorem bst_top {zs : List Int} {k : Nat} (hk : k < zs.length) : bst zs (topL zs k) zs.length = (topAll zs).getD k 0 := by
  have hkl : k < (topAll zs).length := by rw [topAll_length]; exact hk
  have hm := getD_mem_int hkl
  obtain ⟨m1, m2⟩ := topAll_mem.1 hm
  obtain ⟨t, ht⟩ := Int.eq_ofNat_of_zero_le m1
  have hnt : (topAll zs).getD k 0 ∉ topL zs k := not_in_take (topAll_nodup zs) hkl
  rw [ht] at m2 hnt ⊢
  rcases bst_spec zs (topL zs k) zs.length with ⟨_, h2⟩ | ⟨b, hb, h1, h2, h3⟩
  · exact absurd (h2 t (by omega)) hnt
  · rw [h1]
    rcases h3 t (by omega) hnt with e | h4
    · rw [e]
    · have hbm : (b : Int) ∈ (topAll zs).drop k := mem_drop_of (topAll_mem.2 ⟨by omega, by omega⟩) h2
      rw [List.drop_eq_getElem_cons hkl] at hbm
      have e2 : (topAll zs)[k] = (t : Int) := by rw [← ht]; simp [List.getD, hkl]
      rcases List.mem_cons.1 hbm with e | h5
      · rw [e, e2]
      · have hp := topAll_sorted zs
        rw [← List.take_append_drop k (topAll zs), List.pairwise_append, List.drop_eq_getElem_cons hkl] at hp
        have := (List.pairwise_cons.1 hp.2.1).1 _ h5
        rw [e2] at this
        unfold ltK at this h4
        omega
theorem topL_succ {zs : List Int} {k : Nat} (hk : k < zs.length) : topL zs (k + 1) = topL zs k ++ [(topAll zs).getD k 0] := by
  unfold topL
  rw [List.take_succ_eq_append_getElem (by rw [topAll_length]; exact hk)]
  simp [List.getD, topAll_length, hk]

end

section
set_option linter.unusedSimpArgs false
set_option linter.unusedVariables false

/-- How many guests are walked at most. -/
def wkI (rooms sold : Int) (zs : List Int) (c : Nat) : Int := max 0 (sold - rooms + topS zs c)

/-- What the channels sell, one after the other, until nothing is left. -/
def sellC (zs : List Int) : Int → List Int → List Int
  | _, [] => []
  | left, i :: r => if left = 0 then [] else i :: sellC zs (left - min left (shr zs i)) r
def sellS (zs : List Int) : Int → List Int → List Int
  | _, [] => []
  | left, i :: r => if left = 0 then [] else min left (shr zs i) :: sellS zs (left - min left (shr zs i)) r
theorem map_nonneg {f : Int → Int} : ∀ (q : List Int), (∀ j ∈ q, 0 ≤ f j) → 0 ≤ (q.map f).sum
  | [], _ => by simp
  | x :: q, hq => by
    have a := hq x (by simp)
    have b := map_nonneg q (fun j hj => hq j (by simp [hj]))
    simp only [List.map_cons, List.sum_cons]; omega
theorem sellC_zero (zs : List Int) : ∀ l, sellC zs 0 l = []
  | [] => rfl
  | i :: r => by simp [sellC]
theorem sellS_zero (zs : List Int) : ∀ l, sellS zs 0 l = []
  | [] => rfl
  | i :: r => by simp [sellS]
theorem sell_len (zs : List Int) : ∀ (l : List Int) (left : Int), (sellC zs left l).length = (sellS zs left l).length
  | [], _ => rfl
  | i :: r, left => by
    unfold sellC sellS
    split
    · rfl
    · simp [sell_len zs r]
theorem sellC_prefix (zs : List Int) : ∀ (l : List Int) (left : Int), sellC zs left l <+: l
  | [], _ => ⟨[], rfl⟩
  | i :: r, left => by
    unfold sellC
    split
    · exact ⟨_, rfl⟩
    · obtain ⟨t, ht⟩ := sellC_prefix zs r (left - min left (shr zs i))
      exact ⟨t, by rw [List.cons_append, ht]⟩
theorem sellS_in (zs : List Int) : ∀ (l : List Int) (left : Int) (k : Nat), 0 ≤ left → (∀ i ∈ l, 0 ≤ shr zs i) → k < (sellS zs left l).length →
    0 ≤ (sellS zs left l).getD k 0 ∧ (sellS zs left l).getD k 0 ≤ shr zs (l.getD k 0)
  | [], _, k, _, _, h => by simp [sellS] at h
  | i :: r, left, k, h0, hp, h => by
    have hi := hp i (by simp)
    unfold sellS at h ⊢
    split at h
    · simp at h
    · rename_i hne
      rw [if_neg hne]
      cases k with
      | zero => simp only [List.getD_cons_zero]; omega
      | succ k =>
        simp only [List.getD_cons_succ]
        exact sellS_in zs r _ k (by omega) (fun j hj => hp j (by simp [hj])) (by simpa using h)
/-- If they have enough, they sell all that is left. -/
theorem sellS_sum (zs : List Int) : ∀ (l : List Int) (left : Int), 0 ≤ left → (∀ i ∈ l, 0 ≤ shr zs i) → left ≤ (l.map (shr zs)).sum → (sellS zs left l).sum = left
  | [], left, h0, _, h => by simp at h; simp [sellS]; omega
  | i :: r, left, h0, hp, h => by
    have hi := hp i (by simp)
    unfold sellS
    simp only [List.map_cons, List.sum_cons] at h
    split
    · rename_i e; simp [e]
    · have ih := sellS_sum zs r (left - min left (shr zs i)) (by omega) (fun j hj => hp j (by simp [hj])) (by
        have hs : 0 ≤ (r.map (shr zs)).sum := by
          have : ∀ (q : List Int), (∀ j ∈ q, 0 ≤ shr zs j) → 0 ≤ (q.map (shr zs)).sum := by
            intro q
            induction q with
            | nil => intro _; simp
            | cons x q ih => intro hq; have a := hq x (by simp); have b := ih (fun j hj => hq j (by simp [hj])); simp only [List.map_cons, List.sum_cons]; omega
          exact this r (fun j hj => hp j (by simp [hj]))
        omega)
      simp only [List.sum_cons, ih]
      omega
/-- Each of them sells at least one, if shares fall and there are enough. -/
theorem sellS_pos (zs : List Int) : ∀ (l : List Int) (left : Int) (k : Nat), 0 ≤ left → (∀ i ∈ l, 0 ≤ shr zs i) → l.Pairwise (fun a b => shr zs b ≤ shr zs a) → left ≤ (l.map (shr zs)).sum →
    k < (sellS zs left l).length → 1 ≤ (sellS zs left l).getD k 0
  | [], _, k, _, _, _, _, h => by simp [sellS] at h
  | i :: r, left, k, h0, hp, hd, hs, h => by
    have hi := hp i (by simp)
    obtain ⟨d1, d2⟩ := List.pairwise_cons.1 hd
    simp only [List.map_cons, List.sum_cons] at hs
    unfold sellS at h ⊢
    split at h
    · simp at h
    · rename_i hne
      rw [if_neg hne]
      have hip : 1 ≤ shr zs i := by
        by_cases hz : 1 ≤ shr zs i
        · exact hz
        · have hall : ∀ (q : List Int), (∀ j ∈ q, shr zs j ≤ shr zs i) → (q.map (shr zs)).sum ≤ 0 := by
            intro q
            induction q with
            | nil => intro _; simp
            | cons x q ih => intro hq; have a := hq x (by simp); have b := ih (fun j hj => hq j (by simp [hj])); simp only [List.map_cons, List.sum_cons]; omega
          have := hall r d1
          omega
      cases k with
      | zero => simp only [List.getD_cons_zero]; omega
      | succ k =>
        simp only [List.getD_cons_succ]
        exact sellS_pos zs r _ k (by omega) (fun j hj => hp j (by simp [hj])) d2 (by have := map_nonneg r (fun j hj => hp j (by simp [hj])); omega) (by simpa using h)
/-- With one channel less there is less than all that is left. -/
theorem sellC_least (zs : List Int) : ∀ (l : List Int) (left : Int) (k : Nat), 0 ≤ left → (∀ i ∈ l, 0 ≤ shr zs i) → (sellC zs left l).length = k + 1 → ((l.take k).map (shr zs)).sum < left
  | [], _, k, _, _, h => by simp [sellC] at h
  | i :: r, left, k, h0, hp, h => by
    have hi := hp i (by simp)
    unfold sellC at h
    split at h
    · simp at h
    · rename_i hne
      simp only [List.length_cons] at h
      cases k with
      | zero => simp; omega
      | succ k =>
        have ih := sellC_least zs r (left - min left (shr zs i)) k (by omega) (fun j hj => hp j (by simp [hj])) (by omega)
        have hpos : ∀ (q : List Int), (∀ j ∈ q, 0 ≤ shr zs j) → 0 ≤ (q.map (shr zs)).sum := by
          intro q
          induction q with
          | nil => intro _; simp
          | cons x q ih => intro hq; have a := hq x (by simp); have b := ih (fun j hj => hq j (by simp [hj])); simp only [List.map_cons, List.sum_cons]; omega
        have h3 := hpos (r.take k) (fun j hj => hp j (by simp [List.mem_of_mem_take hj]))
        simp only [List.take_succ_cons, List.map_cons, List.sum_cons]
        omega

end

end Go.Proofs.Ytdijdfhlmnhcjaa
