/-
  Plain facts: no channels, as many or fewer, have together greater shares than the first ones that Top names; and how their sum changes with a share.
-/
import Derived.Test.YtmjckadaiikapaaTopA
namespace Go.Proofs.Ytmjckadaiikapaa
set_option linter.unusedSimpArgs false
set_option linter.unusedVariables false

/-- The share of a channel. -/
def shr (zs : List Int) (i : Int) : Int := zs.getD i.toNat 0
theorem atL_eq (zs l : List Int) : atL zs l = l.map (shr zs) := rfl

theorem sum_erase (f : Int → Int) : ∀ {l : List Int} {x : Int}, x ∈ l → (l.map f).sum = f x + ((l.erase x).map f).sum
  | [], x, h => by simp at h
  | y :: r, x, h => by
    by_cases e : y = x
    · subst e; simp
    · have hr : x ∈ r := (List.mem_cons.1 h).resolve_left (fun h => e h.symm)
      have ih := sum_erase f hr
      rw [List.erase_cons_tail (by simpa using e)]
      simp only [List.map_cons, List.sum_cons, ih]
      omega

/-- Of a list that falls, the first k have the greatest sum. -/
theorem greatest (f : Int → Int) : ∀ (S : List Int), S.Pairwise (fun a b => f b ≤ f a) → (∀ x ∈ S, 0 ≤ f x) → ∀ (k : Nat) (l : List Int), l.Nodup → (∀ x ∈ l, x ∈ S) → l.length ≤ k → (l.map f).sum ≤ ((S.take k).map f).sum
  | [], _, _, k, l, _, hs, _ => by
    have : l = [] := List.eq_nil_iff_forall_not_mem.2 (fun x hx => by have := hs x hx; simp at this)
    subst this; simp
  | s :: S, hp, h0, 0, l, _, _, hl => by
    have : l = [] := List.eq_nil_of_length_eq_zero (by omega)
    subst this; simp
  | s :: S, hp, h0, k + 1, l, hn, hs, hl => by
    obtain ⟨p1, p2⟩ := List.pairwise_cons.1 hp
    have g0 : ∀ x ∈ S, 0 ≤ f x := fun x hx => h0 x (by simp [hx])
    rw [List.take_succ_cons, List.map_cons, List.sum_cons]
    by_cases hsl : s ∈ l
    · rw [sum_erase f hsl]
      have ih := greatest f S p2 g0 k (l.erase s) (hn.sublist List.erase_sublist) (fun x hx => by
        have hx2 := (List.Nodup.mem_erase_iff hn).1 hx
        exact (List.mem_cons.1 (hs x hx2.2)).resolve_left hx2.1) (by rw [List.length_erase_of_mem hsl]; omega)
      omega
    · have hS : ∀ x ∈ l, x ∈ S := fun x hx => (List.mem_cons.1 (hs x hx)).resolve_left (fun e => hsl (e ▸ hx))
      cases l with
      | nil =>
        simp
        have := h0 s (by simp)
        have ih := greatest f S p2 g0 k [] List.nodup_nil (fun x hx => by simp at hx) (by simp)
        simp at ih
        omega
      | cons x r =>
        have ih := greatest f S p2 g0 k r (List.nodup_cons.1 hn).2 (fun y hy => hS y (by simp [hy])) (by simp at hl; omega)
        have := p1 x (hS x (by simp))
        simp only [List.map_cons, List.sum_cons]
        omega

theorem topAll_falls (zs : List Int) : (topAll zs).Pairwise (fun a b => shr zs b ≤ shr zs a) :=
  (topAll_sorted zs).imp (fun h => by unfold ltK shKey at h; unfold shr; omega)
/-- Channels, as many or fewer, whichever they are. -/
theorem topS_greatest {zs : List Int} (h0 : ∀ z ∈ zs, 0 ≤ z) (k : Nat) {l : List Int} (hn : l.Nodup) (hs : ∀ x ∈ l, 0 ≤ x ∧ x < zs.length) (hl : l.length ≤ k) : (atL zs l).sum ≤ topS zs k := by
  refine greatest (shr zs) (topAll zs) (topAll_falls zs) (fun x hx => ?_) k l hn (fun x hx => topAll_mem.2 (hs x hx)) hl
  obtain ⟨x1, x2⟩ := topAll_mem.1 hx
  unfold shr
  have hlt : x.toNat < zs.length := by omega
  have := h0 zs[x.toNat] (List.getElem_mem hlt)
  simpa [List.getD, hlt] using this

theorem topS_zero (zs : List Int) : topS zs 0 = 0 := by simp [topS, topL, atL]
theorem topS_succ {zs : List Int} {k : Nat} (h : k < zs.length) : topS zs (k + 1) = topS zs k + shr zs ((topAll zs).getD k 0) := by
  unfold topS topL
  rw [atL_take_succ (by rw [topAll_length]; exact h)]
  rfl
theorem topS_all {zs : List Int} {k : Nat} (h : zs.length ≤ k) : topS zs k = topS zs zs.length := by
  unfold topS topL
  rw [List.take_of_length_le (by rw [topAll_length]; exact h), List.take_of_length_le (by rw [topAll_length]; exact Nat.le_refl _)]
theorem topS_nonneg {zs : List Int} (h : shIn zs) (k : Nat) : 0 ≤ topS zs k := (atL_sum_bounds h _).1
theorem topS_mono {zs : List Int} (h0 : ∀ z ∈ zs, 0 ≤ z) {k m : Nat} (h : k ≤ m) : topS zs k ≤ topS zs m :=
  topS_greatest h0 m (topL_nodup zs k) (fun x hx => topL_mem hx) (by rw [topL_length]; omega)

/-- The sum of some channels, when one share has changed. -/
theorem atL_set {zs : List Int} {c : Nat} {x : Int} (hc : c < zs.length) : ∀ {l : List Int}, l.Nodup → (∀ i ∈ l, 0 ≤ i) →
    (atL (zs.set c x) l).sum = (atL zs l).sum + if (c : Int) ∈ l then x - zs.getD c 0 else 0
  | [], _, _ => by simp [atL]
  | i :: r, hn, h0 => by
    obtain ⟨n1, n2⟩ := List.nodup_cons.1 hn
    have ih := atL_set hc n2 (fun j hj => h0 j (by simp [hj])) (x := x)
    have hi := h0 i (by simp)
    unfold atL at ih ⊢
    simp only [List.map_cons, List.sum_cons, ih]
    have e : (zs.set c x).getD i.toNat 0 = if i.toNat = c then x else zs.getD i.toNat 0 := by
      simp only [List.getD_eq_getElem?_getD, List.getElem?_set]
      by_cases h : c = i.toNat
      · subst h; simp [hc]
      · simp [h, Ne.symm h]
    rw [e]
    by_cases h : i.toNat = c
    · have hic : (c : Int) = i := by omega
      rw [if_pos h, hic, if_neg n1, if_pos (by simp), h]; omega
    · have hic : ¬ (c : Int) = i := by omega
      rw [if_neg h]
      by_cases hr : (c : Int) ∈ r
      · rw [if_pos hr, if_pos (by simp [hr])]; omega
      · rw [if_neg hr, if_neg (by simp [hr, hic])]; omega
theorem set_nonneg {zs : List Int} (h0 : ∀ z ∈ zs, 0 ≤ z) (c : Nat) {x : Int} (hx : 0 ≤ x) : ∀ z ∈ zs.set c x, 0 ≤ z := fun z hz => by
  rcases List.mem_or_eq_of_mem_set hz with g | g
  · exact h0 z g
  · omega
/-- A share that falls by d: the sum falls by 0 to d. -/
theorem topS_less {zs : List Int} (h0 : ∀ z ∈ zs, 0 ≤ z) {c : Nat} (hc : c < zs.length) {x : Int} (hx : 0 ≤ x) (hxz : x ≤ zs.getD c 0) (k : Nat) :
    topS (zs.set c x) k ≤ topS zs k ∧ topS zs k - (zs.getD c 0 - x) ≤ topS (zs.set c x) k := by
  have hl : (zs.set c x).length = zs.length := List.length_set
  constructor
  · have h1 : topS (zs.set c x) k = (atL (zs.set c x) (topL (zs.set c x) k)).sum := rfl
    rw [h1, atL_set hc (topL_nodup _ _) (fun i hi => (topL_mem hi).1)]
    have h2 := topS_greatest h0 k (topL_nodup (zs.set c x) k) (fun i hi => by have := topL_mem hi; rw [hl] at this; exact this) (by rw [topL_length]; omega)
    split <;> omega
  · have h2 := topS_greatest (set_nonneg h0 c hx) k (topL_nodup zs k) (fun i hi => by rw [hl]; exact topL_mem hi) (by rw [topL_length]; omega)
    rw [atL_set hc (topL_nodup _ _) (fun i hi => (topL_mem hi).1)] at h2
    have h1 : topS zs k = (atL zs (topL zs k)).sum := rfl
    split at h2 <;> omega

end Go.Proofs.Ytmjckadaiikapaa
