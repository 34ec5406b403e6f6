/-
  Plain facts on heights and colours of spans.
-/
import Derived.Test.YtbafhmlmibjgpaaColG
import Derived.Test.YtbafhmlmibjgpaaColC
namespace Go.Proofs.Ytbafhmlmibjgpaa
set_option linter.unusedSimpArgs false
set_option linter.unusedVariables false

theorem snoc_ind {α : Type} {p : List α → Prop} (h0 : p []) (h1 : ∀ l x, p l → p (l ++ [x])) (l : List α) : p l := by
  have h : ∀ m : List α, p m.reverse := fun m => by
    induction m with
    | nil => exact h0
    | cons x m ih => rw [List.reverse_cons]; exact h1 _ _ ih
  have := h l.reverse
  rwa [List.reverse_reverse] at this
theorem sum_len {α : Type} (p : α → Bool) (a b : List α) : ((a ++ b).filter p).length = (a.filter p).length + (b.filter p).length := by rw [List.filter_append, List.length_append]

/-- Spans as they should be. -/
def OkS (l : List SpV) : Prop := ∀ x ∈ l, 0 ≤ x.1 ∧ x.1 < x.2 ∧ x.2 ≤ 1000000000
theorem chkE_ok {l : List SpV} (h : chkE l = 0) : OkS l ∧ l.length ≤ 3000 := by
  unfold chkE at h
  by_cases h1 : 3000 < l.length
  · rw [if_pos h1] at h; omega
  · rw [if_neg h1] at h
    by_cases h2 : l.any wrB = true
    · rw [if_pos h2] at h; omega
    · refine ⟨fun x hx => ?_, by omega⟩
      have h3 : wrB x = false := by
        cases hw : wrB x with
        | false => rfl
        | true => exact absurd (List.any_eq_true.2 ⟨x, hx, hw⟩) h2
      simp [wrB] at h3
      omega
theorem OkS.at {l : List SpV} (h : OkS l) {i : Int} (h0 : 0 ≤ i) (h1 : i < l.length) : 0 ≤ frP l i ∧ frP l i < unP l i ∧ unP l i ≤ 1000000000 := by
  have hi : i.toNat < l.length := by omega
  have := h (l[i.toNat]) (List.getElem_mem hi)
  unfold frP unP
  simp only [List.getD, List.getElem?_eq_getElem hi, Option.getD_some]
  exact this

def oL (l : List SpV) (k : Nat) : Int := (ordL l).getD k 0
theorem oL_in {l : List SpV} {k : Nat} (hk : k < l.length) : 0 ≤ oL l k ∧ oL l k < l.length := by
  have h : k < (ordL l).length := by rw [ordL_length]; exact hk
  refine ordL_mem.1 ?_
  unfold oL
  simp [List.getD, h]
theorem oL_lt {l : List SpV} {j k : Nat} (hj : j < k) (hk : k < l.length) : ltK (frP l) (oL l j) (oL l k) := by
  have h := ordL_sorted l
  rw [List.pairwise_iff_getElem] at h
  have h1 : k < (ordL l).length := by rw [ordL_length]; exact hk
  have h2 : j < (ordL l).length := by omega
  have := h j k h2 h1 hj
  unfold oL
  simpa [List.getD, h1, h2] using this
theorem oL_fr {l : List SpV} {j k : Nat} (hj : j ≤ k) (hk : k < l.length) : frP l (oL l j) ≤ frP l (oL l k) := by
  rcases Nat.lt_or_eq_of_le hj with h | h
  · have := oL_lt h hk
    unfold ltK at this; omega
  · rw [h]; exact Int.le_refl _
theorem oL_inj {l : List SpV} {j k : Nat} (hj : j < l.length) (hk : k < l.length) (h : oL l j = oL l k) : j = k := by
  rcases Nat.lt_trichotomy j k with h1 | h1 | h1
  · have := oL_lt h1 hk; rw [h] at this; unfold ltK at this; omega
  · exact h1
  · have := oL_lt h1 hj; rw [h] at this; unfold ltK at this; omega
theorem oL_onto {l : List SpV} {i : Int} (h0 : 0 ≤ i) (h1 : i < l.length) : ∃ k, k < l.length ∧ oL l k = i := by
  have hm : i ∈ ordL l := ordL_mem.2 ⟨h0, h1⟩
  obtain ⟨k, hk, e⟩ := List.getElem_of_mem hm
  refine ⟨k, by rw [← ordL_length]; exact hk, ?_⟩
  unfold oL
  simp [List.getD, hk, e]
theorem ord_take_succ {l : List SpV} {k : Nat} (hk : k < l.length) : (ordL l).take (k + 1) = (ordL l).take k ++ [oL l k] := by
  have h : k < (ordL l).length := by rw [ordL_length]; exact hk
  rw [List.take_succ_eq_append_getElem h]
  unfold oL
  simp [List.getD, h]
theorem mem_take {l : List SpV} {k : Nat} (hk : k ≤ l.length) {i : Int} : i ∈ (ordL l).take k ↔ ∃ j, j < k ∧ oL l j = i := by
  constructor
  · intro h
    obtain ⟨j, hj, e⟩ := List.getElem_of_mem h
    rw [List.length_take, ordL_length] at hj
    refine ⟨j, by omega, ?_⟩
    have hj2 : j < (ordL l).length := by rw [ordL_length]; omega
    unfold oL
    simp [List.getD, hj2] at e ⊢
    exact e
  · rintro ⟨j, hj, rfl⟩
    have hj2 : j < (ordL l).length := by rw [ordL_length]; omega
    have : oL l j = ((ordL l).take k)[j]'(by rw [List.length_take]; omega) := by
      unfold oL
      simp [List.getD, hj2]
    rw [this]
    exact List.getElem_mem _
theorem mem_drop {l : List SpV} {k : Nat} {i : Int} (h : i ∈ (ordL l).drop k) : ∃ j, k ≤ j ∧ j < l.length ∧ oL l j = i := by
  obtain ⟨j, hj, e⟩ := List.getElem_of_mem h
  rw [List.length_drop, ordL_length] at hj
  have hj2 : k + j < (ordL l).length := by rw [ordL_length]; omega
  refine ⟨k + j, by omega, by omega, ?_⟩
  unfold oL
  simp [List.getD, hj2] at e ⊢
  exact e

/-- How many spans have a number. -/
def cntP (l : List SpV) (t : Int) : Nat := (onL l t).length
theorem cnt_ord (l : List SpV) (t : Int) : ((ordL l).filter (hasP l t)).length = cntP l t := ((ordL_perm l).filter (hasP l t)).length_eq

theorem htE_past {l : List SpV} : ∀ k t, k ≤ l.length → (∀ j, j < k → frP l (oL l j) ≤ t) → (htE l k).filter (beyP t) = (((ordL l).take k).filter (fun i => decide (t < unP l i))).map (unP l)
  | 0, _, _, _ => by simp [htE]
  | k + 1, t, hk, h => by
    have ih := htE_past k t (by omega) (fun j hj => h j (by omega))
    have e : htE l (k + 1) = (htE l k).filter (beyP (frP l (oL l k))) ++ [unP l (oL l k)] := htE_succ (by omega)
    have ht := h k (by omega)
    rw [e, List.filter_append, List.filter_filter, ord_take_succ (by omega), List.filter_append, List.map_append, ← ih]
    congr 1
    · refine List.filter_congr (fun x _ => ?_)
      simp only [beyP, Bool.and_eq_left_iff_imp, decide_eq_true_eq]
      omega
    · by_cases hu : t < unP l (oL l k) <;> simp [beyP, hu]
theorem htE_len {l : List SpV} (ho : OkS l) {k : Nat} (hk : k < l.length) : (htE l (k + 1)).length = (((ordL l).take (k + 1)).filter (hasP l (frP l (oL l k)))).length := by
  have hs : ∀ j, j < k + 1 → frP l (oL l j) ≤ frP l (oL l k) := fun j hj => oL_fr (by omega) hk
  have e : htE l (k + 1) = (htE l k).filter (beyP (frP l (oL l k))) ++ [unP l (oL l k)] := htE_succ hk
  have hu := (ho.at (oL_in hk).1 (oL_in hk).2).2.1
  have e2 : (htE l (k + 1)).filter (beyP (frP l (oL l k))) = htE l (k + 1) := by
    rw [e, List.filter_append, List.filter_filter]
    congr 1
    · refine List.filter_congr (fun x _ => ?_)
      simp
    · simp [beyP, hu]
  rw [← e2, htE_past (k + 1) _ (by omega) hs, List.length_map]
  congr 1
  refine List.filter_congr (fun i hi => ?_)
  obtain ⟨j, hj, rfl⟩ := (mem_take (by omega)).1 hi
  have := hs j hj
  simp [hasP, this]
theorem drop_none {l : List SpV} {k : Nat} {t : Int} (h : ∀ j, k ≤ j → j < l.length → t < frP l (oL l j)) : ((ordL l).drop k).filter (hasP l t) = [] := by
  rw [List.filter_eq_nil_iff]
  intro i hi
  obtain ⟨j, h1, h2, rfl⟩ := mem_drop hi
  have := h j h1 h2
  simp [hasP]; omega
theorem htN_next {l : List SpV} {k : Nat} (hk : k < l.length) (h : htN l k = false) {j : Nat} (h1 : k + 1 ≤ j) (h2 : j < l.length) : frP l (oL l k) < frP l (oL l j) := by
  have h3 : frP l (oL l (k + 1)) ≠ frP l (oL l k) := fun e => by
    unfold htN at h
    rw [Bool.and_eq_false_iff] at h
    rcases h with h | h
    · simp at h; omega
    · rw [beq_eq_false_iff_ne] at h; exact h e
  have h4 := oL_fr (show k ≤ k + 1 by omega) (show k + 1 < l.length by omega)
  have h5 := oL_fr h1 h2
  omega
theorem htX_eq {l : List SpV} (ho : OkS l) {k : Nat} (hk : k < l.length) (h : htN l k = false) : htX l k = (frP l (oL l k), (cntP l (frP l (oL l k)) : Int)) := by
  have e : (htE l (k + 1)).length = cntP l (frP l (oL l k)) := by
    rw [htE_len ho hk, ← cnt_ord, show (ordL l).filter (hasP l (frP l (oL l k))) = ((ordL l).take (k + 1) ++ (ordL l).drop (k + 1)).filter (hasP l (frP l (oL l k))) by rw [List.take_append_drop], sum_len, drop_none (fun j h1 h2 => htN_next hk h h1 h2)]
    rfl
  unfold htX
  rw [e]
  rfl

theorem htY_succ (l : List SpV) (k : Nat) : htY l (k + 1) = htY l k ++ (if htN l k then [] else [htX l k]) := rfl
/-- What is told. -/
theorem htY_mem {l : List SpV} (ho : OkS l) : ∀ k, k ≤ l.length → ∀ x ∈ htY l k, ∃ j, j < k ∧ x = (frP l (oL l j), (cntP l (frP l (oL l j)) : Int)) ∧ htN l j = false
  | 0, _, x, hx => by simp [htY] at hx
  | k + 1, hk, x, hx => by
    rw [htY_succ, List.mem_append] at hx
    rcases hx with hx | hx
    · obtain ⟨j, h1, h2⟩ := htY_mem ho k (by omega) x hx
      exact ⟨j, by omega, h2⟩
    · cases hn : htN l k with
      | true => rw [hn] at hx; simp at hx
      | false =>
        rw [hn] at hx
        simp at hx
        exact ⟨k, by omega, by rw [hx, htX_eq ho (by omega) hn], hn⟩
theorem htY_sorted {l : List SpV} (ho : OkS l) : ∀ k, k ≤ l.length → (htY l k).Pairwise (fun x y => x.1 < y.1)
  | 0, _ => by simp [htY]
  | k + 1, hk => by
    rw [htY_succ]
    have ih := htY_sorted ho k (by omega)
    cases hn : htN l k with
    | true => simpa using ih
    | false =>
      rw [List.pairwise_append]
      refine ⟨ih, by simp, fun x hx y hy => ?_⟩
      simp at hy
      subst hy
      obtain ⟨j, hj, rfl, hjn⟩ := htY_mem ho k (by omega) x hx
      rw [htX_eq ho (by omega) hn]
      exact htN_next (by omega) hjn (by omega) (by omega)
theorem htY_has {l : List SpV} (ho : OkS l) : ∀ d j, j + d + 1 = l.length → (frP l (oL l j), (cntP l (frP l (oL l j)) : Int)) ∈ htY l l.length
  | 0, j, h => by
    have hn : htN l j = false := by
      unfold htN
      rw [Bool.and_eq_false_iff]; left; simp; omega
    simp only [Nat.add_zero] at h
    rw [← h, htY_succ, hn, htX_eq ho (by omega) hn]
    simp
  | d + 1, j, h => by
    cases hn : htN l j with
    | true =>
      have e : frP l (oL l (j + 1)) = frP l (oL l j) := by
        unfold htN at hn
        rw [Bool.and_eq_true] at hn
        exact beq_iff_eq.1 hn.2
      have ih := htY_has ho d (j + 1) (by omega)
      rw [e] at ih
      exact ih
    | false =>
      have h1 := htY_prefix l (j + 1) (d + 1)
      rw [show j + 1 + (d + 1) = l.length by omega] at h1
      refine h1.subset ?_
      rw [htY_succ, hn, htX_eq ho (by omega) hn]
      simp
theorem htY_at {l : List SpV} (ho : OkS l) {i : Int} (h0 : 0 ≤ i) (h1 : i < l.length) : (frP l i, (cntP l (frP l i) : Int)) ∈ htY l l.length := by
  obtain ⟨k, hk, rfl⟩ := oL_onto h0 h1
  exact htY_has ho (l.length - k - 1) k (by omega)

theorem onL_mem {l : List SpV} {t i : Int} : i ∈ onL l t ↔ 0 ≤ i ∧ i < l.length ∧ hasP l t i = true := by
  unfold onL onK
  rw [List.mem_filter, mem_upto]
  constructor <;> (intro h; simp_all)
theorem onL_nodup (l : List SpV) (t : Int) : (onL l t).Nodup := (upto_nodup _).filter _
theorem cnt_pos {l : List SpV} (ho : OkS l) {i : Int} (h0 : 0 ≤ i) (h1 : i < l.length) : 1 ≤ cntP l (frP l i) := by
  have hm : i ∈ onL l (frP l i) := onL_mem.2 ⟨h0, h1, by have := ho.at h0 h1; simp [hasP]; omega⟩
  unfold cntP
  exact List.length_pos_of_mem hm
/-- The span with the latest beginning, of a list that is not empty. -/
theorem top_fr (l : List SpV) : ∀ zs : List Int, zs ≠ [] → ∃ i ∈ zs, ∀ j ∈ zs, frP l j ≤ frP l i
  | [], h => absurd rfl h
  | [z], _ => ⟨z, by simp, fun j hj => by simp at hj; subst hj; exact Int.le_refl _⟩
  | z :: y :: r, _ => by
    obtain ⟨i, hi, h⟩ := top_fr l (y :: r) (by simp)
    by_cases hz : frP l i ≤ frP l z
    · exact ⟨z, by simp, fun j hj => by
        rcases List.mem_cons.1 hj with rfl | hj
        · exact Int.le_refl _
        · have := h j hj; omega⟩
    · exact ⟨i, List.mem_cons_of_mem _ hi, fun j hj => by
        rcases List.mem_cons.1 hj with rfl | hj
        · omega
        · exact h j hj⟩
/-- A height is none, or at most that at a beginning not later. -/
theorem cnt_start (l : List SpV) (t : Int) : cntP l t = 0 ∨ ∃ i : Int, 0 ≤ i ∧ i < l.length ∧ frP l i ≤ t ∧ cntP l t ≤ cntP l (frP l i) := by
  by_cases h : onL l t = []
  · left; unfold cntP; rw [h]; rfl
  · right
    obtain ⟨i, hi, hmax⟩ := top_fr l _ h
    obtain ⟨h0, h1, h2⟩ := onL_mem.1 hi
    simp only [hasP, Bool.and_eq_true, decide_eq_true_eq] at h2
    refine ⟨i, h0, h1, h2.1, ?_⟩
    refine List.Nodup.length_le_of_subset (onL_nodup l t) (fun j hj => ?_)
    have := hmax j hj
    obtain ⟨g0, g1, g2⟩ := onL_mem.1 hj
    simp only [hasP, Bool.and_eq_true, decide_eq_true_eq] at g2
    refine onL_mem.2 ⟨g0, g1, ?_⟩
    simp only [hasP, Bool.and_eq_true, decide_eq_true_eq]
    omega

/-- The least number with the greatest height, as the program looks for it. -/
def clqF (s x : Int × Int) : Int × Int := if s.2 < x.2 then x else s
def clqL (l : List SpV) : Int × Int := (htY l l.length).foldl clqF (0, 0)
theorem clq_fold : ∀ ys : List (Int × Int), ys.Pairwise (fun x y => x.1 < y.1) → (∀ y ∈ ys, 1 ≤ y.2) →
    (ys = [] ∧ ys.foldl clqF (0, 0) = (0, 0)) ∨ (ys.foldl clqF (0, 0) ∈ ys ∧ (∀ y ∈ ys, y.2 ≤ (ys.foldl clqF (0, 0)).2) ∧ ∀ y ∈ ys, y.1 < (ys.foldl clqF (0, 0)).1 → y.2 < (ys.foldl clqF (0, 0)).2) := by
  refine snoc_ind (fun _ _ => Or.inl ⟨rfl, rfl⟩) (fun ys x ih => ?_)
  · intro hp h1
    right
    rw [List.pairwise_append] at hp
    have hx := h1 x (by simp)
    have ih := ih hp.1 (fun y hy => h1 y (by simp [hy]))
    rw [List.foldl_append, List.foldl_cons, List.foldl_nil]
    obtain ⟨s, hs⟩ : ∃ s, ys.foldl clqF (0, 0) = s := ⟨_, rfl⟩
    rw [hs] at ih ⊢
    rcases ih with ⟨rfl, rfl⟩ | ⟨a, b, c⟩
    · have e : clqF (0, 0) x = x := by unfold clqF; rw [if_pos (by simp only []; omega)]
      rw [e]
      simp
    · by_cases hc : s.2 < x.2
      · have e : clqF s x = x := by unfold clqF; rw [if_pos hc]
        rw [e]
        refine ⟨by simp, fun y hy => ?_, fun y hy hlt => ?_⟩
        · rcases List.mem_append.1 hy with hy | hy
          · have := b y hy; omega
          · simp at hy; subst hy; exact Int.le_refl _
        · rcases List.mem_append.1 hy with hy | hy
          · have := b y hy; omega
          · simp at hy; subst hy; omega
      · have e : clqF s x = s := by unfold clqF; rw [if_neg hc]
        rw [e]
        refine ⟨by simp [a], fun y hy => ?_, fun y hy hlt => ?_⟩
        · rcases List.mem_append.1 hy with hy | hy
          · exact b y hy
          · simp at hy; subst hy; omega
        · rcases List.mem_append.1 hy with hy | hy
          · exact c y hy hlt
          · simp at hy; subst hy
            have := hp.2.2 s a y (by simp)
            omega

/-- The clique's law. -/
theorem clqL_spec {l : List SpV} (ho : OkS l) : (l = [] ∧ clqL l = (0, 0)) ∨ (0 < l.length ∧ (∃ i, 0 ≤ i ∧ i < (l.length : Int) ∧ (clqL l).1 = frP l i) ∧ (clqL l).2 = cntP l (clqL l).1 ∧ 1 ≤ (clqL l).2 ∧ (∀ t, (cntP l t : Int) ≤ (clqL l).2) ∧ ∀ t, t < (clqL l).1 → (cntP l t : Int) < (clqL l).2) := by
  have h1 : ∀ y ∈ htY l l.length, 1 ≤ y.2 := fun y hy => by
    obtain ⟨j, hj, rfl, _⟩ := htY_mem ho _ (Nat.le_refl _) y hy
    have := cnt_pos ho (oL_in hj).1 (oL_in hj).2
    simp only []; omega
  by_cases hl : l.length = 0
  · left
    have e := List.eq_nil_of_length_eq_zero hl
    subst e
    exact ⟨rfl, rfl⟩
  · right
    have h0 := htY_at ho (i := 0) (by omega) (by omega)
    rcases clq_fold _ (htY_sorted ho _ (Nat.le_refl _)) h1 with ⟨h2, _⟩ | ⟨h2, h3, h4⟩
    · rw [h2] at h0; simp at h0
    · have hd : (htY l l.length).foldl clqF (0, 0) = clqL l := rfl
      rw [hd] at h2 h3 h4
      obtain ⟨j, hj, e, _⟩ := htY_mem ho _ (Nat.le_refl _) _ h2
      have e1 : (clqL l).1 = frP l (oL l j) := by rw [e]
      have e2 : (clqL l).2 = cntP l (clqL l).1 := by rw [e]
      refine ⟨by omega, ⟨oL l j, (oL_in hj).1, (oL_in hj).2, e1⟩, e2, h1 _ h2, fun t => ?_, fun t ht => ?_⟩
      · rcases cnt_start l t with h | ⟨i, i0, i1, i2, i3⟩
        · have := h1 _ h2; omega
        · have := h3 _ (htY_at ho i0 i1)
          simp only [] at this; omega
      · rcases cnt_start l t with h | ⟨i, i0, i1, i2, i3⟩
        · have := h1 _ h2; omega
        · have := h4 _ (htY_at ho i0 i1) (by simp only []; omega)
          simp only [] at this; omega

end Go.Proofs.Ytbafhmlmibjgpaa
