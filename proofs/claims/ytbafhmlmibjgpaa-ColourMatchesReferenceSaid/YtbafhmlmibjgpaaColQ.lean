/-
  Plain facts on the colours of spans.
-/
import Derived.Test.YtbafhmlmibjgpaaColP
namespace Go.Proofs.Ytbafhmlmibjgpaa
set_option linter.unusedSimpArgs false
set_option linter.unusedVariables false

/-- The colour that is taken, when E tells where the colours' last spans end. -/
def pickC (t : Int) (E : List Int) : Nat := if idxF t E 0 < 0 then E.length else (idxF t E 0).toNat
theorem pickC_spec (t : Int) (E : List Int) : ((pickC t E < E.length ∧ E.getD (pickC t E) 0 ≤ t) ∨ pickC t E = E.length) ∧ ∀ c, c < pickC t E → t < E.getD c 0 := by
  unfold pickC
  rcases idxF_cases t E 0 with ⟨h1, h2⟩ | ⟨c, h1, h2, h3, h4⟩
  · rw [h1, if_pos (by omega)]
    exact ⟨Or.inr rfl, h2⟩
  · rw [h1, if_neg (by omega), Int.toNat_natCast, Nat.zero_add]
    exact ⟨Or.inl ⟨h2, h3⟩, h4⟩
def putE (E : List Int) (c : Nat) (u : Int) : List Int := if c = E.length then E ++ [u] else E.set c u
theorem colS_pick (l : List SpV) (E O : List Int) (i : Int) : colS l (E, O) i = (putE E (pickC (frP l i) E) (unP l i), O.set i.toNat (pickC (frP l i) E : Int)) := by
  rcases idxF_cases (frP l i) E 0 with ⟨h1, h2⟩ | ⟨c, h1, h2, h3, h4⟩
  · have e : pickC (frP l i) E = E.length := by unfold pickC; rw [h1, if_pos (by omega)]
    rw [e]
    unfold colS putE
    simp only [h1]
    rw [if_pos (by omega), if_pos trivial]
  · have e : pickC (frP l i) E = c := by unfold pickC; rw [h1, if_neg (by omega)]; omega
    rw [e]
    unfold colS putE
    simp only [h1]
    rw [if_neg (by omega), if_neg (by omega), Int.toNat_natCast, Nat.zero_add]
theorem putE_same {E : List Int} {c : Nat} (u : Int) (h : c ≤ E.length) : (putE E c u).getD c 0 = u := by
  unfold putE
  split
  · rename_i e; subst e; simp [List.getD]
  · have : c < E.length := by omega
    simp [List.getD, this]
theorem putE_other {E : List Int} {c d : Nat} (u : Int) (hd : d ≠ c) (h : d < E.length) : (putE E c u).getD d 0 = E.getD d 0 := by
  unfold putE
  split
  · simp [List.getD, h, List.getElem?_append_left]
  · simp [List.getD, List.getElem?_set, Ne.symm hd]
theorem putE_length (E : List Int) (c : Nat) (u : Int) : (putE E c u).length = if c = E.length then E.length + 1 else E.length := by
  unfold putE
  split <;> simp

def colAt (O : List Int) (i : Int) : Int := O.getD i.toNat 0
structure ColI (l : List SpV) (k : Nat) (E O : List Int) : Prop where
  len : O.length = l.length
  c1 : ∀ j, j < k → 0 ≤ colAt O (oL l j) ∧ colAt O (oL l j) < E.length ∧ unP l (oL l j) ≤ E.getD (colAt O (oL l j)).toNat 0
  c2 : ∀ c, c < E.length → ∃ j, j < k ∧ colAt O (oL l j) = c ∧ E.getD c 0 = unP l (oL l j)
  c3 : ∀ j m, j < m → m < k → frP l (oL l m) < unP l (oL l j) → colAt O (oL l j) ≠ colAt O (oL l m)
  c4 : E.length = 0 ∨ ∃ t, E.length ≤ (((ordL l).take k).filter (hasP l t)).length
theorem colAt_same {O : List Int} {i : Int} {n : Nat} (hl : O.length = n) (h0 : 0 ≤ i) (h1 : i < n) (c : Int) : colAt (O.set i.toNat c) i = c := by
  have : i.toNat < O.length := by omega
  unfold colAt
  simp [List.getD, this]
theorem colAt_other {O : List Int} {i j : Int} (h0 : 0 ≤ i) (h1 : 0 ≤ j) (h : i ≠ j) (c : Int) : colAt (O.set i.toNat c) j = colAt O j := by
  unfold colAt
  have : i.toNat ≠ j.toNat := by omega
  simp [List.getD, List.getElem?_set, this]
theorem take_len (l : List SpV) (k : Nat) (t : Int) : (((ordL l).take k).filter (hasP l t)).length ≤ (((ordL l).take (k + 1)).filter (hasP l t)).length := by
  refine (List.Sublist.filter _ ?_).length_le
  exact (List.take_prefix_take_left (by omega)).sublist

theorem ColI.step {l : List SpV} (ho : OkS l) {k : Nat} {E O : List Int} (h : ColI l k E O) (hk : k < l.length) : ColI l (k + 1) (colS l (E, O) (oL l k)).1 (colS l (E, O) (oL l k)).2 := by
  obtain ⟨i0, i1⟩ := oL_in hk
  obtain ⟨_, hu, _⟩ := ho.at i0 i1
  obtain ⟨hp, hq⟩ := pickC_spec (frP l (oL l k)) E
  rw [colS_pick]
  obtain ⟨c, hc⟩ : ∃ c, pickC (frP l (oL l k)) E = c := ⟨_, rfl⟩
  rw [hc] at hp hq
  rw [hc]
  show ColI l (k + 1) (putE E c (unP l (oL l k))) (O.set (oL l k).toNat (c : Int))
  have hcl : c ≤ E.length := by rcases hp with h | h <;> omega
  have hlen := putE_length E c (unP l (oL l k))
  have hnew : colAt (O.set (oL l k).toNat (c : Int)) (oL l k) = c := colAt_same h.len i0 i1 _
  have hold : ∀ j, j < k → colAt (O.set (oL l k).toNat (c : Int)) (oL l j) = colAt O (oL l j) := fun j hj => by
    refine colAt_other i0 (oL_in (by omega)).1 (fun e => ?_) _
    have := oL_inj hk (by omega) e
    omega
  have hgr : E.length ≤ (putE E c (unP l (oL l k))).length ∧ c < (putE E c (unP l (oL l k))).length := by
    rw [hlen]; split <;> omega
  have hfree : ∀ j, j < k → frP l (oL l k) < unP l (oL l j) → colAt O (oL l j) ≠ c := fun j hj hm e => by
    obtain ⟨g1, g2, g3⟩ := h.c1 j hj
    rw [e, Int.toNat_natCast] at g3
    rw [e] at g2
    rcases hp with ⟨_, p2⟩ | p1
    · omega
    · omega
  refine ⟨by rw [List.length_set]; exact h.len, fun j hj => ?_, fun d hd => ?_, fun j m hjm hm hmeet => ?_, ?_⟩
  · by_cases hjk : j = k
    · subst hjk
      rw [hnew]
      refine ⟨by omega, by omega, ?_⟩
      rw [Int.toNat_natCast, putE_same _ hcl]
      exact Int.le_refl _
    · have hj2 : j < k := by omega
      rw [hold j hj2]
      obtain ⟨g1, g2, g3⟩ := h.c1 j hj2
      refine ⟨g1, by omega, ?_⟩
      by_cases hcc : colAt O (oL l j) = c
      · rw [hcc, Int.toNat_natCast, putE_same _ hcl]
        rw [hcc, Int.toNat_natCast] at g3
        rw [hcc] at g2
        rcases hp with ⟨_, p2⟩ | p1
        · omega
        · omega
      · rw [putE_other _ (by omega) (by omega)]
        exact g3
  · by_cases hdc : d = c
    · subst hdc
      exact ⟨k, by omega, hnew, putE_same _ hcl⟩
    · have hd2 : d < E.length := by
        rw [hlen] at hd
        split at hd <;> omega
      obtain ⟨j, g1, g2, g3⟩ := h.c2 d hd2
      exact ⟨j, by omega, by rw [hold j g1, g2], by rw [putE_other _ hdc hd2, g3]⟩
  · by_cases hmk : m = k
    · subst hmk
      rw [hnew, hold j hjm]
      exact hfree j hjm hmeet
    · rw [hold j (by omega), hold m (by omega)]
      exact h.c3 j m hjm (by omega) hmeet
  · right
    by_cases hce : c = E.length
    · refine ⟨frP l (oL l k), ?_⟩
      rw [hlen, if_pos hce]
      have hsub : upto (E.length + 1) ⊆ (((ordL l).take (k + 1)).filter (hasP l (frP l (oL l k)))).map (colAt (O.set (oL l k).toNat (c : Int))) := fun x hx => by
        obtain ⟨x0, x1⟩ := mem_upto.1 hx
        rw [List.mem_map]
        by_cases hxe : x = E.length
        · refine ⟨oL l k, ?_, by rw [hnew, hxe, hce]⟩
          rw [List.mem_filter, mem_take (by omega)]
          exact ⟨⟨k, by omega, rfl⟩, by simp [hasP]; omega⟩
        · obtain ⟨j, g1, g2, g3⟩ := h.c2 x.toNat (by omega)
          refine ⟨oL l j, ?_, by rw [hold j g1, g2]; omega⟩
          rw [List.mem_filter, mem_take (by omega)]
          refine ⟨⟨j, by omega, rfl⟩, ?_⟩
          have q1 := hq x.toNat (by omega)
          have q2 := oL_fr (show j ≤ k by omega) hk
          simp [hasP]; omega
      have := List.Nodup.length_le_of_subset (upto_nodup _) hsub
      rwa [upto_length, List.length_map] at this
    · rcases h.c4 with h4 | ⟨t, h4⟩
      · omega
      · exact ⟨t, by rw [hlen, if_neg hce]; exact Nat.le_trans h4 (take_len l k t)⟩
theorem colK_inv {l : List SpV} (ho : OkS l) : ∀ k, k ≤ l.length → ColI l k (colK l k).1 (colK l k).2
  | 0, _ => ⟨by simp [colK], fun j hj => by omega, fun c hc => by simp [colK] at hc, fun j m h1 h2 => by omega, Or.inl (by simp [colK])⟩
  | k + 1, hk => by
    rw [colK_succ (by omega)]
    exact (colK_inv ho k (by omega)).step ho (by omega)
theorem col_inv {l : List SpV} (ho : OkS l) : ColI l l.length (colE l) (colO l) := colK_inv ho _ (Nat.le_refl _)

theorem colO_length {l : List SpV} (ho : OkS l) : (colO l).length = l.length := (col_inv ho).len
theorem colO_in {l : List SpV} (ho : OkS l) {i : Int} (h0 : 0 ≤ i) (h1 : i < l.length) : 0 ≤ colAt (colO l) i ∧ colAt (colO l) i < (colE l).length := by
  obtain ⟨k, hk, rfl⟩ := oL_onto h0 h1
  have := (col_inv ho).c1 k hk
  omega
def meetB (x y : SpV) : Bool := decide (x.1 < y.2) && decide (y.1 < x.2)
theorem col_apart {l : List SpV} (ho : OkS l) {i j : Int} (h0 : 0 ≤ i) (h1 : i < l.length) (g0 : 0 ≤ j) (g1 : j < l.length) (hne : i ≠ j) (hm : frP l i < unP l j ∧ frP l j < unP l i) : colAt (colO l) i ≠ colAt (colO l) j := by
  obtain ⟨k, hk, rfl⟩ := oL_onto h0 h1
  obtain ⟨m, hm2, rfl⟩ := oL_onto g0 g1
  rcases Nat.lt_trichotomy k m with h | h | h
  · exact (col_inv ho).c3 k m h hm2 hm.2
  · subst h; exact absurd rfl hne
  · exact fun e => (col_inv ho).c3 m k h hk hm.1 e.symm
theorem col_used {l : List SpV} (ho : OkS l) {c : Nat} (hc : c < (colE l).length) : ∃ i : Int, 0 ≤ i ∧ i < l.length ∧ colAt (colO l) i = c := by
  obtain ⟨j, h1, h2, _⟩ := (col_inv ho).c2 c hc
  exact ⟨oL l j, (oL_in h1).1, (oL_in h1).2, h2⟩
theorem colE_le {l : List SpV} : (colE l).length ≤ l.length := (colK_length l l.length (Nat.le_refl _)).1
/-- As many colours as the greatest height. -/
theorem cnt_le_col {l : List SpV} (ho : OkS l) (t : Int) : cntP l t ≤ (colE l).length := by
  have hsub : (onL l t).map (colAt (colO l)) ⊆ upto (colE l).length := fun x hx => by
    obtain ⟨i, hi, rfl⟩ := List.mem_map.1 hx
    obtain ⟨h0, h1, _⟩ := onL_mem.1 hi
    have := colO_in ho h0 h1
    exact mem_upto.2 ⟨this.1, this.2⟩
  have hnd : ((onL l t).map (colAt (colO l))).Nodup := by
    refine List.Pairwise.map _ (fun a b h => h) ?_
    have h1 := onL_nodup l t
    rw [List.Nodup, List.pairwise_iff_forall_sublist] at h1
    rw [List.pairwise_iff_forall_sublist]
    intro a b hab
    have ha := onL_mem.1 (hab.subset (List.mem_cons_self))
    have hb := onL_mem.1 (hab.subset (List.mem_cons_of_mem _ (List.mem_cons_self)))
    obtain ⟨a0, a1, a2⟩ := ha
    obtain ⟨b0, b1, b2⟩ := hb
    simp only [hasP, Bool.and_eq_true, decide_eq_true_eq] at a2 b2
    exact col_apart ho a0 a1 b0 b1 (h1 hab) ⟨by omega, by omega⟩
  have := List.Nodup.length_le_of_subset hnd hsub
  rwa [List.length_map, upto_length] at this
theorem col_le_cnt {l : List SpV} (ho : OkS l) : (colE l).length = 0 ∨ ∃ t, (colE l).length ≤ cntP l t := by
  rcases (col_inv ho).c4 with h | ⟨t, h⟩
  · exact Or.inl h
  · refine Or.inr ⟨t, ?_⟩
    rw [List.take_of_length_le (by rw [ordL_length]; exact Nat.le_refl _), cnt_ord] at h
    exact h
theorem col_clq {l : List SpV} (ho : OkS l) : ((colE l).length : Int) = (clqL l).2 ∧ (onL l (clqL l).1).length = (colE l).length := by
  rcases clqL_spec ho with ⟨rfl, e⟩ | ⟨hp, _, h2, h3, h4, _⟩
  · rw [e]
    exact ⟨rfl, rfl⟩
  · have h5 := cnt_le_col ho (clqL l).1
    have h6 : ((colE l).length : Int) ≤ (clqL l).2 := by
      rcases col_le_cnt ho with h | ⟨t, h⟩
      · omega
      · have := h4 t; omega
    have h7 : (onL l (clqL l).1).length = cntP l (clqL l).1 := rfl
    omega

/-- What is taken is the least colour that no earlier span has that is met. -/
theorem pick_used {l : List SpV} (ho : OkS l) {k : Nat} (hk : k < l.length) :
    (∀ c : Nat, c < pickC (frP l (oL l k)) (colK l k).1 → ∃ j, j < k ∧ colAt (colK l k).2 (oL l j) = c ∧ frP l (oL l k) < unP l (oL l j)) ∧
    ∀ j, j < k → frP l (oL l k) < unP l (oL l j) → colAt (colK l k).2 (oL l j) ≠ pickC (frP l (oL l k)) (colK l k).1 := by
  have h := colK_inv ho k (by omega)
  obtain ⟨hp, hq⟩ := pickC_spec (frP l (oL l k)) (colK l k).1
  obtain ⟨c, hc⟩ : ∃ c, pickC (frP l (oL l k)) (colK l k).1 = c := ⟨_, rfl⟩
  rw [hc] at hp hq ⊢
  refine ⟨fun d hd => ?_, fun j hj hm e => ?_⟩
  · obtain ⟨j, g1, g2, g3⟩ := h.c2 d (by rcases hp with h | h <;> omega)
    exact ⟨j, g1, g2, by have := hq d hd; omega⟩
  · obtain ⟨g1, g2, g3⟩ := h.c1 j hj
    rw [e, Int.toNat_natCast] at g3
    rw [e] at g2
    rcases hp with ⟨_, p2⟩ | p1
    · omega
    · omega

end Go.Proofs.Ytbafhmlmibjgpaa
