/-
  Plain facts: the best of rates in whatever order, with one left out, with another keep.
-/
import Derived.Test.YtcmodmchnokmgaaMF
namespace Go.Proofs.Ytcmodmchnokmgaa
set_option linter.unusedSimpArgs false
set_option linter.unusedVariables false
open Go.RowKit

/-- Of the first i rates, those but the k-th. -/
def lessL (l : List RateV) (k i : Nat) : List RateV := (l.take i).eraseIdx k
theorem lessL_same {l : List RateV} {k : Nat} : lessL l k (k + 1) = lessL l k k := by
  unfold lessL
  rw [List.eraseIdx_of_length_le (l := l.take k) (by simp; omega)]
  by_cases h : k < l.length
  · rw [List.take_succ_eq_append_getElem h, List.eraseIdx_append_of_length_le (by simp; omega)]
    simp
    rw [Nat.min_eq_left (by omega)]
    simp
  · rw [List.take_of_length_le (by omega), List.take_of_length_le (by omega), List.eraseIdx_of_length_le (by omega)]
theorem lessL_snoc {l : List RateV} {k i : Nat} {x : RateV} (h : l[i]? = some x) (hik : i ≠ k) : lessL l k (i + 1) = lessL l k i ++ [x] := by
  unfold lessL
  obtain ⟨hi, e⟩ := List.getElem?_eq_some_iff.1 h
  rw [List.take_succ_eq_append_getElem hi, e]
  by_cases hk : k < i
  · rw [List.eraseIdx_append_of_lt_length (by simp; omega)]
  · rw [List.eraseIdx_of_length_le (l := l.take i) (by simp; omega), List.eraseIdx_of_length_le (by simp; omega)]
theorem lessL_length (l : List RateV) (k i : Nat) : (lessL l k i).length ≤ i := by
  unfold lessL
  have := List.length_eraseIdx_le (l.take i) k
  simp at this ⊢
  omega
theorem lessL_mem {l : List RateV} {k i : Nat} {x : RateV} (h : x ∈ lessL l k i) : x ∈ l := List.mem_of_mem_take (List.mem_of_mem_eraseIdx h)
theorem backL_snoc {l : List RateV} {i : Nat} {x : RateV} (hi : i < l.length) (h : l[l.length - 1 - i]? = some x) : l.reverse.take (i + 1) = l.reverse.take i ++ [x] := by
  have hl : i < l.reverse.length := by simpa using hi
  rw [List.take_succ_eq_append_getElem hl]
  congr 2
  rw [List.getElem_reverse]
  obtain ⟨_, e⟩ := List.getElem?_eq_some_iff.1 h
  exact e
theorem valid_back (l : List RateV) : validR l.reverse = validR l := by
  unfold validR
  rw [List.length_reverse, List.all_reverse, List.map_reverse]
  congr 2
  rw [Bool.eq_iff_iff, decide_eq_true_eq, decide_eq_true_eq]
  exact (List.reverse_perm _).nodup_iff
theorem valid_less {l : List RateV} {k : Nat} (h : validR l = true) : validR (l.eraseIdx k) = true := by
  unfold validR at h ⊢
  simp only [Bool.and_eq_true, decide_eq_true_eq, List.all_eq_true] at h ⊢
  obtain ⟨h1, h2, h3⟩ := h
  refine ⟨?_, fun x hx => h2 x (List.mem_of_mem_eraseIdx hx), ?_⟩
  · have := List.length_eraseIdx_le l k; omega
  · exact h3.sublist ((List.eraseIdx_sublist l k).map _)

/-! The order of rates. -/
theorem btr_trans {a b c : RateV} (h : btr a b = true) (k : btr b c = true) : btr a c = true := by
  unfold btr at *; simp only [Bool.or_eq_true, Bool.and_eq_true, decide_eq_true_eq] at *; omega
theorem btr_asym {a b : RateV} (h : btr a b = true) : btr b a = false := by
  rw [← Bool.not_eq_true]; intro k
  unfold btr at *; simp only [Bool.or_eq_true, Bool.and_eq_true, decide_eq_true_eq] at *; omega
theorem btr_total {a b : RateV} (h : a.id ≠ b.id) (k : btr a b = false) : btr b a = true := by
  rw [← Bool.not_eq_true] at k
  unfold btr at *; simp only [Bool.or_eq_true, Bool.and_eq_true, decide_eq_true_eq] at *; omega
def bst (l : List RateV) : Option RateV := l.foldl upd1 none
theorem bst_snoc (l : List RateV) (r : RateV) : bst (l ++ [r]) = upd1 (bst l) r := by unfold bst; rw [List.foldl_append]; rfl
/-- The best one: no other one is better. -/
def Top (l : List RateV) (x : RateV) : Prop := x ∈ l ∧ ∀ y ∈ l, y.id ≠ x.id → btr x y = true
theorem id_inj : ∀ {l : List RateV}, (l.map RateV.id).Nodup → ∀ {x y : RateV}, x ∈ l → y ∈ l → x.id = y.id → x = y
  | [], _, _, _, hx, _, _ => by simp at hx
  | z :: r, h, x, y, hx, hy, e => by
    rw [List.map_cons, List.nodup_cons] at h
    rcases List.mem_cons.1 hx with rfl | hx1 <;> rcases List.mem_cons.1 hy with rfl | hy1
    · rfl
    · exact (h.1 (List.mem_map.2 ⟨y, hy1, e.symm⟩)).elim
    · exact (h.1 (List.mem_map.2 ⟨x, hx1, e⟩)).elim
    · exact id_inj h.2 hx1 hy1 e
theorem bst_spec1 (l : List RateV) (r : RateV) (ih : (l.map RateV.id).Nodup → (l = [] ∧ bst l = none) ∨ ∃ x, bst l = some x ∧ Top l x) (hn : ((l ++ [r]).map RateV.id).Nodup) : ∃ x, bst (l ++ [r]) = some x ∧ Top (l ++ [r]) x := by
  rw [List.map_append, List.map_cons, List.map_nil] at hn
  have hn' := List.nodup_append.1 hn
  rw [bst_snoc]
  rcases ih hn'.1 with ⟨rfl, h0⟩ | ⟨x, hx, hm, ht⟩
  · rw [h0]
    exact ⟨r, rfl, by simp, fun y hy hne => by simp at hy; subst hy; exact (hne rfl).elim⟩
  · have hxr : x.id ≠ r.id := hn'.2.2 x.id (List.mem_map.2 ⟨x, hm, rfl⟩) r.id (by simp)
    rw [hx]
    cases hb : btr r x with
    | true =>
      refine ⟨r, by simp [upd1, hb], by simp, fun y hy hne => ?_⟩
      rcases List.mem_append.1 hy with hy | hy
      · by_cases e : y.id = x.id
        · rw [id_inj hn'.1 hy hm e]; exact hb
        · exact btr_trans hb (ht y hy e)
      · simp at hy; subst hy; exact (hne rfl).elim
    | false =>
      refine ⟨x, by simp [upd1, hb], by simp [hm], fun y hy hne => ?_⟩
      rcases List.mem_append.1 hy with hy | hy
      · exact ht y hy hne
      · simp at hy; subst hy; exact btr_total (Ne.symm hxr) hb
theorem bst_specN : ∀ (n : Nat) (l : List RateV), l.length = n → (l.map RateV.id).Nodup → (l = [] ∧ bst l = none) ∨ ∃ x, bst l = some x ∧ Top l x
  | 0, l, h, _ => Or.inl ⟨List.eq_nil_of_length_eq_zero h, by rw [List.eq_nil_of_length_eq_zero h]; rfl⟩
  | n + 1, l, h, hn => by
    rcases List.eq_nil_or_concat l with rfl | ⟨m, r, e⟩
    · simp at h
    · have e' : l = m ++ [r] := by rw [e]; try simp
      subst e'
      exact Or.inr (bst_spec1 m r (bst_specN n m (by simp at h; omega)) hn)
theorem bst_spec (l : List RateV) (hn : (l.map RateV.id).Nodup) : (l = [] ∧ bst l = none) ∨ ∃ x, bst l = some x ∧ Top l x := bst_specN _ l rfl hn
theorem bst_of {l : List RateV} (hn : (l.map RateV.id).Nodup) {x : RateV} (h : Top l x) : bst l = some x := by
  rcases bst_spec l hn with ⟨rfl, _⟩ | ⟨y, hy, hm, ht⟩
  · simp [Top] at h
  · rw [hy]
    by_cases e : y.id = x.id
    · rw [id_inj hn hm h.1 e]
    · have h1 := h.2 y hm e
      have h2 := ht x h.1 (Ne.symm e)
      rw [btr_asym h1] at h2; cases h2
theorem bst_perm {l l' : List RateV} (hp : l.Perm l') (hn : (l.map RateV.id).Nodup) : bst l = bst l' := by
  have hn' : (l'.map RateV.id).Nodup := (hp.map _).nodup_iff.1 hn
  rcases bst_spec l' hn' with ⟨rfl, h0⟩ | ⟨x, hx, hm, ht⟩
  · rw [hp.eq_nil]
  · rw [hx]
    exact bst_of hn ⟨hp.mem_iff.2 hm, fun y hy hne => ht y (hp.mem_iff.1 hy) hne⟩
/-- The rates that apply. -/
def appF (a : AskV) (nt : Int) (l : List RateV) : List RateV := l.filter (fun r => (appl r a nt).1)
theorem bestR_ok (a : AskV) (nt : Int) : ∀ (l : List RateV) (b : Option RateV), (∀ r ∈ l, (appl r a nt).2 = 0) → bestR a nt b l = ((appF a nt l).foldl upd1 b, 0)
  | [], b, _ => rfl
  | r :: l, b, h => by
    unfold bestR
    rw [if_neg (by rw [h r (by simp)]; simp), bestR_ok a nt l _ (fun x hx => h x (by simp [hx]))]
    unfold appF
    rw [List.filter_cons]
    cases (appl r a nt).1 <;> rfl
theorem bestR_err (a : AskV) (nt : Int) : ∀ (l : List RateV) (b : Option RateV), (∃ r ∈ l, (appl r a nt).2 ≠ 0) → (bestR a nt b l).2 ≠ 0
  | [], b, ⟨r, h, _⟩ => by simp at h
  | r :: l, b, h => by
    unfold bestR
    by_cases h0 : (appl r a nt).2 ≠ 0
    · rw [if_pos h0]; exact h0
    · rw [if_neg h0]
      obtain ⟨x, hx, he⟩ := h
      rcases List.mem_cons.1 hx with rfl | hx
      · exact (h0 he).elim
      · exact bestR_err a nt l _ ⟨x, hx, he⟩
theorem appF_sub (a : AskV) (nt : Int) (l : List RateV) : (appF a nt l).Sublist l := List.filter_sublist
theorem appF_nodup {a : AskV} {nt : Int} {l : List RateV} (hn : (l.map RateV.id).Nodup) : ((appF a nt l).map RateV.id).Nodup := hn.sublist ((appF_sub a nt l).map _)
/-- The price by the best of the rates that apply. -/
def outB (a : AskV) (nt : Int) (b : Option RateV) : Int × Option RateV × Int := match b with
  | none => (0, none, 4)
  | some r => if (costR a nt r).2 ≠ 0 then (0, none, (costR a nt r).2) else ((costR a nt r).1, some r, 0)
theorem priceN_ok {l : List RateV} {a : AskV} {nt : Int} (h : ∀ r ∈ l, (appl r a nt).2 = 0) : priceN l a nt = outB a nt (bst (appF a nt l)) := by
  unfold priceN
  rw [bestR_ok a nt l none h, if_neg (by simp)]
  rfl
theorem priceN_err {l : List RateV} {a : AskV} {nt : Int} (h : ∃ r ∈ l, (appl r a nt).2 ≠ 0) : (priceN l a nt).2.2 ≠ 0 := by
  have := bestR_err a nt l none h
  unfold priceN
  rw [if_pos this]
  exact this
theorem priceN_noerr {l : List RateV} {a : AskV} {nt : Int} (h : (priceN l a nt).2.2 = 0) : ∀ r ∈ l, (appl r a nt).2 = 0 := fun r hr => by
  by_cases e : (appl r a nt).2 = 0
  · exact e
  · exact (priceN_err ⟨r, hr, e⟩ h).elim
theorem priceN_zero {l : List RateV} {a : AskV} {nt : Int} (h : (priceN l a nt).2.2 ≠ 0) : (priceN l a nt).1 = 0 ∧ (priceN l a nt).2.1 = none := by
  unfold priceN at h ⊢
  split
  · exact ⟨rfl, rfl⟩
  · rename_i h1
    rw [if_neg h1] at h
    split
    · exact ⟨rfl, rfl⟩
    · rename_i r hr
      rw [hr] at h
      simp only at h
      split
      · exact ⟨rfl, rfl⟩
      · rename_i h2
        rw [if_neg h2] at h
        simp at h
theorem priceN_perm {l l' : List RateV} (hp : l.Perm l') (hn : (l.map RateV.id).Nodup) {a : AskV} {nt : Int} (h : (priceN l a nt).2.2 = 0) : priceN l' a nt = priceN l a nt := by
  have h1 := priceN_noerr h
  rw [priceN_ok h1, priceN_ok (fun r hr => h1 r (hp.mem_iff.2 hr))]
  unfold appF
  rw [bst_perm (hp.filter _) (appF_nodup hn)]

/-! Stays. -/
theorem errT_ok {l : List RateV} {a : AskV} : ∀ {M : Nat}, errT l a M = 0 ↔ ∀ j, j < M → (cstJ l a j).2.2 = 0
  | 0 => ⟨fun _ j hj => by omega, fun _ => rfl⟩
  | M + 1 => by
    unfold errT
    constructor
    · intro h j hj
      split at h
      · rename_i h1; exact (h1 h).elim
      · rename_i h1
        rcases Nat.lt_or_ge j M with h2 | h2
        · exact errT_ok.1 (by simpa using h1) j h2
        · obtain rfl : j = M := by omega
          exact h
    · intro h
      have h1 : errT l a M = 0 := errT_ok.2 (fun j hj => h j (by omega))
      rw [if_neg (by rw [h1]; simp)]
      exact h M (by omega)
theorem sumT_congr {f g : Nat → Int} : ∀ {M : Nat}, (∀ j, j < M → f j = g j) → sumT f M = sumT g M
  | 0, _ => rfl
  | M + 1, h => by unfold sumT; rw [sumT_congr (fun j hj => h j (by omega)), h M (by omega)]
theorem cstL_congr {l l' : List RateV} {a : AskV} {M : Nat} (h : ∀ j, j < M → (cstJ l a j).1 = (cstJ l' a j).1) : cstL l a M = cstL l' a M := by
  unfold cstL
  refine List.map_congr_left fun j hj => h j (by simpa using hj)
theorem priceV_bad {l : List RateV} {a : AskV} (h : (priceV l a).2.2 ≠ 0) : (priceV l a).1 = [] ∧ (priceV l a).2.1 = 0 := by
  unfold priceV at h ⊢
  split
  · rename_i h1
    rw [if_pos h1] at h
    split
    · exact ⟨rfl, rfl⟩
    · rename_i h2
      rw [if_neg h2] at h
      split
      · exact ⟨rfl, rfl⟩
      · rename_i h3
        rw [if_neg h3] at h
        simp at h
  · exact ⟨rfl, rfl⟩
theorem priceV_ok {l : List RateV} {a : AskV} (h : (priceV l a).2.2 = 0) : validR l = true ∧ askB a = true ∧ (∀ j, j < a.len → (cstJ l a j).2.2 = 0) ∧ sumT (fun j => (cstJ l a j).1) a.len ≤ 1000000000 ∧ priceV l a = (cstL l a a.len, sumT (keepJ l a) a.len, 0) := by
  unfold priceV at h ⊢
  split at h
  · rename_i h1
    rw [if_pos h1]
    simp only [Bool.and_eq_true] at h1
    split at h
    · rename_i h2; exact (h2 h).elim
    · rename_i h2
      rw [if_neg h2]
      split at h
      · simp at h
      · rename_i h3
        rw [if_neg h3]
        exact ⟨h1.1, h1.2, errT_ok.1 (by simpa using h2), by omega, rfl⟩
  · simp at h
theorem priceV_of {l : List RateV} {a : AskV} (hv : validR l = true) (ha : askB a = true) (he : ∀ j, j < a.len → (cstJ l a j).2.2 = 0) (hs : sumT (fun j => (cstJ l a j).1) a.len ≤ 1000000000) : priceV l a = (cstL l a a.len, sumT (keepJ l a) a.len, 0) := by
  unfold priceV
  rw [if_pos (by rw [hv, ha]; rfl), if_neg (by rw [errT_ok.2 he]; simp), if_neg (by omega)]
theorem validR_nodup {l : List RateV} (h : validR l = true) : (l.map RateV.id).Nodup := by
  unfold validR at h
  simp only [Bool.and_eq_true, decide_eq_true_eq] at h
  exact h.2.2
/-- In the opposite order. -/
theorem priceV_back1 {l : List RateV} {a : AskV} (h : (priceV l a).2.2 = 0) : priceV l.reverse a = priceV l a := by
  obtain ⟨h1, h2, h3, h4, h5⟩ := priceV_ok h
  have hc : ∀ j, j < a.len → cstJ l.reverse a j = cstJ l a j := fun j hj => priceN_perm (List.reverse_perm l).symm (validR_nodup h1) (h3 j hj)
  have hs : sumT (fun j => (cstJ l.reverse a j).1) a.len = sumT (fun j => (cstJ l a j).1) a.len := sumT_congr fun j hj => by rw [hc j hj]
  rw [h5, priceV_of (by rw [valid_back]; exact h1) h2 (fun j hj => by rw [hc j hj]; exact h3 j hj) (by rw [hs]; exact h4), cstL_congr (l := l.reverse) (l' := l) (fun j hj => by rw [hc j hj]), sumT_congr (g := keepJ l a) fun j hj => by unfold keepJ; rw [hc j hj]]
theorem priceV_back (l : List RateV) (a : AskV) : ((priceV l.reverse a).2.2 = 0 ↔ (priceV l a).2.2 = 0) ∧ (priceV l.reverse a).1 = (priceV l a).1 ∧ (priceV l.reverse a).2.1 = (priceV l a).2.1 := by
  by_cases h : (priceV l a).2.2 = 0
  · rw [priceV_back1 h]; exact ⟨Iff.rfl, rfl, rfl⟩
  · have h' : (priceV l.reverse a).2.2 ≠ 0 := fun e => by
      have := priceV_back1 e
      rw [List.reverse_reverse] at this
      rw [this] at h; exact h e
    have b1 := priceV_bad h
    have b2 := priceV_bad h'
    exact ⟨⟨fun e => (h' e).elim, fun e => (h e).elim⟩, b2.1.trans b1.1.symm, b2.2.trans b1.2.symm⟩

end Go.Proofs.Ytcmodmchnokmgaa
