/-
 Plain facts on stable sorting in place: an order by a key, lists rearranged between two places, swaps, rotations, merges. No program is in sight here.
-/
namespace Go.Proofs.YtlmajlfhjbhdpaaGreat
set_option linter.unusedSimpArgs false
set_option linter.unusedVariables false
/-- The order of a stable sort: by the key; where the keys are equal, by the number itself. -/
def ltK (key : Int → Int) (a b : Int) : Prop := key a < key b ∨ (key a = key b ∧ a < b)
theorem ltK_trans {key : Int → Int} {a b c : Int} (h1 : ltK key a b) (h2 : ltK key b c) : ltK key a c := by unfold ltK at *; omega
theorem ltK_of_lt {key : Int → Int} {a b : Int} (h : key a < key b) : ltK key a b := Or.inl h
theorem ltK_of_not {key : Int → Int} {x y : Int} (hE : y < x) (h : ¬ key x < key y) : ltK key y x := by unfold ltK; omega
theorem ltK_irrefl {key : Int → Int} {a : Int} (h : ltK key a a) : False := by unfold ltK at h; omega
/-- Sorted between two places. -/
def SrtI (key : Int → Int) (zs : List Int) (lo hi : Nat) : Prop := ∀ i j, lo ≤ i → i < j → j < hi → ltK key (zs.getD i 0) (zs.getD j 0)
/-- What lies in the first part came earlier than what lies in the second. -/
def ErlI (zs : List Int) (a m b : Nat) : Prop := ∀ i j, a ≤ i → i < m → m ≤ j → j < b → zs.getD i 0 < zs.getD j 0
/-- zs' is zs, rearranged between two places. -/
structure Rea (zs zs' : List Int) (lo hi : Nat) : Prop where
 len : zs'.length = zs.length
 out : ∀ i, ¬ (lo ≤ i ∧ i < hi) → zs'.getD i 0 = zs.getD i 0
 mem : ∀ i, lo ≤ i → i < hi → ∃ j, lo ≤ j ∧ j < hi ∧ zs'.getD i 0 = zs.getD j 0
 perm : zs'.Perm zs
theorem Rea.refl (zs : List Int) (lo hi : Nat) : Rea zs zs lo hi := ⟨rfl, fun _ _ => rfl, fun i h1 h2 => ⟨i, h1, h2, rfl⟩, .refl _⟩
theorem Rea.trans {a b c : List Int} {lo hi : Nat} (h1 : Rea a b lo hi) (h2 : Rea b c lo hi) : Rea a c lo hi := by
 refine ⟨h2.len.trans h1.len, fun i hi => (h2.out i hi).trans (h1.out i hi), fun i l h => ?_, h2.perm.trans h1.perm⟩
 obtain ⟨j, j1, j2, e1⟩ := h2.mem i l h
 obtain ⟨k, k1, k2, e2⟩ := h1.mem j j1 j2
 exact ⟨k, k1, k2, e1.trans e2⟩
theorem Rea.mono {a b : List Int} {lo hi lo' hi' : Nat} (h : Rea a b lo hi) (h1 : lo' ≤ lo) (h2 : hi ≤ hi') : Rea a b lo' hi' := by
 refine ⟨h.len, fun i hi => h.out i (by omega), fun i l hh => ?_, h.perm⟩
 by_cases hin : lo ≤ i ∧ i < hi
 ·
  obtain ⟨j, j1, j2, e⟩ := h.mem i hin.1 hin.2
  exact ⟨j, by omega, by omega, e⟩
 ·
  exact ⟨i, l, hh, h.out i hin⟩
/-- Two places exchanged. -/
def sw (zs : List Int) (i j : Nat) : List Int := (zs.set i (zs.getD j 0)).set j (zs.getD i 0)
theorem sw_len (zs : List Int) (i j : Nat) : (sw zs i j).length = zs.length := by simp [sw]
theorem sw_getD {zs : List Int} {i j : Nat} (hi : i < zs.length) (hj : j < zs.length) (k : Nat) :
  (sw zs i j).getD k 0 = if k = j then zs.getD i 0 else if k = i then zs.getD j 0 else zs.getD k 0 := by
 unfold sw
 simp only [List.getD_eq_getElem?_getD, List.getElem?_set, List.length_set]
 by_cases h1 : k = j
 ·
  subst h1; simp [hj]
 ·
  by_cases h2 : k = i
  ·
   subst h2; simp [hi, Ne.symm h1, h1]
  ·
   simp [Ne.symm h1, Ne.symm h2, h1, h2]
theorem sw_perm {zs : List Int} {i j : Nat} (hi : i < zs.length) (hj : j < zs.length) : (sw zs i j).Perm zs := by
 have h := List.set_set_perm hi hj
 unfold sw
 simpa [List.getD_eq_getElem?_getD, hi, hj] using h
/-- Where a place comes from when [a, m) and [m, b) are exchanged. -/
def rotIdx (a m b i : Nat) : Nat := if a ≤ i ∧ i < a + (b - m) then i + (m - a) else if a + (b - m) ≤ i ∧ i < b then i - (b - m) else i
structure Rot (zs zs' : List Int) (a m b : Nat) : Prop where
 len : zs'.length = zs.length
 at' : ∀ i, zs'.getD i 0 = zs.getD (rotIdx a m b i) 0
 perm : zs'.Perm zs
theorem Rot.rea {zs zs' : List Int} {a m b : Nat} (h : Rot zs zs' a m b) (h1 : a ≤ m) (h2 : m ≤ b) : Rea zs zs' a b := by
 refine ⟨h.len, fun i hi => ?_, fun i l hh => ⟨rotIdx a m b i, ?_, ?_, h.at' i⟩, h.perm⟩
 ·
  rw [h.at']; congr 1; unfold rotIdx; split
  ·
   omega
  ·
   split <;> omega
 ·
  unfold rotIdx; split
  ·
   omega
  ·
   split <;> omega
 ·
  unfold rotIdx; split
  ·
   omega
  ·
   split <;> omega
theorem Rot.same (zs : List Int) {a m b : Nat} (h : a = m ∨ m = b) : Rot zs zs a m b := by
 refine ⟨rfl, fun i => ?_, .refl _⟩
 congr 1; unfold rotIdx; split
 ·
  omega
 ·
  split <;> omega
/-- Two runs of equal length exchanged, place by place. -/
def swpIdx (a b n i : Nat) : Nat := if a ≤ i ∧ i < a + n then i + (b - a) else if b ≤ i ∧ i < b + n then i - (b - a) else i
structure Swp (zs zs' : List Int) (a b n : Nat) : Prop where
 len : zs'.length = zs.length
 at' : ∀ i, zs'.getD i 0 = zs.getD (swpIdx a b n i) 0
 perm : zs'.Perm zs
theorem Swp.zero (zs : List Int) (a b : Nat) : Swp zs zs a b 0 := by
 refine ⟨rfl, fun i => ?_, .refl _⟩
 congr 1; unfold swpIdx; split
 ·
  omega
 ·
  split <;> omega
theorem Swp.succ {zs cur : List Int} {a b k : Nat} (h : Swp zs cur a b k) (hab : a + k < b) (hb : b + k < zs.length) : Swp zs (sw cur (a + k) (b + k)) a b (k + 1) := by
 have hl := h.len
 refine ⟨(sw_len _ _ _).trans h.len, fun i => ?_, (sw_perm (by omega) (by omega)).trans h.perm⟩
 rw [sw_getD (by omega) (by omega)]
 split
 ·
  rename_i e; subst e; rw [h.at']; congr 1; unfold swpIdx; (repeat' split) <;> omega
 ·
  split
  ·
   rename_i e; subst e; rw [h.at']; congr 1; unfold swpIdx; (repeat' split) <;> omega
  ·
   rw [h.at']; congr 1; unfold swpIdx; (repeat' split) <;> omega
/-- What is still to be rotated, seen from the state at a loop's head. -/
structure RotInv (zs cur : List Int) (a m b i j : Nat) : Prop where
 len : cur.length = zs.length
 at' : ∀ k, cur.getD (rotIdx (m - i) m (m + j) k) 0 = zs.getD (rotIdx a m b k) 0
 perm : cur.Perm zs
theorem RotInv.start (zs : List Int) {a m b : Nat} (h1 : a ≤ m) (h2 : m ≤ b) : RotInv zs zs a m b (m - a) (b - m) := by
 refine ⟨rfl, fun k => ?_, .refl _⟩
 rw [show m - (m - a) = a by omega, show m + (b - m) = b by omega]
theorem RotInv.gt {zs cur nxt : List Int} {a m b i j : Nat} (h : RotInv zs cur a m b i j) (hs : Swp cur nxt (m - i) m j) (hij : j < i) (him : i ≤ m) (hj : 0 < j) : RotInv zs nxt a m b (i - j) j := by
 refine ⟨hs.len.trans h.len, fun k => ?_, hs.perm.trans h.perm⟩
 rw [hs.at', ← h.at' k]; congr 1
 unfold swpIdx rotIdx; (repeat' split) <;> omega
theorem RotInv.lt {zs cur nxt : List Int} {a m b i j : Nat} (h : RotInv zs cur a m b i j) (hs : Swp cur nxt (m - i) (m + j - i) i) (hij : i < j) (him : i ≤ m) (hi : 0 < i) : RotInv zs nxt a m b i (j - i) := by
 refine ⟨hs.len.trans h.len, fun k => ?_, hs.perm.trans h.perm⟩
 rw [hs.at', ← h.at' k]; congr 1
 unfold swpIdx rotIdx; (repeat' split) <;> omega
theorem RotInv.last {zs cur nxt : List Int} {a m b i : Nat} (h : RotInv zs cur a m b i i) (hs : Swp cur nxt (m - i) m i) (him : i ≤ m) : Rot zs nxt a m b := by
 refine ⟨hs.len.trans h.len, fun k => ?_, hs.perm.trans h.perm⟩
 rw [hs.at', ← h.at' k]; congr 1
 unfold swpIdx rotIdx; (repeat' split) <;> omega
/-- The head of the left run goes on to the right, place by place. -/
theorem Rot.right {zs cur : List Int} {a k : Nat} (h : Rot zs cur a (a + 1) (k + 1)) (hk : a ≤ k) (hl : k + 1 < zs.length) : Rot zs (sw cur k (k + 1)) a (a + 1) (k + 2) := by
 have hlen := h.len
 refine ⟨(sw_len _ _ _).trans h.len, fun i => ?_, (sw_perm (by omega) (by omega)).trans h.perm⟩
 rw [sw_getD (by omega) (by omega)]
 split
 ·
  rename_i e; subst e; rw [h.at']; congr 1; unfold rotIdx; (repeat' split) <;> omega
 ·
  split
  ·
   rename_i e; subst e; rw [h.at']; congr 1; unfold rotIdx; (repeat' split) <;> omega
  ·
   rw [h.at']; congr 1; unfold rotIdx; (repeat' split) <;> omega
/-- The head of the right run goes on to the left, place by place. -/
theorem Rot.left {zs cur : List Int} {m k : Nat} (h : Rot zs cur (k + 1) m (m + 1)) (hk : k < m) (hl : m < zs.length) : Rot zs (sw cur (k + 1) k) k m (m + 1) := by
 have hlen := h.len
 refine ⟨(sw_len _ _ _).trans h.len, fun i => ?_, (sw_perm (by omega) (by omega)).trans h.perm⟩
 rw [sw_getD (by omega) (by omega)]
 split
 ·
  rename_i e; subst e; rw [h.at']; congr 1; unfold rotIdx; (repeat' split) <;> omega
 ·
  split
  ·
   rename_i e; subst e; rw [h.at']; congr 1; unfold rotIdx; (repeat' split) <;> omega
  ·
   rw [h.at']; congr 1; unfold rotIdx; (repeat' split) <;> omega
theorem SrtI.le {key : Int → Int} {zs : List Int} {lo hi i j : Nat} (h : SrtI key zs lo hi) (h1 : lo ≤ i) (h2 : i ≤ j) (h3 : j < hi) : zs.getD i 0 = zs.getD j 0 ∨ ltK key (zs.getD i 0) (zs.getD j 0) := by
 rcases Nat.lt_or_eq_of_le h2 with h4 | h4
 ·
  exact Or.inr (h i j h1 h4 h3)
 ·
  exact Or.inl (by rw [h4])
/-- x ≼ y ≺ z ≼ u. -/
theorem ltK_chain {key : Int → Int} {x y z u : Int} (h1 : x = y ∨ ltK key x y) (h2 : ltK key y z) (h3 : z = u ∨ ltK key z u) : ltK key x u := by
 have a : ltK key x z := h1.elim (fun h => by rw [h]; exact h2) (fun h => ltK_trans h h2)
 exact h3.elim (fun h => by rw [← h]; exact a) (fun h => ltK_trans a h)
theorem SrtI.sub {key : Int → Int} {zs : List Int} {lo hi lo' hi' : Nat} (h : SrtI key zs lo hi) (h1 : lo ≤ lo') (h2 : hi' ≤ hi) : SrtI key zs lo' hi' := fun i j a b c => h i j (by omega) b (by omega)
theorem SrtI.congr {key : Int → Int} {zs zs' : List Int} {lo hi : Nat} (h : SrtI key zs lo hi) (e : ∀ i, lo ≤ i → i < hi → zs'.getD i 0 = zs.getD i 0) : SrtI key zs' lo hi := fun i j a b c => by
 rw [e i a (by omega), e j (by omega) c]; exact h i j a b c
theorem SrtI.shift {key : Int → Int} {zs zs' : List Int} {lo hi lo' hi' : Nat} (h : SrtI key zs lo hi) (f : Nat → Nat) (e : ∀ i, lo' ≤ i → i < hi' → zs'.getD i 0 = zs.getD (f i) 0)
  (hf : ∀ i, lo' ≤ i → i < hi' → lo ≤ f i ∧ f i < hi) (hm : ∀ i j, lo' ≤ i → i < j → j < hi' → f i < f j) : SrtI key zs' lo' hi' := fun i j a b c => by
 rw [e i a (by omega), e j (by omega) c]; exact h _ _ (hf i a (by omega)).1 (hm i j a b c) (hf j (by omega) c).2
/-- The left run is one element: behind it all that is less. -/
theorem merge_right {key : Int → Int} {zs zs' : List Int} {a b i : Nat} (h2 : SrtI key zs (a + 1) b) (hE : ErlI zs a (a + 1) b)
  (hi : a + 1 ≤ i) (hib : i ≤ b) (c1 : i = a + 1 ∨ key (zs.getD (i - 1) 0) < key (zs.getD a 0)) (c2 : i = b ∨ ¬ key (zs.getD i 0) < key (zs.getD a 0)) (hr : Rot zs zs' a (a + 1) i) :
  SrtI key zs' a b := by
 have lo : ∀ k, a + 1 ≤ k → k < i → ltK key (zs.getD k 0) (zs.getD a 0) := fun k k1 k2 => by
  rcases c1 with c1 | c1
  ·
   omega
  ·
   rcases h2.le k1 (show k ≤ i - 1 by omega) (by omega) with h | h
   ·
    rw [h]; exact Or.inl c1
   ·
    exact ltK_trans h (Or.inl c1)
 have up : ∀ k, i ≤ k → k < b → ltK key (zs.getD a 0) (zs.getD k 0) := fun k k1 k2 => by
  rcases c2 with c2 | c2
  ·
   omega
  ·
   have g := ltK_of_not (hE a i (by omega) (by omega) (by omega) (by omega)) c2
   rcases h2.le (show a + 1 ≤ i by omega) k1 k2 with h | h
   ·
    rw [← h]; exact g
   ·
    exact ltK_trans g h
 intro p q hp hpq hq
 rw [hr.at', hr.at']
 have e1 : rotIdx a (a + 1) i p = if p + 1 < i then p + 1 else if p + 1 = i then a else p := by unfold rotIdx; (repeat' split) <;> omega
 have e2 : rotIdx a (a + 1) i q = if q + 1 < i then q + 1 else if q + 1 = i then a else q := by unfold rotIdx; (repeat' split) <;> omega
 rw [e1, e2]
 by_cases p1 : p + 1 < i
 ·
  rw [if_pos p1]
  by_cases q1 : q + 1 < i
  ·
   rw [if_pos q1]; exact h2 _ _ (by omega) (by omega) (by omega)
  ·
   rw [if_neg q1]
   by_cases q2 : q + 1 = i
   ·
    rw [if_pos q2]; exact lo _ (by omega) p1
   ·
    rw [if_neg q2]; exact h2 _ _ (by omega) (by omega) hq
 ·
  rw [if_neg p1]
  by_cases p2 : p + 1 = i
  ·
   rw [if_pos p2, if_neg (by omega), if_neg (by omega)]; exact up _ (by omega) hq
  ·
   rw [if_neg p2, if_neg (by omega), if_neg (by omega)]; exact h2 _ _ (by omega) hpq hq
/-- The right run is one element: ahead of it all that is not greater. -/
theorem merge_left {key : Int → Int} {zs zs' : List Int} {a m i : Nat} (h1 : SrtI key zs a m) (hE : ErlI zs a m (m + 1))
  (hi : a ≤ i) (him : i ≤ m) (c1 : i = a ∨ ¬ key (zs.getD m 0) < key (zs.getD (i - 1) 0)) (c2 : i = m ∨ key (zs.getD m 0) < key (zs.getD i 0)) (hr : Rot zs zs' i m (m + 1)) :
  SrtI key zs' a (m + 1) := by
 have lo : ∀ k, a ≤ k → k < i → ltK key (zs.getD k 0) (zs.getD m 0) := fun k k1 k2 => by
  rcases c1 with c1 | c1
  ·
   omega
  ·
   have g := ltK_of_not (hE (i - 1) m (by omega) (by omega) (by omega) (by omega)) c1
   rcases h1.le k1 (show k ≤ i - 1 by omega) (by omega) with h | h
   ·
    rw [h]; exact g
   ·
    exact ltK_trans h g
 have up : ∀ k, i ≤ k → k < m → ltK key (zs.getD m 0) (zs.getD k 0) := fun k k1 k2 => by
  rcases c2 with c2 | c2
  ·
   omega
  ·
   rcases h1.le (show a ≤ i by omega) k1 k2 with h | h
   ·
    rw [← h]; exact Or.inl c2
   ·
    exact ltK_trans (Or.inl c2) h
 intro p q hp hpq hq
 rw [hr.at', hr.at']
 have e1 : rotIdx i m (m + 1) p = if p < i then p else if p = i then m else p - 1 := by unfold rotIdx; (repeat' split) <;> omega
 have e2 : rotIdx i m (m + 1) q = if q < i then q else if q = i then m else q - 1 := by unfold rotIdx; (repeat' split) <;> omega
 rw [e1, e2]
 by_cases q1 : q < i
 ·
  rw [if_pos q1, if_pos (by omega)]; exact h1 _ _ hp hpq (by omega)
 ·
  rw [if_neg q1]
  by_cases q2 : q = i
  ·
   rw [if_pos q2, if_pos (by omega)]; exact lo _ hp (by omega)
  ·
   rw [if_neg q2]
   by_cases p1 : p < i
   ·
    rw [if_pos p1]; exact h1 _ _ hp (by omega) (by omega)
   ·
    rw [if_neg p1]
    by_cases p2 : p = i
    ·
     rw [if_pos p2]; exact up _ (by omega) (by omega)
    ·
     rw [if_neg p2]; exact h1 _ _ (by omega) (by omega) (by omega)
/-- What the two halves are behind the rotation. -/
theorem merge_halves {key : Int → Int} {zs zs' : List Int} {a m b s e mid : Nat} (h1 : SrtI key zs a m) (h2 : SrtI key zs m b) (hE : ErlI zs a m b)
  (ha : a ≤ s) (hs : s ≤ m) (hm : m ≤ e) (he : e ≤ b) (hmid : mid + m = s + e) (hr : Rot zs zs' s m e) :
  SrtI key zs' a s ∧ SrtI key zs' s mid ∧ ErlI zs' a s mid ∧ SrtI key zs' mid e ∧ SrtI key zs' e b ∧ ErlI zs' mid e b := by
 have r1 : ∀ i, i < s → zs'.getD i 0 = zs.getD i 0 := fun i hi => by rw [hr.at']; congr 1; unfold rotIdx; (repeat' split) <;> omega
 have r2 : ∀ i, s ≤ i → i < mid → zs'.getD i 0 = zs.getD (i + (m - s)) 0 := fun i a1 a2 => by rw [hr.at']; congr 1; unfold rotIdx; (repeat' split) <;> omega
 have r3 : ∀ i, mid ≤ i → i < e → zs'.getD i 0 = zs.getD (i - (e - m)) 0 := fun i a1 a2 => by rw [hr.at']; congr 1; unfold rotIdx; (repeat' split) <;> omega
 have r4 : ∀ i, e ≤ i → zs'.getD i 0 = zs.getD i 0 := fun i a1 => by rw [hr.at']; congr 1; unfold rotIdx; (repeat' split) <;> omega
 refine ⟨(h1.sub (Nat.le_refl _) hs).congr fun i _ a2 => r1 i a2, h2.shift (fun i => i + (m - s)) (fun i a1 a2 => r2 i a1 a2) (fun i a1 a2 => by constructor <;> omega) (fun i j a1 a2 a3 => by omega), ?_,
  h1.shift (fun i => i - (e - m)) (fun i a1 a2 => r3 i a1 a2) (fun i a1 a2 => by constructor <;> omega) (fun i j a1 a2 a3 => by omega), (h2.sub hm (Nat.le_refl _)).congr fun i a1 _ => r4 i a1, ?_⟩
 ·
  intro i j a1 a2 a3 a4
  rw [r1 i a2, r2 j a3 a4]
  exact hE _ _ a1 (by omega) (by omega) (by omega)
 ·
  intro i j a1 a2 a3 a4
  rw [r3 i a1 a2, r4 j a3]
  exact hE _ _ (by omega) (by omega) (by omega) a4
/-- The two sorted halves together. -/
theorem merge_join {key : Int → Int} {zs z2 z3 z4 : List Int} {a m b s e mid : Nat} (h1 : SrtI key zs a m) (h2 : SrtI key zs m b) (hE : ErlI zs a m b)
  (ha : a ≤ s) (hs : s ≤ m) (hm : m ≤ e) (he : e ≤ b) (hmid : mid + m = s + e)
  (cA : s = a ∨ e = b ∨ ¬ key (zs.getD e 0) < key (zs.getD (s - 1) 0)) (cB : s = m ∨ e = m ∨ key (zs.getD (e - 1) 0) < key (zs.getD s 0))
  (hr : Rot zs z2 s m e) (r3 : Rea z2 z3 a mid) (s3 : SrtI key z3 a mid) (r4 : Rea z3 z4 mid b) (s4 : SrtI key z4 mid b) :
  SrtI key z4 a b ∧ Rea zs z4 a b := by
 have R : Rea zs z4 a b := ((hr.rea hs hm).mono ha he).trans ((r3.mono (Nat.le_refl _) (by omega)).trans (r4.mono (by omega) (Nat.le_refl _)))
 refine ⟨?_, R⟩
 have cross : ∀ p q, a ≤ p → p < mid → mid ≤ q → q < b → ltK key (z2.getD p 0) (z2.getD q 0) := by
  intro p q p1 p2 q1 q2
  have e1 : rotIdx s m e p = if p < s then p else p + (m - s) := by unfold rotIdx; (repeat' split) <;> omega
  have e2 : rotIdx s m e q = if q < e then q - (e - m) else q := by unfold rotIdx; (repeat' split) <;> omega
  rw [hr.at', hr.at', e1, e2]
  by_cases p3 : p < s
  ·
   rw [if_pos p3]
   by_cases q3 : q < e
   ·
    rw [if_pos q3]; exact h1 _ _ p1 (by omega) (by omega)
   ·
    rw [if_neg q3]
    have g : ltK key (zs.getD (s - 1) 0) (zs.getD e 0) := by
     rcases cA with c | c | c
     ·
      omega
     ·
      omega
     ·
      exact ltK_of_not (hE _ _ (by omega) (by omega) (by omega) (by omega)) c
    exact ltK_chain (h1.le p1 (by omega) (by omega)) g (h2.le (by omega) (by omega) q2)
  ·
   rw [if_neg p3]
   by_cases q3 : q < e
   ·
    rw [if_pos q3]
    have g : ltK key (zs.getD (e - 1) 0) (zs.getD s 0) := by
     rcases cB with c | c | c
     ·
      omega
     ·
      omega
     ·
      exact Or.inl c
    exact ltK_chain (h2.le (by omega) (by omega) (by omega)) g (h1.le (by omega) (by omega) (by omega))
   ·
    rw [if_neg q3]; exact h2 _ _ (by omega) (by omega) q2
 intro p q p1 pq q1
 by_cases qm : q < mid
 ·
  rw [r4.out p (by omega), r4.out q (by omega)]; exact s3 p q p1 pq qm
 ·
  by_cases pm : p < mid
  ·
   obtain ⟨p', p2, p3, ep⟩ := r3.mem p p1 pm
   obtain ⟨q', q2, q3, eq⟩ := r4.mem q (by omega) q1
   rw [r4.out p (by omega), ep, eq, r3.out q' (by omega)]
   exact cross p' q' p2 p3 q2 q3
  ·
   exact s4 p q (by omega) pq q1
/-- A list that is sorted, and one that is the same rearranged and sorted, are the same. -/
theorem srt_unique {key : Int → Int} : ∀ {a b : List Int}, a.Perm b → a.Pairwise (ltK key) → b.Pairwise (ltK key) → a = b := by
 intro a
 induction a with
 | nil => intro b h _ _; exact (List.nil_perm.1 h).symm
 | cons x r ih =>
  intro b h h1 h2
  cases b with
  | nil => exact absurd h.symm (by simp)
  | cons y s =>
   have e : x = y := by
    rcases List.mem_cons.1 (h.mem_iff.1 (List.mem_cons_self)) with hx | hx
    ·
     exact hx
    ·
     rcases List.mem_cons.1 (h.mem_iff.2 (List.mem_cons_self : y ∈ y :: s)) with hy | hy
     ·
      exact hy.symm
     ·
      exact (ltK_irrefl (ltK_trans ((List.pairwise_cons.1 h1).1 y hy) ((List.pairwise_cons.1 h2).1 x hx))).elim
   subst e
   rw [ih (List.Perm.cons_inv h) (List.pairwise_cons.1 h1).2 (List.pairwise_cons.1 h2).2]
theorem SrtI.pairwise {key : Int → Int} {zs : List Int} (h : SrtI key zs 0 zs.length) : zs.Pairwise (ltK key) := by
 rw [List.pairwise_iff_getElem]
 intro i j hi hj hij
 have := h i j (Nat.zero_le _) hij hj
 simpa [List.getD_eq_getElem?_getD, hi, hj] using this
/-- One more element has been sorted in. -/
structure Ins (key : Int → Int) (zs cur : List Int) (a i j : Nat) : Prop where
 len : cur.length = zs.length
 lo : ∀ k, k < j → cur.getD k 0 = zs.getD k 0
 up : ∀ k, i < k → cur.getD k 0 = zs.getD k 0
 here : cur.getD j 0 = zs.getD i 0
 mid : ∀ k, j < k → k ≤ i → cur.getD k 0 = zs.getD (k - 1) 0 ∧ ltK key (zs.getD i 0) (zs.getD (k - 1) 0)
 perm : cur.Perm zs
theorem Ins.start (key : Int → Int) (zs : List Int) (a i : Nat) : Ins key zs zs a i i := ⟨rfl, fun _ _ => rfl, fun _ _ => rfl, rfl, fun k h1 h2 => by omega, .refl _⟩
theorem Ins.step {key : Int → Int} {zs cur : List Int} {a i j : Nat} (h : Ins key zs cur a i (j + 1)) (hj : j + 1 ≤ i) (hi : i < zs.length) (hc : key (cur.getD (j + 1) 0) < key (cur.getD j 0)) :
  Ins key zs (sw cur (j + 1) j) a i j := by
 have hl := h.len
 have s := sw_getD (zs := cur) (i := j + 1) (j := j) (by omega) (by omega)
 refine ⟨(sw_len _ _ _).trans h.len, fun k hk => ?_, fun k hk => ?_, ?_, fun k h1 h2 => ?_, (sw_perm (by omega) (by omega)).trans h.perm⟩
 ·
  rw [s, if_neg (by omega), if_neg (by omega)]; exact h.lo k (by omega)
 ·
  rw [s, if_neg (by omega), if_neg (by omega)]; exact h.up k hk
 ·
  rw [s, if_pos rfl]; exact h.here
 ·
  by_cases e : k = j + 1
  ·
   subst e
   rw [s, if_neg (by omega), if_pos rfl, h.lo j (by omega)]
   rw [h.here, h.lo j (by omega)] at hc
   exact ⟨rfl, Or.inl hc⟩
  ·
   rw [s, if_neg (by omega), if_neg e]
   exact h.mid k (by omega) h2
theorem Ins.done {key : Int → Int} {zs cur : List Int} {a i j : Nat} (h : Ins key zs cur a i j) (ha : a ≤ j) (hj : j ≤ i) (hs : SrtI key zs a i) (hE : ∀ k, a ≤ k → k < i → zs.getD k 0 < zs.getD i 0)
  (hc : j = a ∨ ¬ key (cur.getD j 0) < key (cur.getD (j - 1) 0)) : SrtI key cur a (i + 1) ∧ Rea zs cur a (i + 1) := by
 constructor
 ·
  intro p q p1 pq q1
  by_cases q2 : q < j
  ·
   rw [h.lo p (by omega), h.lo q q2]; exact hs p q p1 pq (by omega)
  ·
   by_cases q3 : q = j
   ·
    subst q3
    rcases hc with hc | hc
    ·
     omega
    ·
     rw [h.here, h.lo (q - 1) (by omega)] at hc
     rw [h.here, h.lo p pq]
     have g := ltK_of_not (hE (q - 1) (by omega) (by omega)) hc
     rcases hs.le p1 (show p ≤ q - 1 by omega) (by omega) with e | e
     ·
      rw [e]; exact g
     ·
      exact ltK_trans e g
   ·
    obtain ⟨e1, e2⟩ := h.mid q (by omega) (by omega)
    rw [e1]
    by_cases p2 : p < j
    ·
     rw [h.lo p p2]; exact hs _ _ p1 (by omega) (by omega)
    ·
     by_cases p3 : p = j
     ·
      subst p3; rw [h.here]; exact e2
     ·
      rw [(h.mid p (by omega) (by omega)).1]; exact hs _ _ (by omega) (by omega) (by omega)
 ·
  refine ⟨h.len, fun k hk => ?_, fun k k1 k2 => ?_, h.perm⟩
  ·
   rcases Nat.lt_or_ge k j with g | g
   ·
    exact h.lo k g
   ·
    exact h.up k (by omega)
  ·
   rcases Nat.lt_trichotomy k j with g | g | g
   ·
    exact ⟨k, k1, k2, h.lo k g⟩
   ·
    subst g; exact ⟨i, by omega, by omega, h.here⟩
   ·
    exact ⟨k - 1, by omega, by omega, (h.mid k g (by omega)).1⟩
end Go.Proofs.YtlmajlfhjbhdpaaGreat
