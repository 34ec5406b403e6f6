/-
 Texts built as one: XSortA, XOwnI, XOwnV, XFence, XHeldJ, XCh.
-/
import Derived.Test.YtcmodmchnokmgaaSlice
import Derived.Maps.AppendAt
import Derived.Test.YtcmodmchnokmgaaRows
import Derived.Laws.AppendOwn
import Derived.RangeFuncNested
import Derived.RangeFuncBound
import Derived.RangeFuncCalls
import Derived.RangeFuncLeaves
import Derived.Shelf.Abstract
import Derived.Shelf.RegionOpen
import Derived.OwnWalkIn
import Derived.TacticsInMore
import Derived.LoopNIn
import Derived.LoopIn
import Derived.OrdersIn
import Derived.OrdersHeld
import Derived.Deep.AppendLies
namespace Go.Proofs.Ytcmodmchnokmgaa
section
set_option linter.unusedSimpArgs false
set_option linter.unusedVariables false
/-- The order of a stable sort: by the key; where the keys are equal, by the number itself. -/
def ltK (key : Int → Int) (a b : Int) : Prop := key a < key b ∨ (key a = key b ∧ a < b)
theorem ltK_trans {key : Int → Int} {a b c : Int} (h1 : ltK key a b) (h2 : ltK key b c) : ltK key a c := by unfold ltK at *; omega
theorem ltK_of_lt {key : Int → Int} {a b : Int} (h : key a < key b) : ltK key a b := Or.inl h
theorem ltK_of_not {key : Int → Int} {x y : Int} (hE : y < x) (h : ¬ key x < key y) : ltK key y x := by unfold ltK; omega
theorem ltK_irrefl {key : Int → Int} {a : Int} (h : ltK key a a) : False := by unfold ltK at h; omega
/-- Sorted between two places. -/
def SrtI (key : Int → Int) (zs : List Int) (lo hi : Nat) : Prop := ∀ i j, lo ≤ i → i < j → j < hi → ltK key (zs.getD i 0) (zs.getD j 0)
/-- What lies in the first part came earlier than what lies in the second. -/
def ErlI (zs : List Int) (a m b : Nat) : Prop := ∀ i j, a ≤ i → i < m → m ≤ j → j < b → zs.getD i 0 < zs.getD j 0
/-- zs' is zs, rearranged between two places. -/
structure Rea (zs zs' : List Int) (lo hi : Nat) : Prop where
 len : zs'.length = zs.length
 out : ∀ i, ¬ (lo ≤ i ∧ i < hi) → zs'.getD i 0 = zs.getD i 0
 mem : ∀ i, lo ≤ i → i < hi → ∃ j, lo ≤ j ∧ j < hi ∧ zs'.getD i 0 = zs.getD j 0
 perm : zs'.Perm zs
theorem Rea.refl (zs : List Int) (lo hi : Nat) : Rea zs zs lo hi := ⟨rfl, fun _ _ => rfl, fun i h1 h2 => ⟨i, h1, h2, rfl⟩, .refl _⟩
theorem Rea.trans {a b c : List Int} {lo hi : Nat} (h1 : Rea a b lo hi) (h2 : Rea b c lo hi) : Rea a c lo hi := by
 refine ⟨h2.len.trans h1.len, fun i hi => (h2.out i hi).trans (h1.out i hi), fun i l h => ?_, h2.perm.trans h1.perm⟩
 obtain ⟨j, j1, j2, e1⟩ := h2.mem i l h
 obtain ⟨k, k1, k2, e2⟩ := h1.mem j j1 j2
 exact ⟨k, k1, k2, e1.trans e2⟩
theorem Rea.mono {a b : List Int} {lo hi lo' hi' : Nat} (h : Rea a b lo hi) (h1 : lo' ≤ lo) (h2 : hi ≤ hi') : Rea a b lo' hi' := by
 refine ⟨h.len, fun i hi => h.out i (by omega), fun i l hh => ?_, h.perm⟩
 by_cases hin : lo ≤ i ∧ i < hi
 ·
  obtain ⟨j, j1, j2, e⟩ := h.mem i hin.1 hin.2
  exact ⟨j, by omega, by omega, e⟩
 ·
  exact ⟨i, l, hh, h.out i hin⟩
/-- Two places exchanged. -/
def sw (zs : List Int) (i j : Nat) : List Int := (zs.set i (zs.getD j 0)).set j (zs.getD i 0)
theorem sw_len (zs : List Int) (i j : Nat) : (sw zs i j).length = zs.length := by simp [sw]
theorem sw_getD {zs : List Int} {i j : Nat} (hi : i < zs.length) (hj : j < zs.length) (k : Nat) :
  (sw zs i j).getD k 0 = if k = j then zs.getD i 0 else if k = i then zs.getD j 0 else zs.getD k 0 := by
 unfold sw
 simp only [List.getD_eq_getElem?_getD, List.getElem?_set, List.length_set]
 by_cases h1 : k = j
 ·
  subst h1; simp [hj]
 ·
  by_cases h2 : k = i
  ·
   subst h2; simp [hi, Ne.symm h1, h1]
  ·
   simp [Ne.symm h1, Ne.symm h2, h1, h2]
theorem sw_perm {zs : List Int} {i j : Nat} (hi : i < zs.length) (hj : j < zs.length) : (sw zs i j).Perm zs := by
 have h := List.set_set_perm hi hj
 unfold sw
 simpa [List.getD_eq_getElem?_getD, hi, hj] using h
/-- Where a place comes from when [a, m) and [m, b) are exchanged. -/
def rotIdx (a m b i : Nat) : Nat := if a ≤ i ∧ i < a + (b - m) then i + (m - a) else if a + (b - m) ≤ i ∧ i < b then i - (b - m) else i
structure Rot (zs zs' : List Int) (a m b : Nat) : Prop where
 len : zs'.length = zs.length
 at' : ∀ i, zs'.getD i 0 = zs.getD (rotIdx a m b i) 0
 perm : zs'.Perm zs
theorem Rot.rea {zs zs' : List Int} {a m b : Nat} (h : Rot zs zs' a m b) (h1 : a ≤ m) (h2 : m ≤ b) : Rea zs zs' a b := by
 refine ⟨h.len, fun i hi => ?_, fun i l hh => ⟨rotIdx a m b i, ?_, ?_, h.at' i⟩, h.perm⟩
 ·
  rw [h.at']; congr 1; unfold rotIdx; split
  ·
   omega
  ·
   split <;> omega
 ·
  unfold rotIdx; split
  ·
   omega
  ·
   split <;> omega
 ·
  unfold rotIdx; split
  ·
   omega
  ·
   split <;> omega
theorem Rot.same (zs : List Int) {a m b : Nat} (h : a = m ∨ m = b) : Rot zs zs a m b := by
 refine ⟨rfl, fun i => ?_, .refl _⟩
 congr 1; unfold rotIdx; split
 ·
  omega
 ·
  split <;> omega
/-- Two runs of equal length exchanged, place by place. -/
def swpIdx (a b n i : Nat) : Nat := if a ≤ i ∧ i < a + n then i + (b - a) else if b ≤ i ∧ i < b + n then i - (b - a) else i
structure Swp (zs zs' : List Int) (a b n : Nat) : Prop where
 len : zs'.length = zs.length
 at' : ∀ i, zs'.getD i 0 = zs.getD (swpIdx a b n i) 0
 perm : zs'.Perm zs
theorem Swp.zero (zs : List Int) (a b : Nat) : Swp zs zs a b 0 := by
 refine ⟨rfl, fun i => ?_, .refl _⟩
 congr 1; unfold swpIdx; split
 ·
  omega
 ·
  split <;> omega
theorem Swp.succ {zs cur : List Int} {a b k : Nat} (h : Swp zs cur a b k) (hab : a + k < b) (hb : b + k < zs.length) : Swp zs (sw cur (a + k) (b + k)) a b (k + 1) := by
 have hl := h.len
 refine ⟨(sw_len _ _ _).trans h.len, fun i => ?_, (sw_perm (by omega) (by omega)).trans h.perm⟩
 rw [sw_getD (by omega) (by omega)]
 split
 ·
  rename_i e; subst e; rw [h.at']; congr 1; unfold swpIdx; (repeat' split) <;> omega
 ·
  split
  ·
   rename_i e; subst e; rw [h.at']; congr 1; unfold swpIdx; (repeat' split) <;> omega
  ·
   rw [h.at']; congr 1; unfold swpIdx; (repeat' split) <;> omega
/-- What is still to be rotated, seen from the state at a loop's head. -/
structure RotInv (zs cur : List Int) (a m b i j : Nat) : Prop where
 len : cur.length = zs.length
 at' : ∀ k, cur.getD (rotIdx (m - i) m (m + j) k) 0 = zs.getD (rotIdx a m b k) 0
 perm : cur.Perm zs
theorem RotInv.start (zs : List Int) {a m b : Nat} (h1 : a ≤ m) (h2 : m ≤ b) : RotInv zs zs a m b (m - a) (b - m) := by
 refine ⟨rfl, fun k => ?_, .refl _⟩
 rw [show m - (m - a) = a by omega, show m + (b - m) = b by omega]
theorem RotInv.gt {zs cur nxt : List Int} {a m b i j : Nat} (h : RotInv zs cur a m b i j) (hs : Swp cur nxt (m - i) m j) (hij : j < i) (him : i ≤ m) (hj : 0 < j) : RotInv zs nxt a m b (i - j) j := by
 refine ⟨hs.len.trans h.len, fun k => ?_, hs.perm.trans h.perm⟩
 rw [hs.at', ← h.at' k]; congr 1
 unfold swpIdx rotIdx; (repeat' split) <;> omega
theorem RotInv.lt {zs cur nxt : List Int} {a m b i j : Nat} (h : RotInv zs cur a m b i j) (hs : Swp cur nxt (m - i) (m + j - i) i) (hij : i < j) (him : i ≤ m) (hi : 0 < i) : RotInv zs nxt a m b i (j - i) := by
 refine ⟨hs.len.trans h.len, fun k => ?_, hs.perm.trans h.perm⟩
 rw [hs.at', ← h.at' k]; congr 1
 unfold swpIdx rotIdx; (repeat' split) <;> omega
theorem RotInv.last {zs cur nxt : List Int} {a m b i : Nat} (h : RotInv zs cur a m b i i) (hs : Swp cur nxt (m - i) m i) (him : i ≤ m) : Rot zs nxt a m b := by
 refine ⟨hs.len.trans h.len, fun k => ?_, hs.perm.trans h.perm⟩
 rw [hs.at', ← h.at' k]; congr 1
 unfold swpIdx rotIdx; (repeat' split) <;> omega
/-- The head of the left run goes on to the right, place by place. -/
theorem Rot.right {zs cur : List Int} {a k : Nat} (h : Rot zs cur a (a + 1) (k + 1)) (hk : a ≤ k) (hl : k + 1 < zs.length) : Rot zs (sw cur k (k + 1)) a (a + 1) (k + 2) := by
 have hlen := h.len
 refine ⟨(sw_len _ _ _).trans h.len, fun i => ?_, (sw_perm (by omega) (by omega)).trans h.perm⟩
 rw [sw_getD (by omega) (by omega)]
 split
 ·
  rename_i e; subst e; rw [h.at']; congr 1; unfold rotIdx; (repeat' split) <;> omega
 ·
  split
  ·
   rename_i e; subst e; rw [h.at']; congr 1; unfold rotIdx; (repeat' split) <;> omega
  ·
   rw [h.at']; congr 1; unfold rotIdx; (repeat' split) <;> omega
/-- The head of the right run goes on to the left, place by place. -/
theorem Rot.left {zs cur : List Int} {m k : Nat} (h : Rot zs cur (k + 1) m (m + 1)) (hk : k < m) (hl : m < zs.length) : Rot zs (sw cur (k + 1) k) k m (m + 1) := by
 have hlen := h.len
 refine ⟨(sw_len _ _ _).trans h.len, fun i => ?_, (sw_perm (by omega) (by omega)).trans h.perm⟩
 rw [sw_getD (by omega) (by omega)]
 split
 ·
  rename_i e; subst e; rw [h.at']; congr 1; unfold rotIdx; (repeat' split) <;> omega
 ·
  split
  ·
   rename_i e; subst e; rw [h.at']; congr 1; unfold rotIdx; (repeat' split) <;> omega
  ·
   rw [h.at']; congr 1; unfold rotIdx; (repeat' split) <;> omega
theorem SrtI.le {key : Int → Int} {zs : List Int} {lo hi i j : Nat} (h : SrtI key zs lo hi) (h1 : lo ≤ i) (h2 : i ≤ j) (h3 : j < hi) : zs.getD i 0 = zs.getD j 0 ∨ ltK key (zs.getD i 0) (zs.getD j 0) := by
 rcases Nat.lt_or_eq_of_le h2 with h4 | h4
 ·
  exact Or.inr (h i j h1 h4 h3)
 ·
  exact Or.inl (by rw [h4])
/-- x ≼ y ≺ z ≼ u. -/
theorem ltK_chain {key : Int → Int} {x y z u : Int} (h1 : x = y ∨ ltK key x y) (h2 : ltK key y z) (h3 : z = u ∨ ltK key z u) : ltK key x u := by
 have a : ltK key x z := h1.elim (fun h => by rw [h]; exact h2) (fun h => ltK_trans h h2)
 exact h3.elim (fun h => by rw [← h]; exact a) (fun h => ltK_trans a h)
theorem SrtI.sub {key : Int → Int} {zs : List Int} {lo hi lo' hi' : Nat} (h : SrtI key zs lo hi) (h1 : lo ≤ lo') (h2 : hi' ≤ hi) : SrtI key zs lo' hi' := fun i j a b c => h i j (by omega) b (by omega)
theorem SrtI.congr {key : Int → Int} {zs zs' : List Int} {lo hi : Nat} (h : SrtI key zs lo hi) (e : ∀ i, lo ≤ i → i < hi → zs'.getD i 0 = zs.getD i 0) : SrtI key zs' lo hi := fun i j a b c => by
 rw [e i a (by omega), e j (by omega) c]; exact h i j a b c
theorem SrtI.shift {key : Int → Int} {zs zs' : List Int} {lo hi lo' hi' : Nat} (h : SrtI key zs lo hi) (f : Nat → Nat) (e : ∀ i, lo' ≤ i → i < hi' → zs'.getD i 0 = zs.getD (f i) 0)
  (hf : ∀ i, lo' ≤ i → i < hi' → lo ≤ f i ∧ f i < hi) (hm : ∀ i j, lo' ≤ i → i < j → j < hi' → f i < f j) : SrtI key zs' lo' hi' := fun i j a b c => by
 rw [e i a (by omega), e j (by omega) c]; exact h _ _ (hf i a (by omega)).1 (hm i j a b c) (hf j (by omega) c).2
/-- The left run is one element: behind it all that is less. -/
theorem merge_right {key : Int → Int} {zs zs' : List Int} {a b i : Nat} (h2 : SrtI key zs (a + 1) b) (hE : ErlI zs a (a + 1) b)
  (hi : a + 1 ≤ i) (hib : i ≤ b) (c1 : i = a + 1 ∨ key (zs.getD (i - 1) 0) < key (zs.getD a 0)) (c2 : i = b ∨ ¬ key (zs.getD i 0) < key (zs.getD a 0)) (hr : Rot zs zs' a (a + 1) i) :
  SrtI key zs' a b := by
 have lo : ∀ k, a + 1 ≤ k → k < i → ltK key (zs.getD k 0) (zs.getD a 0) := fun k k1 k2 => by
  rcases c1 with c1 | c1
  ·
   omega
  ·
   rcases h2.le k1 (show k ≤ i - 1 by omega) (by omega) with h | h
   ·
    rw [h]; exact Or.inl c1
   ·
    exact ltK_trans h (Or.inl c1)
 have up : ∀ k, i ≤ k → k < b → ltK key (zs.getD a 0) (zs.getD k 0) := fun k k1 k2 => by
  rcases c2 with c2 | c2
  ·
   omega
  ·
   have g := ltK_of_not (hE a i (by omega) (by omega) (by omega) (by omega)) c2
   rcases h2.le (show a + 1 ≤ i by omega) k1 k2 with h | h
   ·
    rw [← h]; exact g
   ·
    exact ltK_trans g h
 intro p q hp hpq hq
 rw [hr.at', hr.at']
 have e1 : rotIdx a (a + 1) i p = if p + 1 < i then p + 1 else if p + 1 = i then a else p := by unfold rotIdx; (repeat' split) <;> omega
 have e2 : rotIdx a (a + 1) i q = if q + 1 < i then q + 1 else if q + 1 = i then a else q := by unfold rotIdx; (repeat' split) <;> omega
 rw [e1, e2]
 by_cases p1 : p + 1 < i
 ·
  rw [if_pos p1]
  by_cases q1 : q + 1 < i
  ·
   rw [if_pos q1]; exact h2 _ _ (by omega) (by omega) (by omega)
  ·
   rw [if_neg q1]
   by_cases q2 : q + 1 = i
   ·
    rw [if_pos q2]; exact lo _ (by omega) p1
   ·
    rw [if_neg q2]; exact h2 _ _ (by omega) (by omega) hq
 ·
  rw [if_neg p1]
  by_cases p2 : p + 1 = i
  ·
   rw [if_pos p2, if_neg (by omega), if_neg (by omega)]; exact up _ (by omega) hq
  ·
   rw [if_neg p2, if_neg (by omega), if_neg (by omega)]; exact h2 _ _ (by omega) hpq hq
/-- The right run is one element: ahead of it all that is not greater. -/
theorem merge_left {key : Int → Int} {zs zs' : List Int} {a m i : Nat} (h1 : SrtI key zs a m) (hE : ErlI zs a m (m + 1))
  (hi : a ≤ i) (him : i ≤ m) (c1 : i = a ∨ ¬ key (zs.getD m 0) < key (zs.getD (i - 1) 0)) (c2 : i = m ∨ key (zs.getD m 0) < key (zs.getD i 0)) (hr : Rot zs zs' i m (m + 1)) :
  SrtI key zs' a (m + 1) := by
 have lo : ∀ k, a ≤ k → k < i → ltK key (zs.getD k 0) (zs.getD m 0) := fun k k1 k2 => by
  rcases c1 with c1 | c1
  ·
   omega
  ·
   have g := ltK_of_not (hE (i - 1) m (by omega) (by omega) (by omega) (by omega)) c1
   rcases h1.le k1 (show k ≤ i - 1 by omega) (by omega) with h | h
   ·
    rw [h]; exact g
   ·
    exact ltK_trans h g
 have up : ∀ k, i ≤ k → k < m → ltK key (zs.getD m 0) (zs.getD k 0) := fun k k1 k2 => by
  rcases c2 with c2 | c2
  ·
   omega
  ·
   rcases h1.le (show a ≤ i by omega) k1 k2 with h | h
   ·
    rw [← h]; exact Or.inl c2
   ·
    exact ltK_trans (Or.inl c2) h
 intro p q hp hpq hq
 rw [hr.at', hr.at']
 have e1 : rotIdx i m (m + 1) p = if p < i then p else if p = i then m else p - 1 := by unfold rotIdx; (repeat' split) <;> omega
 have e2 : rotIdx i m (m + 1) q = if q < i then q else if q = i then m else q - 1 := by unfold rotIdx; (repeat' split) <;> omega
 rw [e1, e2]
 by_cases q1 : q < i
 ·
  rw [if_pos q1, if_pos (by omega)]; exact h1 _ _ hp hpq (by omega)
 ·
  rw [if_neg q1]
  by_cases q2 : q = i
  ·
   rw [if_pos q2, if_pos (by omega)]; exact lo _ hp (by omega)
  ·
   rw [if_neg q2]
   by_cases p1 : p < i
   ·
    rw [if_pos p1]; exact h1 _ _ hp (by omega) (by omega)
   ·
    rw [if_neg p1]
    by_cases p2 : p = i
    ·
     rw [if_pos p2]; exact up _ (by omega) (by omega)
    ·
     rw [if_neg p2]; exact h1 _ _ (by omega) (by omega) (by omega)
/-- What the two halves are behind the rotation. -/
theorem merge_halves {key : Int → Int} {zs zs' : List Int} {a m b s e mid : Nat} (h1 : SrtI key zs a m) (h2 : SrtI key zs m b) (hE : ErlI zs a m b)
  (ha : a ≤ s) (hs : s ≤ m) (hm : m ≤ e) (he : e ≤ b) (hmid : mid + m = s + e) (hr : Rot zs zs' s m e) :
  SrtI key zs' a s ∧ SrtI key zs' s mid ∧ ErlI zs' a s mid ∧ SrtI key zs' mid e ∧ SrtI key zs' e b ∧ ErlI zs' mid e b := by
 have r1 : ∀ i, i < s → zs'.getD i 0 = zs.getD i 0 := fun i hi => by rw [hr.at']; congr 1; unfold rotIdx; (repeat' split) <;> omega
 have r2 : ∀ i, s ≤ i → i < mid → zs'.getD i 0 = zs.getD (i + (m - s)) 0 := fun i a1 a2 => by rw [hr.at']; congr 1; unfold rotIdx; (repeat' split) <;> omega
 have r3 : ∀ i, mid ≤ i → i < e → zs'.getD i 0 = zs.getD (i - (e - m)) 0 := fun i a1 a2 => by rw [hr.at']; congr 1; unfold rotIdx; (repeat' split) <;> omega
 have r4 : ∀ i, e ≤ i → zs'.getD i 0 = zs.getD i 0 := fun i a1 => by rw [hr.at']; congr 1; unfold rotIdx; (repeat' split) <;> omega
 refine ⟨(h1.sub (Nat.le_refl _) hs).congr fun i _ a2 => r1 i a2, h2.shift (fun i => i + (m - s)) (fun i a1 a2 => r2 i a1 a2) (fun i a1 a2 => by constructor <;> omega) (fun i j a1 a2 a3 => by omega), ?_,
  h1.shift (fun i => i - (e - m)) (fun i a1 a2 => r3 i a1 a2) (fun i a1 a2 => by constructor <;> omega) (fun i j a1 a2 a3 => by omega), (h2.sub hm (Nat.le_refl _)).congr fun i a1 _ => r4 i a1, ?_⟩
 ·
  intro i j a1 a2 a3 a4
  rw [r1 i a2, r2 j a3 a4]
  exact hE _ _ a1 (by omega) (by omega) (by omega)
 ·
  intro i j a1 a2 a3 a4
  rw [r3 i a1 a2, r4 j a3]
  exact hE _ _ (by omega) (by omega) (by omega) a4
/-- The two sorted halves together. -/
theorem merge_join {key : Int → Int} {zs z2 z3 z4 : List Int} {a m b s e mid : Nat} (h1 : SrtI key zs a m) (h2 : SrtI key zs m b) (hE : ErlI zs a m b)
  (ha : a ≤ s) (hs : s ≤ m) (hm : m ≤ e) (he : e ≤ b) (hmid : mid + m = s + e)
  (cA : s = a ∨ e = b ∨ ¬ key (zs.getD e 0) < key (zs.getD (s - 1) 0)) (cB : s = m ∨ e = m ∨ key (zs.getD (e - 1) 0) < key (zs.getD s 0))
  (hr : Rot zs z2 s m e) (r3 : Rea z2 z3 a mid) (s3 : SrtI key z3 a mid) (r4 : Rea z3 z4 mid b) (s4 : SrtI key z4 mid b) :
  SrtI key z4 a b ∧ Rea zs z4 a b := by
 have R : Rea zs z4 a b := ((hr.rea hs hm).mono ha he).trans ((r3.mono (Nat.le_refl _) (by omega)).trans (r4.mono (by omega) (Nat.le_refl _)))
 refine ⟨?_, R⟩
 have cross : ∀ p q, a ≤ p → p < mid → mid ≤ q → q < b → ltK key (z2.getD p 0) (z2.getD q 0) := by
  intro p q p1 p2 q1 q2
  have e1 : rotIdx s m e p = if p < s then p else p + (m - s) := by unfold rotIdx; (repeat' split) <;> omega
  have e2 : rotIdx s m e q = if q < e then q - (e - m) else q := by unfold rotIdx; (repeat' split) <;> omega
  rw [hr.at', hr.at', e1, e2]
  by_cases p3 : p < s
  ·
   rw [if_pos p3]
   by_cases q3 : q < e
   ·
    rw [if_pos q3]; exact h1 _ _ p1 (by omega) (by omega)
   ·
    rw [if_neg q3]
    have g : ltK key (zs.getD (s - 1) 0) (zs.getD e 0) := by
     rcases cA with c | c | c
     ·
      omega
     ·
      omega
     ·
      exact ltK_of_not (hE _ _ (by omega) (by omega) (by omega) (by omega)) c
    exact ltK_chain (h1.le p1 (by omega) (by omega)) g (h2.le (by omega) (by omega) q2)
  ·
   rw [if_neg p3]
   by_cases q3 : q < e
   ·
    rw [if_pos q3]
    have g : ltK key (zs.getD (e - 1) 0) (zs.getD s 0) := by
     rcases cB with c | c | c
     ·
      omega
     ·
      omega
     ·
      exact Or.inl c
    exact ltK_chain (h2.le (by omega) (by omega) (by omega)) g (h1.le (by omega) (by omega) (by omega))
   ·
    rw [if_neg q3]; exact h2 _ _ (by omega) (by omega) q2
 intro p q p1 pq q1
 by_cases qm : q < mid
 ·
  rw [r4.out p (by omega), r4.out q (by omega)]; exact s3 p q p1 pq qm
 ·
  by_cases pm : p < mid
  ·
   obtain ⟨p', p2, p3, ep⟩ := r3.mem p p1 pm
   obtain ⟨q', q2, q3, eq⟩ := r4.mem q (by omega) q1
   rw [r4.out p (by omega), ep, eq, r3.out q' (by omega)]
   exact cross p' q' p2 p3 q2 q3
  ·
   exact s4 p q (by omega) pq q1
/-- A list that is sorted, and one that is the same rearranged and sorted, are the same. -/
theorem srt_unique {key : Int → Int} : ∀ {a b : List Int}, a.Perm b → a.Pairwise (ltK key) → b.Pairwise (ltK key) → a = b := by
 intro a
 induction a with
 | nil => intro b h _ _; exact (List.nil_perm.1 h).symm
 | cons x r ih =>
  intro b h h1 h2
  cases b with
  | nil => exact absurd h.symm (by simp)
  | cons y s =>
   have e : x = y := by
    rcases List.mem_cons.1 (h.mem_iff.1 (List.mem_cons_self)) with hx | hx
    ·
     exact hx
    ·
     rcases List.mem_cons.1 (h.mem_iff.2 (List.mem_cons_self : y ∈ y :: s)) with hy | hy
     ·
      exact hy.symm
     ·
      exact (ltK_irrefl (ltK_trans ((List.pairwise_cons.1 h1).1 y hy) ((List.pairwise_cons.1 h2).1 x hx))).elim
   subst e
   rw [ih (List.Perm.cons_inv h) (List.pairwise_cons.1 h1).2 (List.pairwise_cons.1 h2).2]
theorem SrtI.pairwise {key : Int → Int} {zs : List Int} (h : SrtI key zs 0 zs.length) : zs.Pairwise (ltK key) := by
 rw [List.pairwise_iff_getElem]
 intro i j hi hj hij
 have := h i j (Nat.zero_le _) hij hj
 simpa [List.getD_eq_getElem?_getD, hi, hj] using this
/-- One more element has been sorted in. -/
structure Ins (key : Int → Int) (zs cur : List Int) (a i j : Nat) : Prop where
 len : cur.length = zs.length
 lo : ∀ k, k < j → cur.getD k 0 = zs.getD k 0
 up : ∀ k, i < k → cur.getD k 0 = zs.getD k 0
 here : cur.getD j 0 = zs.getD i 0
 mid : ∀ k, j < k → k ≤ i → cur.getD k 0 = zs.getD (k - 1) 0 ∧ ltK key (zs.getD i 0) (zs.getD (k - 1) 0)
 perm : cur.Perm zs
theorem Ins.start (key : Int → Int) (zs : List Int) (a i : Nat) : Ins key zs zs a i i := ⟨rfl, fun _ _ => rfl, fun _ _ => rfl, rfl, fun k h1 h2 => by omega, .refl _⟩
theorem Ins.step {key : Int → Int} {zs cur : List Int} {a i j : Nat} (h : Ins key zs cur a i (j + 1)) (hj : j + 1 ≤ i) (hi : i < zs.length) (hc : key (cur.getD (j + 1) 0) < key (cur.getD j 0)) :
  Ins key zs (sw cur (j + 1) j) a i j := by
 have hl := h.len
 have s := sw_getD (zs := cur) (i := j + 1) (j := j) (by omega) (by omega)
 refine ⟨(sw_len _ _ _).trans h.len, fun k hk => ?_, fun k hk => ?_, ?_, fun k h1 h2 => ?_, (sw_perm (by omega) (by omega)).trans h.perm⟩
 ·
  rw [s, if_neg (by omega), if_neg (by omega)]; exact h.lo k (by omega)
 ·
  rw [s, if_neg (by omega), if_neg (by omega)]; exact h.up k hk
 ·
  rw [s, if_pos rfl]; exact h.here
 ·
  by_cases e : k = j + 1
  ·
   subst e
   rw [s, if_neg (by omega), if_pos rfl, h.lo j (by omega)]
   rw [h.here, h.lo j (by omega)] at hc
   exact ⟨rfl, Or.inl hc⟩
  ·
   rw [s, if_neg (by omega), if_neg e]
   exact h.mid k (by omega) h2
theorem Ins.done {key : Int → Int} {zs cur : List Int} {a i j : Nat} (h : Ins key zs cur a i j) (ha : a ≤ j) (hj : j ≤ i) (hs : SrtI key zs a i) (hE : ∀ k, a ≤ k → k < i → zs.getD k 0 < zs.getD i 0)
  (hc : j = a ∨ ¬ key (cur.getD j 0) < key (cur.getD (j - 1) 0)) : SrtI key cur a (i + 1) ∧ Rea zs cur a (i + 1) := by
 constructor
 ·
  intro p q p1 pq q1
  by_cases q2 : q < j
  ·
   rw [h.lo p (by omega), h.lo q q2]; exact hs p q p1 pq (by omega)
  ·
   by_cases q3 : q = j
   ·
    subst q3
    rcases hc with hc | hc
    ·
     omega
    ·
     rw [h.here, h.lo (q - 1) (by omega)] at hc
     rw [h.here, h.lo p pq]
     have g := ltK_of_not (hE (q - 1) (by omega) (by omega)) hc
     rcases hs.le p1 (show p ≤ q - 1 by omega) (by omega) with e | e
     ·
      rw [e]; exact g
     ·
      exact ltK_trans e g
   ·
    obtain ⟨e1, e2⟩ := h.mid q (by omega) (by omega)
    rw [e1]
    by_cases p2 : p < j
    ·
     rw [h.lo p p2]; exact hs _ _ p1 (by omega) (by omega)
    ·
     by_cases p3 : p = j
     ·
      subst p3; rw [h.here]; exact e2
     ·
      rw [(h.mid p (by omega) (by omega)).1]; exact hs _ _ (by omega) (by omega) (by omega)
 ·
  refine ⟨h.len, fun k hk => ?_, fun k k1 k2 => ?_, h.perm⟩
  ·
   rcases Nat.lt_or_ge k j with g | g
   ·
    exact h.lo k g
   ·
    exact h.up k (by omega)
  ·
   rcases Nat.lt_trichotomy k j with g | g | g
   ·
    exact ⟨k, k1, k2, h.lo k g⟩
   ·
    subst g; exact ⟨i, by omega, by omega, h.here⟩
   ·
    exact ⟨k - 1, by omega, by omega, (h.mid k g (by omega)).1⟩
end
section
set_option linter.unusedSimpArgs false
set_option linter.unusedVariables false
open Go.RowKit
/-- Block B holds the ints zs from its beginning on (and maybe more behind them), and nothing of it is frozen. -/
def OwnI (w : World) (B : Nat) (zs : List Int) : Prop := ∃ rest, Row w B (zs.map (Value.int .i64) ++ rest)
theorem OwnI.lt {w : World} {B : Nat} {zs : List Int} (h : OwnI w B zs) : B < w.heap.size := h.elim fun _ h => h.lt
theorem OwnI.cell {w : World} {B : Nat} {zs : List Int} (h : OwnI w B zs) {i : Nat} (hi : i < zs.length) : w.cell? ⟨B, i, none⟩ = some (.int .i64 (zs.getD i 0)) := by
 obtain ⟨rest, h⟩ := h
 refine h.cell i ?_
 rw [List.getElem?_append_left (by simpa using hi), List.getElem?_map, List.getElem?_eq_getElem hi]
 simp [List.getD, hi]
theorem OwnI.frozen {w : World} {B : Nat} {zs : List Int} (h : OwnI w B zs) (i : Nat) : w.frozen? ⟨B, i, none⟩ = false := h.elim fun _ h => h.frozen i
theorem OwnI.set {w : World} {B : Nat} {zs : List Int} (h : OwnI w B zs) {i : Nat} (hi : i < zs.length) (v : Int) : OwnI (w.setCell ⟨B, i, none⟩ (.int .i64 v)) B (zs.set i v) := by
 obtain ⟨rest, T, h⟩ := h
 refine ⟨rest, T, ?_⟩
 simp only [World.setCell, Array.getElem?_modify, h]
 simp [List.map_set, List.set_append, hi]
theorem OwnI.drewN {w : World} {B : Nat} {zs : List Int} (h : OwnI w B zs) (n : Nat) : OwnI (w.drewN n) B zs := h
theorem OwnI.drew {w : World} {B : Nat} {zs : List Int} (h : OwnI w B zs) : OwnI w.drew B zs := h
theorem OwnI.sw {w : World} {B : Nat} {zs : List Int} (h : OwnI w B zs) {i j : Nat} (hi : i < zs.length) (hj : j < zs.length) :
  OwnI ((w.setCell ⟨B, i, none⟩ (.int .i64 (zs.getD j 0))).setCell ⟨B, j, none⟩ (.int .i64 (zs.getD i 0))) B (sw zs i j) :=
 (h.set hi _).set (by simpa using hj) _
theorem OwnI.of_block {w w' : World} {B : Nat} {zs : List Int} (h : OwnI w B zs) (e : w'.heap[B]? = w.heap[B]?) : OwnI w' B zs := h.elim fun r h => ⟨r, h.of_block e⟩
theorem OwnI.step {W w1 : World} {B : Nat} {zs : List Int} (h : OwnI W B zs) (hb : Below W.heap.size W w1) : OwnI w1 B zs := h.of_block (hb.block B h.lt)
theorem OwnI.sl {w : World} {B n : Nat} {zs : List Int} (h : OwnI w B zs) (hl : zs.length = n) : SlI w (some ⟨B, 0, none⟩) n zs := h.elim fun _ h => SlI.row h hl
theorem OwnI.take {w : World} {B : Nat} {zs : List Int} (h : OwnI w B zs) (k : Nat) : OwnI w B (zs.take k) := by
 obtain ⟨rest, h⟩ := h
 refine ⟨(zs.drop k).map (Value.int .i64) ++ rest, ?_⟩
 rwa [← List.append_assoc, ← List.map_append, List.take_append_drop]
/-- Only block B turns (and new blocks may be there). -/
def Tch (B : Nat) (w w' : World) : Prop := w.grownBy w' (some B)
theorem Tch.refl (B : Nat) (w : World) : Tch B w w := World.grownBy.refl w _
theorem Tch.trans {B : Nat} {a b c : World} (h : Tch B a b) (k : Tch B b c) : Tch B a c := World.grownBy.trans h k
theorem Tch.set {B : Nat} {a w : World} (h : Tch B a w) (i : Nat) (v : Value) : Tch B a (w.setCell ⟨B, i, none⟩ v) := by
 refine h.trans ⟨rfl, rfl, rfl, by simp [World.setCell], fun k hk hne => ?_⟩
 exact Below.heap_setCell _ _ _ _ (fun e => hne (by rw [e]))
theorem Tch.drewN {B : Nat} {a w : World} (h : Tch B a w) (n : Nat) : Tch B a (w.drewN n) := h.trans ⟨rfl, rfl, rfl, Nat.le_refl _, fun _ _ _ => rfl⟩
theorem Tch.drew {B : Nat} {a w : World} (h : Tch B a w) : Tch B a w.drew := h.trans ⟨rfl, rfl, rfl, Nat.le_refl _, fun _ _ _ => rfl⟩
theorem Tch.size {B : Nat} {w w' : World} (h : Tch B w w') : w.heap.size ≤ w'.heap.size := World.grownBy.size h
theorem Tch.block {B : Nat} {w w' : World} (h : Tch B w w') {k : Nat} (hk : k < w.heap.size) (hne : k ≠ B) : w'.heap[k]? = w.heap[k]? := World.grownBy.block h k hk (by simpa using hne)
theorem Tch.cell {B : Nat} {w w' : World} (h : Tch B w w') {b o : Nat} {v : Value} (hc : w.cell? ⟨b, o, none⟩ = some v) (hne : b ≠ B) : w'.cell? ⟨b, o, none⟩ = some v := by
 have e := h.block (World.block_lt_of_cell? w _ hc) hne
 rw [← hc]; simp only [World.cell?]; rw [e]
theorem Tch.sl {B n : Nat} {w w' : World} {a : Option Addr} {zs : List Int} (h : Tch B w w') (hs : SlI w a n zs) (hne : ∀ b o, a = some ⟨b, o, none⟩ → b ≠ B) : SlI w' a n zs := by
 refine ⟨hs.1, fun i hi => ?_⟩
 obtain ⟨b, off, ha, hc⟩ := hs.2 i hi
 exact ⟨b, off, ha, h.cell hc (hne _ _ ha)⟩
theorem Tch.below {B B0 : Nat} {a w w' : World} (h : Tch B w w') (hb : Below B0 a w) (hB : B0 ≤ B) (hs : B0 ≤ w.heap.size) : Below B0 a w' := hb.grown h hs (fun k e => by cases e; exact hB)
end
section
set_option linter.unusedSimpArgs false
set_option linter.unusedVariables false
open Go.RowKit
/-- v is a slice of the call's own (from block base on) that holds the ints zs. -/
def OwnV (w : World) (base : Nat) (v : Value) (zs : List Int) : Prop := w.ownsRow base 3 1 v zs.length (zs.map (Value.int .i64))
theorem OwnV.nil (w : World) (base : Nat) : OwnV w base (.slice none 0 0) [] := World.ownsRow_nil _ _ _ _
theorem OwnV.step {w w1 : World} {base : Nat} {v : Value} {zs : List Int} (h : OwnV w base v zs) (hb : Below w.heap.size w w1) : OwnV w1 base v zs := by
 obtain ⟨h1, h2⟩ := h
 refine ⟨h1, ?_⟩
 rcases h2 with h2 | ⟨g, cap, cur, e1, e2, e3, e4⟩
 ·
  exact Or.inl h2
 ·
  exact Or.inr ⟨g, cap, cur, e1, e2, (hb.block g (Array.getElem?_eq_some_iff.1 e3).1).trans e3, e4⟩
theorem OwnV.alloc {w : World} {base : Nat} {v : Value} {zs : List Int} (h : OwnV w base v zs) (o : Obj) : OwnV (w.alloc o) base v zs := World.ownsRow.alloc h o
theorem OwnV.of_nil {w : World} {base : Nat} {v : Value} (h : OwnV w base v []) : v = .slice none 0 0 ∨ ∃ g cap, v = .slice (some ⟨g, 0, none⟩) 0 cap := by
 obtain ⟨h1, h2⟩ := h
 rcases h2 with h2 | ⟨g, cap, cur, e1, _⟩
 ·
  exact Or.inl h2.1
 ·
  exact Or.inr ⟨g, cap, by simpa using e1⟩
theorem OwnV.own {w : World} {base : Nat} {v : Value} {zs : List Int} (h : OwnV w base v zs) (h0 : 0 < zs.length) :
  ∃ g cap, v = .slice (some ⟨g, 0, none⟩) zs.length cap ∧ base ≤ g ∧ OwnI w g zs ∧ zs.length ≤ cap ∧ cap ≤ maxLen := by
 obtain ⟨h1, h2⟩ := h
 rcases h2 with h2 | ⟨g, cap, cur, e1, e2, e3, e4, e5, e6, e7⟩
 ·
  omega
 ·
  refine ⟨g, cap, e1, e2, ⟨cur.toList.drop (zs.length * 1), 3, ?_⟩, e4, e5⟩
  rw [← e7, List.take_append_drop]
  simpa using e3
/-- v is a slice that holds the ints zs. -/
def SlV (w : World) (v : Value) (zs : List Int) : Prop := ∃ ad cap, v = .slice ad zs.length cap ∧ SlI w ad zs.length zs ∧ zs.length ≤ cap ∧ cap ≤ maxLen
theorem SlV.step {w w1 : World} {v : Value} {zs : List Int} (h : SlV w v zs) (hb : Below w.heap.size w w1) : SlV w1 v zs := by
 obtain ⟨ad, cap, e, h1, h2⟩ := h
 exact ⟨ad, cap, e, h1.below hb, h2⟩
theorem SlV.nil (w : World) : SlV w (.slice none 0 0) [] := ⟨none, 0, rfl, SlI.nil _ _, Nat.le_refl _, by unfold maxLen; omega⟩
theorem OwnV.sl {w : World} {base : Nat} {v : Value} {zs : List Int} (h : OwnV w base v zs) : SlV w v zs := by
 by_cases h0 : 0 < zs.length
 ·
  obtain ⟨g, cap, e, _, h1, h2, h3⟩ := h.own h0
  exact ⟨_, cap, e, h1.sl rfl, h2, h3⟩
 ·
  obtain ⟨h1, h2⟩ := h
  have hz : zs = [] := List.eq_nil_of_length_eq_zero (by omega)
  subst hz
  rcases h2 with h2 | ⟨g, cap, cur, e1, e2, e3, e4, e5, e6, e7⟩
  ·
   rw [h2.1]; exact SlV.nil w
  ·
   exact ⟨_, cap, e1, SlI.nil _ _, by simp, e5⟩
theorem info_int : (Try.prog.info? 3).map (fun i => (i.zero, i.size, i.bytes)) = some (some (.int .i64 0), 1, 8) := by kernel_rfl
/-- 'append' of one int that lies in a block of its own. -/
theorem wpList_append_int {w : World} {ops : Array Oper} {rest : List Oper} {o : Oper} {a : Act} {Q : Exit → Act → World → Prop} (hgd : o.guard = none) (s x : Operand) (t : TypeId)
  (ho : o.op = .call { callee := .builtin .append, args := #[s, x], argTypes := #[t, t] }) (ht : Try.prog.underlying t = some (.slice 3))
  (base : Nat) (v : Value) (zs : List Int) (hs : a.eval s = v) (hown : OwnV w base v zs) (g c : Nat) (z : Int) (hx : a.eval x = .slice (some ⟨g, 0, none⟩) 1 c) (hc : w.cell? ⟨g, 0, none⟩ = some (.int .i64 z))
  (hn : zs.length ≤ 1000000000000) (hbase : base ≤ w.heap.size)
  (h : ∀ v' w', OwnV w' base v' (zs ++ [z]) → (∀ w0, Below base w0 w → Below base w0 w') → w.heap.size ≤ w'.heap.size → wpList Try.prog ops Q rest (a.put o.dst v') w') : wpList Try.prog ops Q (o :: rest) a w := by
 obtain ⟨i0, hi, hz0, hz1, hz2⟩ := info_parts info_int
 refine wpList_append_own w hgd s x t ho base 3 i0 (.int .i64 0) 1 8 ht hi hz0 hz1 hz2 rfl (by decide) v zs.length _ hs hown ⟨g, 0, none⟩ 1 c [.int .i64 z] hx rfl ?_ ?_ ?_ ?_ hbase ?_
 ·
  intro j u hj
  cases j with
  | zero => simp at hj; subst hj; exact hc
  | succ j => simp at hj
 ·
  intro u hu; simp at hu; subst hu; rfl
 ·
  unfold maxLen; omega
 ·
  omega
 ·
  intro v' w' h1 h2 _
  refine h v' w' ?_ (fun w0 hb => ?_) h2.size
  ·
   unfold OwnV; simpa using h1
  ·
   exact hb.grown h2 hbase (fun k hk => (World.ownsRow.lt hown k hk).1)
end
section
set_option linter.unusedSimpArgs false
set_option linter.unusedVariables false
open Go.RowKit
theorem calls_in {n : Nat} {P : Program} {f : FuncId} {args : Array Value} {w : World} {R : Ending → World → Prop} (l : Nat) (h : Calls P f args w R) : CallsIn (Fence.wide.inRound l) n P f args w R :=
 CallsIn.inRound l (callsIn_wide.2 h)
theorem calls_of_wp_marks {P : Program} {f : FuncId} {fn : Func} {c : Code} {args : Array Value} {w : World} {R : Ending → World → Prop} (hf : P.funcs[f]? = some fn) (hb : fn.body = some c)
  (h : c.wp P (bodyPostM Fence.wide 6 P fn R) { tmps := args ++ Array.replicate (fn.ntmps - args.size) undef, defers := [] } w) : Calls P f args w R :=
 (callsIn_wide (n := 6)).1 (callsIn_of_wp_marks hf hb trivial (wpIn_wide.2 h) rfl)
/-- No operation is a 'defer' statement, and none calls a row. -/
def tameOps (ops : Array Oper) : Bool := ops.all fun o => match o.op with | .defer _ => false | _ => true
theorem tame_at {ops : Array Oper} (h : tameOps ops = true) {i : Nat} {o : Oper} (ho : ops[i]? = some o) : ∀ c, o.op ≠ .defer c := by
 intro c hc
 unfold tameOps at h
 obtain ⟨hi, e⟩ := Array.getElem?_eq_some_iff.1 ho
 have := (Array.all_eq_true.1 h) i hi
 rw [e, hc] at this
 simp at this
section
variable {l n : Nat} {P : Program} {ops : Array Oper} {Q : Exit → Act → World → Prop} {md : Region.Mode}
theorem rows_in {row : String} {args : Array Value} {w : World} {R : Value → World → Prop} (h : Rows P row args w R) : RowsIn (Fence.wide.inRound l) n P row args w R :=
 fun c cs _ => let ⟨v, w', r, s⟩ := h c cs; ⟨v, w', r, stepsIn_wide.2 s⟩
theorem oper_in {o : Oper} {a : Act} {w : World} {K : Act → World → Prop} (hd : ∀ c, o.op ≠ .defer c) (h : Oper.wp P o a w K Q) : Oper.wpIn (Fence.wide.inRound l) n P o a w K Q := by
 unfold Oper.wpIn
 refine ⟨fun _ _ => trivial, ?_⟩
 rw [Oper.semAt_eq _ _ _ hd]
 unfold Oper.wp at h
 generalize (execOp a.eval o).run P w = r at *
 cases r with
 | ok x w' =>
  cases x with
  | value v => exact h
  | skip => exact h
  | defer d => exact h
  | enter f args => exact ⟨fun h => (by cases h), calls_in l (Calls.mono h fun e w'' he => by cases e <;> exact he)⟩
  | row row args => exact ⟨fun h => (by cases h), rows_in h⟩
  | _ => exact h.elim
 | halt x w' => cases x <;> exact h
theorem op_in {i : Nat} {a : Act} {w : World} {K : Act → World → Prop} (ht : tameOps ops = true) (hQ : ¬ LetsOut Q) (h : wpOp P ops Q i K a w) : wpOpIn (Fence.wide.inRound l) n P ops Q i K a w := by
 unfold wpOpIn
 unfold wpOp at h
 cases ho : ops[i]? with
 | none => simp only [ho] at h; exact h
 | some o =>
  simp only [ho] at h
  split at h
  ·
   rename_i hw
   simp only [hw, if_true]
   exact oper_in (tame_at ht ho) (h.resolve_right (fun hh => hQ hh.2))
  ·
   rename_i hw
   simp only [hw, Bool.false_eq_true, if_false]
   exact ⟨fun _ _ => trivial, h⟩
theorem any_in (ht : tameOps ops = true) (hQ : ¬ LetsOut Q) : ∀ (fuel : Nat) (listed : Array Bool) (a : Act) (w : World), wpAny P md ops Q fuel listed a w → wpAnyIn (Fence.wide.inRound l) n P md ops Q fuel listed a w
 | 0, _, _, _, h => h
 | fuel + 1, _, _, _, h => ⟨h.1, fun i hi => wpOpIn_mono (fun a' w' h' => any_in ht hQ fuel _ a' w' h') (op_in ht hQ (h.2 i hi))⟩
/-- A region that draws its order, within a round, held by a condition on the world. -/
theorem region_in {id : Nat} {a : Act} {w : World} (S : World → Prop) (hm : P.follows .mixedOrders = true) (ht : tameOps ops = true) (hQ : ¬ LetsOut Q)
  (h : wpAnyH P .any ops Q S ops.size (Array.replicate ops.size false) a w.drew) : (Code.region id ops true).wpIn (Fence.wide.inRound l) n P Q a w :=
 wpIn_region_any hm (any_in ht hQ _ _ _ _ (wpAny_of_held _ _ _ _ h))
end
theorem Row.kept {w w' : World} {row : Option Nat} {b : Nat} {cs : List Value} (h : Row w b cs) (hg : w.grownBy w' row) (hr : ∀ r, row = some r → ∃ o : Obj, w.heap[r]? = some o ∧ o.isCells = false) : Row w' b cs := by
 refine h.of_block (hg.block b h.lt (fun e => ?_))
 obtain ⟨T, hT⟩ := h
 obtain ⟨o, ho, hc⟩ := hr b e.symm
 rw [hT] at ho
 cases ho
 simp [Obj.isCells] at hc
theorem OwnV.kept {w w' : World} {row : Option Nat} {base : Nat} {v : Value} {zs : List Int} (h : OwnV w base v zs) (hg : w.grownBy w' row) (hr : ∀ r, row = some r → ∃ o : Obj, w.heap[r]? = some o ∧ o.isCells = false) : OwnV w' base v zs := by
 refine World.ownsRow.kept h hg ?_
 rcases h.2 with ⟨rfl, _⟩ | ⟨g, cap, cur, rfl, _, hgb, _⟩
 ·
  exact .inl rfl
 ·
  refine .inr fun e => ?_
  obtain ⟨o, ho, hc⟩ := hr g (by simpa [Value.ownBlock] using e.symm)
  rw [hgb] at ho
  cases ho
  simp [Obj.isCells] at hc
/-- Whatever block of cells is not the body's own lies as it lay; and of the blocks that lay, none has become its own. -/
def KeepsO (own : World → Nat → Prop) (A B : World) : Prop :=
 A.heap.size ≤ B.heap.size ∧ (∀ k cs T fr, A.heap[k]? = some (.cells cs T fr) → ¬ own A k → B.heap[k]? = A.heap[k]?) ∧ ∀ k, k < A.heap.size → own B k → own A k
theorem KeepsO.trans {own : World → Nat → Prop} {A B C : World} (h : KeepsO own A B) (k : KeepsO own B C) : KeepsO own A C :=
 ⟨Nat.le_trans h.1 k.1, fun i cs T fr hi hn => by
  have hlt := (Array.getElem?_eq_some_iff.1 hi).1
  have e := h.2.1 i cs T fr hi hn
  exact (k.2.1 i cs T fr (e.trans hi) (fun ho => hn (h.2.2 i hlt ho))).trans e, fun i hi ho => h.2.2 i hi (k.2.2 i (Nat.lt_of_lt_of_le hi h.1) ho)⟩
theorem KeepsO.putObj {own : World → Nat → Prop} {W : World} {l : Nat} {o : Obj} (o' : Obj) (hl : W.heap[l]? = some o) (ho : o.isCells = false) (hp : ∀ k, own (W.putObj l o') k → own W k) : KeepsO own W (W.putObj l o') :=
 ⟨(grownBy_putObj' W l o').size, fun i cs T fr hi _ => (grownBy_putObj' W l o').block i (Array.getElem?_eq_some_iff.1 hi).1 (fun e => by
  have hil : l = i := by cases e; rfl
  rw [hil, hi] at hl
  cases hl
  simp [Obj.isCells] at ho), fun k _ h => hp k h⟩
theorem Row.keepsO {own : World → Nat → Prop} {A B : World} {b : Nat} {cs : List Value} (h : Row A b cs) (k : KeepsO own A B) (hn : ¬ own A b) : Row B b cs := by
 obtain ⟨T, hT⟩ := h
 exact ⟨T, (k.2.1 b _ _ _ hT hn).trans hT⟩
theorem SlI.keepsO {own : World → Nat → Prop} {A B : World} {a : Option Addr} {n : Nat} {zs : List Int} (h : SlI A a n zs) (k : KeepsO own A B) (hn : ∀ b o, a = some ⟨b, o, none⟩ → ¬ own A b) : SlI B a n zs := by
 refine ⟨h.1, fun i hi => ?_⟩
 obtain ⟨b, off, ha, hc⟩ := h.2 i hi
 refine ⟨b, off, ha, ?_⟩
 have hb := hn b off ha
 cases hbk : A.heap[b]? with
 | none => simp [World.cell?, hbk] at hc
 | some o =>
  cases o with
  | cells cs T fr =>
   have e := k.2.1 b cs T fr hbk hb
   rw [← hc]; simp only [World.cell?]; rw [e]
  | _ => simp [World.cell?, hbk] at hc
end
section
set_option linter.unusedSimpArgs false
set_option linter.unusedVariables false
open Go.RowKit
section
variable {P : Program} {ops : Array Oper} {Q : Exit → Act → World → Prop} {md : Region.Mode} {S : World → Prop} {J : Nat → Bool}
/-- Whatever order is drawn from here on; behind each operation of J the condition S holds. -/
def AnyJ (P : Program) (md : Region.Mode) (ops : Array Oper) (Q : Exit → Act → World → Prop) (S : World → Prop) (J : Nat → Bool) : Nat → Array Bool → Act → World → Prop
 | 0, ls, a, w => Region.ready md ops ls = [] ∧ Q .normal a w
 | f + 1, ls, a, w => (Region.ready md ops ls = [] → Q .normal a w) ∧
   ∀ i ∈ Region.ready md ops ls, wpOp P ops Q i (fun b v => (J i = true → S v) ∧ AnyJ P md ops Q S J f (ls.setIfInBounds i true) b v) a w
theorem AnyJ.any : ∀ (f : Nat) (ls : Array Bool) (a : Act) (w : World), AnyJ P md ops Q S J f ls a w → wpAny P md ops Q f ls a w
 | 0, _, _, _, h => h
 | f + 1, _, _, _, h => ⟨h.1, fun i hi => wpOp_mono (fun b v h' => AnyJ.any f _ b v h'.2) (h.2 i hi)⟩
/-- Each operation that is not listed yet is in J, or is i, or waits for i. -/
def waitsB (md : Region.Mode) (ops : Array Oper) (ls : Array Bool) (i : Nat) (J : Nat → Bool) : Bool :=
 (List.range ops.size).all fun j => match ops[j]? with
  | none => true
  | some o => ls.getD j true || J j || (j == i || o.after.any fun e => Region.binds md e && e.on == i)
theorem waitsB_spec {i : Nat} {ls : Array Bool} (h : waitsB md ops ls i J = true) (j : Nat) (o : Oper) (ho : ops[j]? = some o) (hj : j ≠ i) (hu : ls.getD j true = false) (hn : ∀ e ∈ o.after, Region.binds md e = true → e.on ≠ i) : J j = true := by
 have hlt : j < ops.size := (Array.getElem?_eq_some_iff.1 ho).1
 have := (List.all_eq_true.1 h) j (List.mem_range.2 hlt)
 rw [ho] at this
 simp only [hu, Bool.false_or, Bool.or_eq_true, beq_iff_eq] at this
 rcases this with h1 | h1 | h1
 ·
  exact h1
 ·
  exact absurd h1 hj
 ·
  obtain ⟨e, he, hb⟩ := Array.any_eq_true'.1 h1
  simp only [Bool.and_eq_true, beq_iff_eq] at hb
  exact absurd hb.2 (hn e he hb.1)
theorem AnyJ.first {i : Nat} {o : Oper} {v : Value} (hi : ops[i]? = some o) (hsel : ∀ (j : Nat) (o : Oper) cs b, ops[j]? = some o → o.op ≠ .select cs b) (hQ : ∀ c a w, Q (.panic c) (a.put o.dst v) w → Q (.panic c) a w) :
  ∀ (f : Nat) (ls : Array Bool) (a : Act) (w : World),
   (∀ j oj, ops[j]? = some oj → j ≠ i → ls.getD j true = false → (∀ e ∈ oj.after, Region.binds md e = true → e.on ≠ i) → o.apart ops oj = true) →
   (∀ j oj, ops[j]? = some oj → j ≠ i → ls.getD j true = false → (∀ e ∈ oj.after, Region.binds md e = true → e.on ≠ i) → J j = true) →
   i ∈ Region.ready md ops ls → YieldsIf P ops S o v a → S w → AnyJ P md ops Q S J f (ls.setIfInBounds i true) (a.put o.dst v) w → AnyJ P md ops Q S J (f + 1) ls a w
 | 0, ls, a, w, _, _, hr, hy, hS, H => by
  refine ⟨fun e => absurd hr (by rw [e]; exact List.not_mem_nil), fun j hj => ?_⟩
  rcases Nat.decEq j i with hne | he
  ·
   have := ready_mono hj hne
   rw [H.1] at this
   exact absurd this List.not_mem_nil
  ·
   subst he
   exact hy.wpOp hi hS ⟨fun _ => hS, H⟩
 | f + 1, ls, a, w, hfr, hJ, hr, hy, hS, H => by
  refine ⟨fun e => absurd hr (by rw [e]; exact List.not_mem_nil), fun j hj => ?_⟩
  rcases Nat.decEq j i with hne | he
  ·
   obtain ⟨hun, oj, hoj, hpre⟩ := mem_ready.1 hj
   have hiun := (mem_ready.1 hr).1
   have hno : ∀ e ∈ oj.after, Region.binds md e = true → e.on ≠ i := by
    intro e he hb hei
    have g := hpre e he hb
    rw [hei] at g
    by_cases hlt : i < ls.size
    ·
     simp [hlt] at hiun g
     rw [hiun] at g
     exact Bool.noConfusion g
    ·
     simp [Array.getElem?_eq_none (by omega : ls.size ≤ i)] at g
   have hs := hJ j oj hoj hne hun hno
   have hput := wpOp_putIf hoj (hfr j oj hoj hne hun hno) (fun cs b => hsel i o cs b hi) (fun cs b => hsel j oj cs b hoj) hQ hy (H.2 j (ready_mono hj hne))
   refine wpOp_mono (fun b u h3 => ⟨h3.2.1, AnyJ.first hi hsel hQ f _ b u ?_ ?_ (ready_mono hr (Ne.symm hne)) h3.1 (h3.2.1 hs) (by rw [Array.setIfInBounds_comm _ _ hne]; exact h3.2.2)⟩) hput
   ·
    intro k ok hk hki hku hkn
    refine hfr k ok hk hki ?_ hkn
    rcases Nat.decEq j k with hjk | hjk
    ·
     rwa [getD_set_ne true hjk] at hku
    ·
     subst hjk; exact hun
   ·
    intro k ok hk hki hku hkn
    refine hJ k ok hk hki ?_ hkn
    rcases Nat.decEq j k with hjk | hjk
    ·
     rwa [getD_set_ne true hjk] at hku
    ·
     subst hjk; exact hun
  ·
   subst he
   exact hy.wpOp hi hS ⟨fun _ => hS, H⟩
theorem AnyJ.take {i : Nat} {o : Oper} {v : Value} {f : Nat} {ls : Array Bool} {a : Act} {w : World} (hi : ops[i]? = some o) (hs : Region.noSelect ops = true) (hf : Region.free md ops ls i = true) (hr : (Region.ready md ops ls).contains i = true)
  (hJ : waitsB md ops ls i J = true) (hQ : ∀ c a w, Q (.panic c) (a.put o.dst v) w → Q (.panic c) a w) (hy : YieldsIf P ops S o v a) (hS : S w)
  (h : AnyJ P md ops Q S J f (ls.setIfInBounds i true) (a.put o.dst v) w) : AnyJ P md ops Q S J (f + 1) ls a w :=
 AnyJ.first hi (Region.noSelect_spec hs) hQ f ls a w (Region.free_spec hi hf) (waitsB_spec hJ) (by simpa using hr) hy hS h
/-- What yields in whatever world is taken first without more. -/
theorem AnyJ.firstY {i : Nat} {o : Oper} {v : Value} (hi : ops[i]? = some o) (hsel : ∀ (j : Nat) (o : Oper) cs b, ops[j]? = some o → o.op ≠ .select cs b) (hQ : ∀ c a w, Q (.panic c) (a.put o.dst v) w → Q (.panic c) a w) :
  ∀ (f : Nat) (ls : Array Bool) (a : Act) (w : World),
   (∀ j oj, ops[j]? = some oj → j ≠ i → ls.getD j true = false → (∀ e ∈ oj.after, Region.binds md e = true → e.on ≠ i) → o.apart ops oj = true) →
   i ∈ Region.ready md ops ls → Yields P ops o v a → (J i = true → S w) → J i = false → AnyJ P md ops Q S J f (ls.setIfInBounds i true) (a.put o.dst v) w → AnyJ P md ops Q S J (f + 1) ls a w
 | 0, ls, a, w, _, hr, hy, hS, hji, H => by
  refine ⟨fun e => absurd hr (by rw [e]; exact List.not_mem_nil), fun j hj => ?_⟩
  rcases Nat.decEq j i with hne | he
  ·
   have := ready_mono hj hne
   rw [H.1] at this
   exact absurd this List.not_mem_nil
  ·
   subst he
   exact hy.wpOp hi ⟨hS, H⟩
 | f + 1, ls, a, w, hfr, hr, hy, hS, hji, H => by
  refine ⟨fun e => absurd hr (by rw [e]; exact List.not_mem_nil), fun j hj => ?_⟩
  rcases Nat.decEq j i with hne | he
  ·
   obtain ⟨hun, oj, hoj, hpre⟩ := mem_ready.1 hj
   have hiun := (mem_ready.1 hr).1
   have hno : ∀ e ∈ oj.after, Region.binds md e = true → e.on ≠ i := by
    intro e he hb hei
    have g := hpre e he hb
    rw [hei] at g
    by_cases hlt : i < ls.size
    ·
     simp [hlt] at hiun g
     rw [hiun] at g
     exact Bool.noConfusion g
    ·
     simp [Array.getElem?_eq_none (by omega : ls.size ≤ i)] at g
   have hput := wpOp_put hoj (hfr j oj hoj hne hun hno) (fun cs b => hsel i o cs b hi) (fun cs b => hsel j oj cs b hoj) hQ hy (H.2 j (ready_mono hj hne))
   refine wpOp_mono (fun b u h3 => ⟨h3.2.1, AnyJ.firstY hi hsel hQ f _ b u ?_ (ready_mono hr (Ne.symm hne)) h3.1 (fun h => by rw [hji] at h; cases h) hji (by rw [Array.setIfInBounds_comm _ _ hne]; exact h3.2.2)⟩) hput
   intro k ok hk hki hku hkn
   refine hfr k ok hk hki ?_ hkn
   rcases Nat.decEq j k with hjk | hjk
   ·
    rwa [getD_set_ne true hjk] at hku
   ·
    subst hjk; exact hun
  ·
   subst he
   exact hy.wpOp hi ⟨hS, H⟩
theorem AnyJ.takeY {i : Nat} {o : Oper} {v : Value} {f : Nat} {ls : Array Bool} {a : Act} {w : World} (hi : ops[i]? = some o) (hs : Region.noSelect ops = true) (hf : Region.free md ops ls i = true) (hr : (Region.ready md ops ls).contains i = true)
  (hJ : J i = false) (hQ : ∀ c a w, Q (.panic c) (a.put o.dst v) w → Q (.panic c) a w) (hy : Yields P ops o v a)
  (h : AnyJ P md ops Q S J f (ls.setIfInBounds i true) (a.put o.dst v) w) : AnyJ P md ops Q S J (f + 1) ls a w :=
 AnyJ.firstY hi (Region.noSelect_spec hs) hQ f ls a w (Region.free_spec hi hf) (by simpa using hr) hy (fun h => by rw [hJ] at h; cases h) hJ h
theorem AnyJ.one {i : Nat} {o : Oper} {f : Nat} {ls : Array Bool} {a : Act} {w : World} (hr : Region.ready md ops ls = [i]) (ho : ops[i]? = some o)
  (h : ∀ K : Act → World → Prop, (∀ b v, (J i = true → S v) → AnyJ P md ops Q S J f (ls.setIfInBounds i true) b v → K b v) → if Region.wanted o (yielded ops a.tmps) = true then Oper.wp P o a w K Q else K (a.put o.dst undef) w) : AnyJ P md ops Q S J (f + 1) ls a w :=
 ⟨fun e => absurd e (by rw [hr]; exact List.cons_ne_nil _ _), fun j hj => by
  rw [hr, List.mem_singleton] at hj
  subst hj
  exact wpOp_step ho (fun K hK => h K (fun b v h1 h2 => hK b v ⟨h1, h2⟩))⟩
theorem AnyJ.two {i j : Nat} {o p : Oper} {f : Nat} {ls : Array Bool} {a : Act} {w : World} (hr : Region.ready md ops ls = [i, j]) (ho : ops[i]? = some o) (hp : ops[j]? = some p)
  (h : ∀ K : Act → World → Prop, (∀ b v, (J i = true → S v) → AnyJ P md ops Q S J f (ls.setIfInBounds i true) b v → K b v) → if Region.wanted o (yielded ops a.tmps) = true then Oper.wp P o a w K Q else K (a.put o.dst undef) w)
  (k : ∀ K : Act → World → Prop, (∀ b v, (J j = true → S v) → AnyJ P md ops Q S J f (ls.setIfInBounds j true) b v → K b v) → if Region.wanted p (yielded ops a.tmps) = true then Oper.wp P p a w K Q else K (a.put p.dst undef) w) : AnyJ P md ops Q S J (f + 1) ls a w :=
 ⟨fun e => absurd e (by rw [hr]; exact List.cons_ne_nil _ _), fun q hq => by
  rw [hr] at hq
  rcases List.mem_cons.1 hq with e | e
  ·
   subst e; exact wpOp_step ho (fun K hK => h K (fun b v h1 h2 => hK b v ⟨h1, h2⟩))
  ·
   rw [List.mem_singleton] at e
   subst e; exact wpOp_step hp (fun K hK => k K (fun b v h1 h2 => hK b v ⟨h1, h2⟩))⟩
theorem AnyJ.done {ls : Array Bool} {a : Act} {w : World} (hr : Region.ready md ops ls = []) (h : Q .normal a w) : ∀ f, AnyJ P md ops Q S J f ls a w
 | 0 => ⟨hr, h⟩
 | _ + 1 => ⟨fun _ => h, fun i hi => by rw [hr] at hi; exact absurd hi List.not_mem_nil⟩
/-- The beginning, within a round. -/
theorem AnyJ.begin {l n id : Nat} {a : Act} {w : World} (S : World → Prop) (J : Nat → Bool) (hm : P.follows .mixedOrders = true) (ht : tameOps ops = true) (hQ : ¬ LetsOut Q)
  (h : AnyJ P .any ops Q S J ops.size (Array.replicate ops.size false) a w.drew) : (Code.region id ops true).wpIn (Fence.wide.inRound l) n P Q a w :=
 wpIn_region_any hm (any_in ht hQ _ _ _ _ (AnyJ.any _ _ _ _ h))
end
end
section
set_option linter.unusedSimpArgs false
set_option linter.unusedVariables false
open Go.RowKit
/-- Only blocks of o turn (and new blocks may be there). -/
def Ch (o : Nat → Prop) (A B : World) : Prop := B.os = A.os ∧ B.tape = A.tape ∧ B.output = A.output ∧ A.heap.size ≤ B.heap.size ∧ ∀ k, k < A.heap.size → ¬ o k → B.heap[k]? = A.heap[k]?
theorem Ch.refl (o : Nat → Prop) (A : World) : Ch o A A := ⟨rfl, rfl, rfl, Nat.le_refl _, fun _ _ _ => rfl⟩
theorem Ch.trans {o : Nat → Prop} {A B C : World} (h : Ch o A B) (k : Ch o B C) : Ch o A C :=
 ⟨k.1.trans h.1, k.2.1.trans h.2.1, k.2.2.1.trans h.2.2.1, Nat.le_trans h.2.2.2.1 k.2.2.2.1, fun i hi ho => (k.2.2.2.2 i (Nat.lt_of_lt_of_le hi h.2.2.2.1) ho).trans (h.2.2.2.2 i hi ho)⟩
theorem Ch.mono {o p : Nat → Prop} {A B : World} (h : Ch o A B) (hp : ∀ k, k < A.heap.size → o k → p k) : Ch p A B := ⟨h.1, h.2.1, h.2.2.1, h.2.2.2.1, fun k hk hn => h.2.2.2.2 k hk (fun ho => hn (hp k hk ho))⟩
theorem Ch.size {o : Nat → Prop} {A B : World} (h : Ch o A B) : A.heap.size ≤ B.heap.size := h.2.2.2.1
theorem Ch.of_grown {o : Nat → Prop} {A B : World} {row : Option Nat} (h : A.grownBy B row) (hr : ∀ k, row = some k → o k) : Ch o A B :=
 ⟨h.os, h.tape, h.output, h.size, fun k hk hn => h.block k hk (fun e => hn (hr k e.symm))⟩
theorem Ch.alloc {o : Nat → Prop} {A W : World} (h : Ch o A W) (x : Obj) : Ch o A (W.alloc x) := h.trans ⟨rfl, rfl, rfl, by simp, fun k hk _ => Below.heap_alloc _ _ _ hk⟩
theorem Ch.drew {o : Nat → Prop} {A W : World} (h : Ch o A W) : Ch o A W.drew := h.trans ⟨rfl, rfl, rfl, Nat.le_refl _, fun _ _ _ => rfl⟩
theorem Ch.setCell {o : Nat → Prop} {A W : World} (h : Ch o A W) {p : Addr} (hp : o p.block) (v : Value) : Ch o A (W.setCell p v) :=
 h.trans ⟨rfl, rfl, rfl, by simp [World.setCell], fun k hk hn => Below.heap_setCell _ _ _ _ (fun e => hn (by rw [e]; exact hp))⟩
theorem Ch.below {o : Nat → Prop} {A B w0 : World} {b : Nat} (h : Ch o A B) (hb : Below b w0 A) (ho : ∀ k, o k → b ≤ k) (hs : b ≤ A.heap.size) : Below b w0 B :=
 hb.trans ⟨h.1, h.2.1, h.2.2.1, h.2.2.2.1, fun k hk => h.2.2.2.2 k (Nat.lt_of_lt_of_le hk hs) (fun hh => by have := ho k hh; omega)⟩
theorem Row.ch {o : Nat → Prop} {A B : World} {b : Nat} {cs : List Value} (h : Row A b cs) (k : Ch o A B) (hn : ¬ o b) : Row B b cs := h.of_block (k.2.2.2.2 b h.lt hn)
theorem OwnV.ch {o : Nat → Prop} {A B : World} {base : Nat} {v : Value} {zs : List Int} (h : OwnV A base v zs) (k : Ch o A B) (hn : ∀ g, v.ownBlock = some g → ¬ o g) : OwnV B base v zs := by
 refine ⟨h.1, ?_⟩
 rcases h.2 with h2 | ⟨g, cap, cur, rfl, e2, e3, e4⟩
 ·
  exact Or.inl h2
 ·
  exact Or.inr ⟨g, cap, cur, rfl, e2, (k.2.2.2.2 g (Array.getElem?_eq_some_iff.1 e3).1 (hn g rfl)).trans e3, e4⟩
theorem OwnV.lt {w : World} {base : Nat} {v : Value} {zs : List Int} (h : OwnV w base v zs) {g : Nat} (hg : v.ownBlock = some g) : base ≤ g ∧ g < w.heap.size := World.ownsRow.lt h g hg
theorem Ch.others {o : Nat → Prop} {A B : World} (h : Ch o A B) (ho : ∀ k, o k → ∃ cs T fr, A.heap[k]? = some (.cells cs T fr)) : KeepsOthers A B :=
 ⟨h.2.2.2.1, fun k x hk hc => (h.2.2.2.2 k (Array.getElem?_eq_some_iff.1 hk).1 (fun hh => by
  obtain ⟨cs, T, fr, e⟩ := ho k hh
  rw [e] at hk
  cases hk
  simp [Obj.isCells] at hc)).trans hk⟩
theorem OwnV.isCells {w : World} {base : Nat} {v : Value} {zs : List Int} (h : OwnV w base v zs) {g : Nat} (hg : v.ownBlock = some g) : ∃ cs T fr, w.heap[g]? = some (.cells cs T fr) := by
 rcases h.2 with ⟨rfl, _⟩ | ⟨g', cap, cur, rfl, e2, e3, e4⟩
 ·
  simp [Value.ownBlock] at hg
 ·
  simp [Value.ownBlock] at hg
  subst hg
  exact ⟨_, _, _, e3⟩
/-- 'append' of one int to a slice of the call's own, as a step of a region that draws; and where the new slice lies. -/
theorem step_app_int {ops : Array Oper} {o : Oper} {a : Act} {w : World} {K : Act → World → Prop} {Q : Exit → Act → World → Prop} {E : Prop}
  (hg : o.guard = none) (s x : Operand) (t : TypeId) (hop : o.op = Op.call { callee := Callee.builtin Builtin.append, args := #[s, x], argTypes := #[t, t] }) (ht : Try.prog.underlying t = some (.slice 3))
  (base : Nat) (v : Value) (zs : List Int) (hs : a.eval s = v) (hown : OwnV w base v zs) (g c : Nat) (z : Int) (hx : a.eval x = .slice (some ⟨g, 0, none⟩) 1 c) (hc : w.cell? ⟨g, 0, none⟩ = some (.int .i64 z)) (hn : zs.length ≤ 1000000000000) (hbase : base ≤ w.heap.size)
  (hK : ∀ gg cap w', OwnV w' base (.slice (some ⟨gg, 0, none⟩) (zs.length + 1) cap) (zs ++ [z]) → w.grownBy w' v.ownBlock → (v.ownBlock = some gg ∨ gg = w.heap.size) → K (a.put o.dst (.slice (some ⟨gg, 0, none⟩) (zs.length + 1) cap)) w') :
  if Region.wanted o (yielded ops a.tmps) = true then Oper.wp Try.prog o a w K Q else E := by
 obtain ⟨i0, hi, hz0, hz1, hz2⟩ := info_parts info_int
 refine step_append_lies w hg s x t hop base 3 i0 (.int .i64 0) 1 8 ht hi hz0 hz1 hz2 rfl (by decide) v zs.length _ hs hown ⟨g, 0, none⟩ 1 c [.int .i64 z] hx rfl ?_ ?_ (by omega) ?_ ?_ hbase _ rfl ?_
 ·
  intro j u hj
  cases j with
  | zero => simp at hj; subst hj; exact hc
  | succ j => simp at hj
 ·
  intro u hu; simp at hu; subst hu; rfl
 ·
  unfold maxLen; omega
 ·
  omega
 ·
  intro gg cap w' h1 h2 h3 _
  exact hK gg cap w' (by unfold OwnV; simpa using h1) h2 h3
end
end Go.Proofs.Ytcmodmchnokmgaa
