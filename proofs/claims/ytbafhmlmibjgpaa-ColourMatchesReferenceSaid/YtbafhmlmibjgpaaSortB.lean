/-
  Plain facts on stable sorting in place, second part: blocks that are sorted, and merged two by two. No program is in sight here.
-/
import Derived.Test.YtbafhmlmibjgpaaSortA
namespace Go.Proofs.Ytbafhmlmibjgpaa
set_option linter.unusedSimpArgs false
set_option linter.unusedVariables false

/-- The block of size s from place p on is sorted, and holds what stood there at the beginning. -/
structure BlkAt (key : Int → Int) (O zs : List Int) (n s p : Nat) : Prop where
  srt : SrtI key zs p (min (p + s) n)
  mem : ∀ i, p ≤ i → i < min (p + s) n → ∃ j, p ≤ j ∧ j < min (p + s) n ∧ zs.getD i 0 = O.getD j 0

theorem BlkAt.congr {key : Int → Int} {O zs zs' : List Int} {n s p : Nat} (h : BlkAt key O zs n s p) (e : ∀ i, p ≤ i → i < p + s → zs'.getD i 0 = zs.getD i 0) : BlkAt key O zs' n s p := by
  refine ⟨h.srt.congr fun i a b => e i a (by omega), fun i a b => ?_⟩
  rw [e i a (by omega)]; exact h.mem i a b
theorem BlkAt.past (key : Int → Int) (O zs : List Int) {n s p : Nat} (h : n ≤ p) : BlkAt key O zs n s p :=
  ⟨fun i j a b c => by omega, fun i a b => by omega⟩
/-- A block that has just been sorted. -/
theorem BlkAt.ins {key : Int → Int} {O zs zs' : List Int} {n s a b : Nat} (hb : b = min (a + s) n) (h0 : ∀ i, a ≤ i → zs.getD i 0 = O.getD i 0) (hr : Rea zs zs' a b) (hs : SrtI key zs' a b) : BlkAt key O zs' n s a := by
  subst hb
  refine ⟨hs, fun i h1 h2 => ?_⟩
  obtain ⟨j, j1, j2, e⟩ := hr.mem i h1 h2
  exact ⟨j, j1, j2, e.trans (h0 j j1)⟩
/-- Two blocks that have just been merged. -/
theorem BlkAt.merge {key : Int → Int} {O zs zs' : List Int} {n s a b : Nat} (hb : b = min (a + 2 * s) n) (h1 : BlkAt key O zs n s a) (h2 : BlkAt key O zs n s (a + s)) (hr : Rea zs zs' a b) (hs : SrtI key zs' a b) : BlkAt key O zs' n (2 * s) a := by
  subst hb
  refine ⟨hs, fun i g1 g2 => ?_⟩
  obtain ⟨j, j1, j2, e⟩ := hr.mem i g1 g2
  by_cases hj : j < a + s
  · obtain ⟨k, k1, k2, e2⟩ := h1.mem j j1 (by omega)
    exact ⟨k, k1, by omega, e.trans e2⟩
  · obtain ⟨k, k1, k2, e2⟩ := h2.mem j (by omega) (by omega)
    exact ⟨k, by omega, by omega, e.trans e2⟩
/-- A block without a second one beside it. -/
theorem BlkAt.alone {key : Int → Int} {O zs : List Int} {n s a : Nat} (h : BlkAt key O zs n s a) (hn : n ≤ a + s) : BlkAt key O zs n (2 * s) a := by
  have e : min (a + 2 * s) n = min (a + s) n := by omega
  exact ⟨by rw [e]; exact h.srt, by rw [e]; exact h.mem⟩
theorem BlkAt.erl {key : Int → Int} {O zs : List Int} {n s a b : Nat} (h1 : BlkAt key O zs n s a) (h2 : BlkAt key O zs n s (a + s)) (hO : ∀ i j, i < j → j < n → O.getD i 0 < O.getD j 0) (hb : b ≤ n) (hb2 : b ≤ a + s + s) :
    ErlI zs a (a + s) b := by
  intro i j g1 g2 g3 g4
  obtain ⟨p, p1, p2, e1⟩ := h1.mem i g1 (by omega)
  obtain ⟨q, q1, q2, e2⟩ := h2.mem j g3 (by omega)
  rw [e1, e2]
  exact hO p q (by omega) (by omega)

/-- While the blocks are sorted one by one. -/
structure PhI (key : Int → Int) (O zs : List Int) (n s a : Nat) : Prop where
  len : zs.length = O.length
  perm : zs.Perm O
  done : ∀ t, t * s < a → BlkAt key O zs n s (t * s)
  rest : ∀ i, a ≤ i → zs.getD i 0 = O.getD i 0
theorem PhI.start (key : Int → Int) (O : List Int) (n s : Nat) : PhI key O O n s 0 := ⟨rfl, .refl _, fun t h => by omega, fun _ _ => rfl⟩
theorem mul_lt_block {t k s : Nat} (h : t * s < k * s + s) : t ≤ k := by
  rcases Nat.lt_or_ge k t with g | g
  · have := Nat.mul_le_mul_right s (show k + 1 ≤ t by omega)
    rw [Nat.succ_mul] at this; omega
  · exact g
theorem PhI.step {key : Int → Int} {O zs zs' : List Int} {n s k b : Nat} (h : PhI key O zs n s (k * s)) (hb : b = min (k * s + s) n) (hr : Rea zs zs' (k * s) b) (hs : SrtI key zs' (k * s) b) :
    PhI key O zs' n s (k * s + s) := by
  refine ⟨hr.len.trans h.len, hr.perm.trans h.perm, fun t ht => ?_, fun i hi => ?_⟩
  · by_cases e : t = k
    · subst e; exact BlkAt.ins hb h.rest hr hs
    · have htk := mul_lt_block ht
      have := Nat.mul_le_mul_right s (show t + 1 ≤ k by omega)
      rw [Nat.succ_mul] at this
      by_cases h0 : s = 0
      · subst h0
        exact ⟨fun i j a b c => by omega, fun i a b => by omega⟩
      · exact (h.done t (by omega)).congr fun i a b => hr.out i (by omega)
  · rw [hr.out i (by omega)]; exact h.rest i (by omega)

/-- All blocks of a size are sorted. -/
structure AllB (key : Int → Int) (O zs : List Int) (n s : Nat) : Prop where
  len : zs.length = O.length
  perm : zs.Perm O
  all : ∀ t, BlkAt key O zs n s (t * s)
theorem PhI.all {key : Int → Int} {O zs : List Int} {n s a : Nat} (h : PhI key O zs n s a) (ha : n ≤ a) : AllB key O zs n s :=
  ⟨h.len, h.perm, fun t => if g : t * s < a then h.done t g else BlkAt.past _ _ _ (by omega)⟩
theorem AllB.whole {key : Int → Int} {O zs : List Int} {n s : Nat} (h : AllB key O zs n s) (hs : n ≤ s) : SrtI key zs 0 n := by
  have := (h.all 0).srt
  rwa [Nat.zero_mul, show min (0 + s) n = n by omega] at this

/-- While the blocks are merged two by two. -/
structure PhM (key : Int → Int) (O zs : List Int) (n s k : Nat) : Prop where
  len : zs.length = O.length
  perm : zs.Perm O
  done : ∀ t, t < k → BlkAt key O zs n (2 * s) (t * (2 * s))
  rest : ∀ t, 2 * k ≤ t → BlkAt key O zs n s (t * s)
theorem AllB.start {key : Int → Int} {O zs : List Int} {n s : Nat} (h : AllB key O zs n s) : PhM key O zs n s 0 := ⟨h.len, h.perm, fun t g => by omega, fun t _ => h.all t⟩
theorem PhM.first {key : Int → Int} {O zs : List Int} {n s k : Nat} (h : PhM key O zs n s k) : BlkAt key O zs n s (k * (2 * s)) ∧ BlkAt key O zs n s (k * (2 * s) + s) := by
  have a := h.rest (2 * k) (by omega)
  have b := h.rest (2 * k + 1) (by omega)
  have e1 : 2 * k * s = k * (2 * s) := by rw [Nat.mul_comm 2 k, Nat.mul_assoc]
  have e2 : (2 * k + 1) * s = k * (2 * s) + s := by rw [Nat.succ_mul, e1]
  rw [e1] at a; rw [e2] at b
  exact ⟨a, b⟩
theorem PhM.step {key : Int → Int} {O zs zs' : List Int} {n s k b : Nat} (h : PhM key O zs n s k) (hb : b = min (k * (2 * s) + 2 * s) n) (hr : Rea zs zs' (k * (2 * s)) b) (hs : SrtI key zs' (k * (2 * s)) b) :
    PhM key O zs' n s (k + 1) := by
  obtain ⟨f1, f2⟩ := h.first
  refine ⟨hr.len.trans h.len, hr.perm.trans h.perm, fun t ht => ?_, fun t ht => ?_⟩
  · by_cases e : t = k
    · subst e; exact BlkAt.merge hb f1 f2 hr hs
    · have := Nat.mul_le_mul_right (2 * s) (show t + 1 ≤ k by omega)
      rw [Nat.succ_mul] at this
      exact (h.done t (by omega)).congr fun i a c => hr.out i (by omega)
  · have := Nat.mul_le_mul_right s ht
    have e2 : 2 * (k + 1) * s = k * (2 * s) + 2 * s := by rw [show 2 * (k + 1) = (k + 1) * 2 by omega, Nat.mul_assoc, Nat.succ_mul]
    exact (h.rest t (by omega)).congr fun i a c => hr.out i (by omega)
theorem PhM.all {key : Int → Int} {O zs : List Int} {n s k : Nat} (h : PhM key O zs n s k) (hn : n ≤ k * (2 * s)) : AllB key O zs n (2 * s) := by
  refine ⟨h.len, h.perm, fun t => ?_⟩
  by_cases g : t < k
  · exact h.done t g
  · have := Nat.mul_le_mul_right (2 * s) (show k ≤ t by omega)
    exact BlkAt.past _ _ _ (by omega)
theorem PhM.last {key : Int → Int} {O zs : List Int} {n s k : Nat} (h : PhM key O zs n s k) (hn : n ≤ k * (2 * s) + s) : AllB key O zs n (2 * s) := by
  refine ⟨h.len, h.perm, fun t => ?_⟩
  by_cases g : t < k
  · exact h.done t g
  · by_cases e : t = k
    · subst e; exact h.first.1.alone hn
    · have := Nat.mul_le_mul_right (2 * s) (show k + 1 ≤ t by omega)
      rw [Nat.succ_mul] at this
      exact BlkAt.past _ _ _ (by omega)

end Go.Proofs.Ytbafhmlmibjgpaa
