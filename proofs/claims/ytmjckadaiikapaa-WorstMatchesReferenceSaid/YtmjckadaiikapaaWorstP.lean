/-
  Plain facts on how many guests are walked at most, and on the scene in which that many are: no program is in sight here.
-/
import Derived.Test.YtmjckadaiikapaaTopR
namespace Go.Proofs.Ytmjckadaiikapaa
set_option linter.unusedSimpArgs false
set_option linter.unusedVariables false

/-- How many guests are walked at most. -/
def wkI (rooms sold : Int) (zs : List Int) (c : Nat) : Int := max 0 (sold - rooms + topS zs c)

/-- What the channels sell, one after the other, until nothing is left. -/
def sellC (zs : List Int) : Int → List Int → List Int
  | _, [] => []
  | left, i :: r => if left = 0 then [] else i :: sellC zs (left - min left (shr zs i)) r
def sellS (zs : List Int) : Int → List Int → List Int
  | _, [] => []
  | left, i :: r => if left = 0 then [] else min left (shr zs i) :: sellS zs (left - min left (shr zs i)) r
theorem map_nonneg {f : Int → Int} : ∀ (q : List Int), (∀ j ∈ q, 0 ≤ f j) → 0 ≤ (q.map f).sum
  | [], _ => by simp
  | x :: q, hq => by
    have a := hq x (by simp)
    have b := map_nonneg q (fun j hj => hq j (by simp [hj]))
    simp only [List.map_cons, List.sum_cons]; omega
theorem sellC_zero (zs : List Int) : ∀ l, sellC zs 0 l = []
  | [] => rfl
  | i :: r => by simp [sellC]
theorem sellS_zero (zs : List Int) : ∀ l, sellS zs 0 l = []
  | [] => rfl
  | i :: r => by simp [sellS]
theorem sell_len (zs : List Int) : ∀ (l : List Int) (left : Int), (sellC zs left l).length = (sellS zs left l).length
  | [], _ => rfl
  | i :: r, left => by
    unfold sellC sellS
    split
    · rfl
    · simp [sell_len zs r]
theorem sellC_prefix (zs : List Int) : ∀ (l : List Int) (left : Int), sellC zs left l <+: l
  | [], _ => ⟨[], rfl⟩
  | i :: r, left => by
    unfold sellC
    split
    · exact ⟨_, rfl⟩
    · obtain ⟨t, ht⟩ := sellC_prefix zs r (left - min left (shr zs i))
      exact ⟨t, by rw [List.cons_append, ht]⟩
theorem sellS_in (zs : List Int) : ∀ (l : List Int) (left : Int) (k : Nat), 0 ≤ left → (∀ i ∈ l, 0 ≤ shr zs i) → k < (sellS zs left l).length →
    0 ≤ (sellS zs left l).getD k 0 ∧ (sellS zs left l).getD k 0 ≤ shr zs (l.getD k 0)
  | [], _, k, _, _, h => by simp [sellS] at h
  | i :: r, left, k, h0, hp, h => by
    have hi := hp i (by simp)
    unfold sellS at h ⊢
    split at h
    · simp at h
    · rename_i hne
      rw [if_neg hne]
      cases k with
      | zero => simp only [List.getD_cons_zero]; omega
      | succ k =>
        simp only [List.getD_cons_succ]
        exact sellS_in zs r _ k (by omega) (fun j hj => hp j (by simp [hj])) (by simpa using h)
/-- If they have enough, they sell all that is left. -/
theorem sellS_sum (zs : List Int) : ∀ (l : List Int) (left : Int), 0 ≤ left → (∀ i ∈ l, 0 ≤ shr zs i) → left ≤ (l.map (shr zs)).sum → (sellS zs left l).sum = left
  | [], left, h0, _, h => by simp at h; simp [sellS]; omega
  | i :: r, left, h0, hp, h => by
    have hi := hp i (by simp)
    unfold sellS
    simp only [List.map_cons, List.sum_cons] at h
    split
    · rename_i e; simp [e]
    · have ih := sellS_sum zs r (left - min left (shr zs i)) (by omega) (fun j hj => hp j (by simp [hj])) (by
        have hs : 0 ≤ (r.map (shr zs)).sum := by
          have : ∀ (q : List Int), (∀ j ∈ q, 0 ≤ shr zs j) → 0 ≤ (q.map (shr zs)).sum := by
            intro q
            induction q with
            | nil => intro _; simp
            | cons x q ih => intro hq; have a := hq x (by simp); have b := ih (fun j hj => hq j (by simp [hj])); simp only [List.map_cons, List.sum_cons]; omega
          exact this r (fun j hj => hp j (by simp [hj]))
        omega)
      simp only [List.sum_cons, ih]
      omega
/-- Each of them sells at least one, if shares fall and there are enough. -/
theorem sellS_pos (zs : List Int) : ∀ (l : List Int) (left : Int) (k : Nat), 0 ≤ left → (∀ i ∈ l, 0 ≤ shr zs i) → l.Pairwise (fun a b => shr zs b ≤ shr zs a) → left ≤ (l.map (shr zs)).sum →
    k < (sellS zs left l).length → 1 ≤ (sellS zs left l).getD k 0
  | [], _, k, _, _, _, _, h => by simp [sellS] at h
  | i :: r, left, k, h0, hp, hd, hs, h => by
    have hi := hp i (by simp)
    obtain ⟨d1, d2⟩ := List.pairwise_cons.1 hd
    simp only [List.map_cons, List.sum_cons] at hs
    unfold sellS at h ⊢
    split at h
    · simp at h
    · rename_i hne
      rw [if_neg hne]
      have hip : 1 ≤ shr zs i := by
        by_cases hz : 1 ≤ shr zs i
        · exact hz
        · have hall : ∀ (q : List Int), (∀ j ∈ q, shr zs j ≤ shr zs i) → (q.map (shr zs)).sum ≤ 0 := by
            intro q
            induction q with
            | nil => intro _; simp
            | cons x q ih => intro hq; have a := hq x (by simp); have b := ih (fun j hj => hq j (by simp [hj])); simp only [List.map_cons, List.sum_cons]; omega
          have := hall r d1
          omega
      cases k with
      | zero => simp only [List.getD_cons_zero]; omega
      | succ k =>
        simp only [List.getD_cons_succ]
        exact sellS_pos zs r _ k (by omega) (fun j hj => hp j (by simp [hj])) d2 (by have := map_nonneg r (fun j hj => hp j (by simp [hj])); omega) (by simpa using h)
/-- With one channel less there is less than all that is left. -/
theorem sellC_least (zs : List Int) : ∀ (l : List Int) (left : Int) (k : Nat), 0 ≤ left → (∀ i ∈ l, 0 ≤ shr zs i) → (sellC zs left l).length = k + 1 → ((l.take k).map (shr zs)).sum < left
  | [], _, k, _, _, h => by simp [sellC] at h
  | i :: r, left, k, h0, hp, h => by
    have hi := hp i (by simp)
    unfold sellC at h
    split at h
    · simp at h
    · rename_i hne
      simp only [List.length_cons] at h
      cases k with
      | zero => simp; omega
      | succ k =>
        have ih := sellC_least zs r (left - min left (shr zs i)) k (by omega) (fun j hj => hp j (by simp [hj])) (by omega)
        have hpos : ∀ (q : List Int), (∀ j ∈ q, 0 ≤ shr zs j) → 0 ≤ (q.map (shr zs)).sum := by
          intro q
          induction q with
          | nil => intro _; simp
          | cons x q ih => intro hq; have a := hq x (by simp); have b := ih (fun j hj => hq j (by simp [hj])); simp only [List.map_cons, List.sum_cons]; omega
        have h3 := hpos (r.take k) (fun j hj => hp j (by simp [List.mem_of_mem_take hj]))
        simp only [List.take_succ_cons, List.map_cons, List.sum_cons]
        omega

end Go.Proofs.Ytmjckadaiikapaa
