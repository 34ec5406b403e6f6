/-
  Plain facts on the greatest shares: the channels by falling share, of equal shares the lesser channel first. No program is in sight here.
-/
import Derived.Test.YtdijdfhlmnhcjaaSortA
namespace Go.Proofs.Ytdijdfhlmnhcjaa
set_option linter.unusedSimpArgs false
set_option linter.unusedVariables false

instance (key : Int → Int) (a b : Int) : Decidable (ltK key a b) := by unfold ltK; exact inferInstance
theorem ltK_total {key : Int → Int} {a b : Int} (h : a ≠ b) : ltK key a b ∨ ltK key b a := by unfold ltK; omega

def insK (key : Int → Int) (x : Int) : List Int → List Int
  | [] => [x]
  | y :: r => if ltK key x y then x :: y :: r else y :: insK key x r
theorem insK_perm (key : Int → Int) (x : Int) : ∀ l : List Int, (insK key x l).Perm (x :: l)
  | [] => .refl _
  | y :: r => by
    unfold insK; split
    · exact .refl _
    · exact ((insK_perm key x r).cons y).trans (.swap x y r)
theorem insK_sorted {key : Int → Int} {x : Int} : ∀ {l : List Int}, l.Pairwise (ltK key) → x ∉ l → (insK key x l).Pairwise (ltK key)
  | [], _, _ => by simp [insK]
  | y :: r, h, hx => by
    obtain ⟨h1, h2⟩ := List.pairwise_cons.1 h
    have hxy : x ≠ y := fun e => hx (by simp [e])
    have hxr : x ∉ r := fun e => hx (by simp [e])
    unfold insK; split
    · rename_i hl
      refine List.pairwise_cons.2 ⟨fun z hz => ?_, h⟩
      rcases List.mem_cons.1 hz with e | e
      · rw [e]; exact hl
      · exact ltK_trans hl (h1 z e)
    · rename_i hl
      refine List.pairwise_cons.2 ⟨fun z hz => ?_, insK_sorted h2 hxr⟩
      rcases List.mem_cons.1 ((insK_perm key x r).mem_iff.1 hz) with e | e
      · rw [e]; exact (ltK_total hxy).resolve_left hl
      · exact h1 z e
def srtK (key : Int → Int) : List Int → List Int
  | [] => []
  | x :: r => insK key x (srtK key r)
theorem srtK_perm (key : Int → Int) : ∀ l : List Int, (srtK key l).Perm l
  | [] => .refl _
  | x :: r => (insK_perm key x _).trans ((srtK_perm key r).cons x)
theorem srtK_sorted {key : Int → Int} : ∀ {l : List Int}, l.Nodup → (srtK key l).Pairwise (ltK key)
  | [], _ => List.Pairwise.nil
  | x :: r, h => by
    obtain ⟨h1, h2⟩ := List.nodup_cons.1 h
    exact insK_sorted (srtK_sorted h2) (fun e => h1 ((srtK_perm key r).mem_iff.1 e))

/-- 0, 1, .. n - 1 -/
def upto (n : Nat) : List Int := (List.range n).map Int.ofNat
theorem upto_length (n : Nat) : (upto n).length = n := by simp [upto]
theorem upto_succ (n : Nat) : upto (n + 1) = upto n ++ [(n : Int)] := by simp [upto, List.range_succ]
theorem upto_getD {n i : Nat} (h : i < n) : (upto n).getD i 0 = (i : Int) := by simp [upto, List.getD, h]
theorem upto_nodup (n : Nat) : (upto n).Nodup := by
  unfold upto
  rw [List.nodup_iff_pairwise_ne, List.pairwise_map]
  exact (List.nodup_iff_pairwise_ne.1 List.nodup_range).imp (fun h e => h (Int.ofNat.inj e))
theorem mem_upto {n : Nat} {x : Int} : x ∈ upto n ↔ 0 ≤ x ∧ x < n := by
  simp only [upto, List.mem_map, List.mem_range]
  constructor
  · rintro ⟨k, hk, rfl⟩; simp; omega
  · rintro ⟨h1, h2⟩; exact ⟨x.toNat, by omega, by simp; omega⟩

/-- The key by which channels are sorted. -/
def shKey (zs : List Int) (i : Int) : Int := -(zs.getD i.toNat 0)
/-- All channels, as Top orders them. -/
def topAll (zs : List Int) : List Int := srtK (shKey zs) (upto zs.length)
theorem topAll_perm (zs : List Int) : (topAll zs).Perm (upto zs.length) := srtK_perm _ _
theorem topAll_sorted (zs : List Int) : (topAll zs).Pairwise (ltK (shKey zs)) := srtK_sorted (upto_nodup _)
theorem topAll_length (zs : List Int) : (topAll zs).length = zs.length := by rw [(topAll_perm zs).length_eq, upto_length]
theorem topAll_unique {zs l : List Int} (hp : l.Perm (upto zs.length)) (hs : SrtI (shKey zs) l 0 zs.length) : l = topAll zs := by
  have hl : l.length = zs.length := by rw [hp.length_eq, upto_length]
  exact srt_unique (hp.trans (topAll_perm zs).symm) (SrtI.pairwise (by rw [hl]; exact hs)) (topAll_sorted zs)
theorem topAll_mem {zs : List Int} {x : Int} : x ∈ topAll zs ↔ 0 ≤ x ∧ x < zs.length := by rw [(topAll_perm zs).mem_iff, mem_upto]
theorem topAll_nodup (zs : List Int) : (topAll zs).Nodup := (topAll_perm zs).nodup_iff.2 (upto_nodup _)

/-- The first channels, and what they sell together. -/
def topL (zs : List Int) (k : Nat) : List Int := (topAll zs).take k
def atL (zs l : List Int) : List Int := l.map fun i => zs.getD i.toNat 0
def topS (zs : List Int) (k : Nat) : Int := (atL zs (topL zs k)).sum
theorem topL_length (zs : List Int) (k : Nat) : (topL zs k).length = min k zs.length := by unfold topL; rw [List.length_take, topAll_length]
theorem topL_mem {zs : List Int} {k : Nat} {x : Int} (h : x ∈ topL zs k) : 0 ≤ x ∧ x < zs.length := topAll_mem.1 (List.mem_of_mem_take h)
theorem topL_nodup (zs : List Int) (k : Nat) : (topL zs k).Nodup := (topAll_nodup zs).sublist (List.take_sublist _ _)

/-- Are all numbers from 0 to 400? -/
def shIn (zs : List Int) : Prop := ∀ z ∈ zs, 0 ≤ z ∧ z ≤ 400
theorem shIn.getD {zs : List Int} (h : shIn zs) (i : Nat) : 0 ≤ zs.getD i 0 ∧ zs.getD i 0 ≤ 400 := by
  by_cases hi : i < zs.length
  · have := h zs[i] (List.getElem_mem hi)
    simpa [List.getD, hi] using this
  · simp [List.getD, hi]
theorem atL_sum_bounds {zs : List Int} (h : shIn zs) : ∀ l : List Int, 0 ≤ (atL zs l).sum ∧ (atL zs l).sum ≤ 400 * l.length
  | [] => by simp [atL]
  | x :: r => by
    have ih := atL_sum_bounds h r
    have g := h.getD x.toNat
    unfold atL at ih ⊢
    simp only [List.map_cons, List.sum_cons, List.length_cons]
    omega
theorem atL_take_succ {zs l : List Int} {j : Nat} (hj : j < l.length) : (atL zs (l.take (j + 1))).sum = (atL zs (l.take j)).sum + zs.getD (l.getD j 0).toNat 0 := by
  rw [List.take_succ_eq_append_getElem hj]
  unfold atL
  rw [List.map_append, List.sum_append]
  simp [List.getD, hj]

end Go.Proofs.Ytdijdfhlmnhcjaa
