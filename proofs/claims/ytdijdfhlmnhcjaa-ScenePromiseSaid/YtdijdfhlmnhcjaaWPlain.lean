/-
  Plain facts for the statements on the worst that can happen: the first night that breaks a promise; its scene.
-/
import Derived.Test.YtdijdfhlmnhcjaaPromB
import Derived.Test.YtdijdfhlmnhcjaaOpenN
namespace Go.Proofs.Ytdijdfhlmnhcjaa
set_option linter.unusedSimpArgs false
set_option linter.unusedVariables false
open Go.RowKit

theorem idxN_at {p : NightV → Bool} : ∀ {l : List NightV} {k i : Nat}, idxN p l k = (i : Int) → k ≤ i ∧ ∃ x, l[i - k]? = some x ∧ p x = true ∧ ∀ j y, j < i - k → l[j]? = some y → p y = false
  | [], k, i, h => by simp [idxN] at h
  | z :: r, k, i, h => by
    by_cases hz : p z = true
    · have e : (k : Int) = i := by simpa [idxN, hz] using h
      have e' : k = i := by omega
      subst e'
      refine ⟨Nat.le_refl _, z, by simp, hz, fun j y hj => by omega⟩
    · have h2 : idxN p r (k + 1) = (i : Int) := by simpa [idxN, hz] using h
      obtain ⟨h3, x, h4, h5, h6⟩ := idxN_at h2
      refine ⟨by omega, x, ?_, h5, fun j y hj hy => ?_⟩
      · rw [show i - k = (i - (k + 1)) + 1 by omega]; simpa using h4
      · cases j with
        | zero => simp at hy; subst hy; simpa using hz
        | succ j => exact h6 j y (by omega) (by simpa using hy)
/-- Which way Promise goes. -/
theorem first_brk (p : NightV → Bool) (l : List NightV) : l.any p = false ∨ ∃ (i : Nat) (x : NightV), idxN p l 0 = (i : Int) ∧ l[i]? = some x ∧ p x = true ∧ ∀ j y, j < i → l[j]? = some y → p y = false := by
  cases h : l.any p with
  | false => exact Or.inl rfl
  | true =>
    have h0 := idxN_some (k := 0) h
    obtain ⟨i, hi⟩ := Int.eq_ofNat_of_zero_le h0
    obtain ⟨_, x, h1, h2, h3⟩ := idxN_at hi
    exact Or.inr ⟨i, x, hi, by simpa using h1, h2, fun j y hj => h3 j y (by omega)⟩
theorem any_brk {p : NightV → Bool} {l : List NightV} (h : l.any p = false) {i : Nat} {x : NightV} (hx : l[i]? = some x) : p x = false := by
  rw [List.any_eq_false] at h
  simpa using h x (List.mem_of_getElem? hx)
theorem brk_wk {k : Nat} {most : Int} {x : NightV} : brk k most x = true ↔ most < wkI x.rooms x.sold x.zs k := by unfold brk wkN; simp
theorem brk_wkf {k : Nat} {most : Int} {x : NightV} : brk k most x = false ↔ wkI x.rooms x.sold x.zs k ≤ most := by unfold brk wkN; simp

theorem topL_le {zs : List Int} {k c : Nat} (h : k ≤ c) : (topL zs c).take k = topL zs k := topL_take zs h
theorem shr_nonneg {zs : List Int} (h : shIn zs) (i : Int) : 0 ≤ shr zs i := (h.getD i.toNat).1
theorem scL_bd {r s most : Int} {zs : List Int} {c : Nat} (hm : 0 ≤ most) (hz : shIn zs) (hb : most < wkI r s zs c) : 0 ≤ scL r s most ∧ scL r s most ≤ topS zs c := by
  have := topS_nonneg hz c
  unfold wkI at hb
  unfold scL scW
  omega
theorem topS_shr (zs : List Int) (c : Nat) : topS zs c = ((topL zs c).map (shr zs)).sum := rfl
theorem topL_falls (zs : List Int) (c : Nat) : (topL zs c).Pairwise (fun a b => shr zs b ≤ shr zs a) := (topAll_falls zs).sublist (List.take_sublist _ _)
/-- With one channel less the promise holds; exactly one guest too many is walked. -/
theorem sc_least {r s most : Int} {zs : List Int} {c k : Nat} (hm : 0 ≤ most) (hz : shIn zs) (hb : most < wkI r s zs c) (hk : (sellC zs (scL r s most) (topL zs c)).length = k + 1) :
    wkI r s zs k ≤ most ∧ scW r s most = most + 1 ∧ k < c := by
  obtain ⟨h1, h2⟩ := scL_bd hm hz hb
  have hl := sellC_least zs (topL zs c) (scL r s most) k h1 (fun i _ => shr_nonneg hz i) hk
  have hp := (sellC_prefix zs (topL zs c) (scL r s most)).length_le
  rw [hk, topL_length] at hp
  rw [topL_le (by omega), ← topS_shr] at hl
  have h0 := topS_nonneg hz k
  unfold scL at hl h1
  unfold wkI
  have h3 : scW r s most = max (s - r) (most + 1) := rfl
  omega
/-- The scene's channels and sales. -/
theorem sc_parts {r s most : Int} {zs : List Int} {c : Nat} (hm : 0 ≤ most) (hz : shIn zs) (hb : most < wkI r s zs c) :
    (sellC zs (scL r s most) (topL zs c)).length ≤ c ∧ (sellC zs (scL r s most) (topL zs c)).Nodup ∧ scW r s most ≤ wkI r s zs c ∧ most < scW r s most ∧ (sellS zs (scL r s most) (topL zs c)).sum = scW r s most - (s - r) ∧
    ∀ k, k < (sellC zs (scL r s most) (topL zs c)).length → (0 ≤ (sellC zs (scL r s most) (topL zs c)).getD k 0 ∧ (sellC zs (scL r s most) (topL zs c)).getD k 0 < zs.length) ∧
      1 ≤ (sellS zs (scL r s most) (topL zs c)).getD k 0 ∧ (sellS zs (scL r s most) (topL zs c)).getD k 0 ≤ shr zs ((sellC zs (scL r s most) (topL zs c)).getD k 0) := by
  obtain ⟨h1, h2⟩ := scL_bd hm hz hb
  have hpre := sellC_prefix zs (topL zs c) (scL r s most)
  have hlen := hpre.length_le
  rw [topL_length] at hlen
  have h0 := topS_nonneg hz c
  refine ⟨by omega, (topL_nodup zs c).sublist hpre.sublist, ?_, ?_, ?_, ?_⟩
  · unfold scL at h2; unfold wkI at hb ⊢; have h3 : scW r s most = max (s - r) (most + 1) := rfl; omega
  · unfold scW; omega
  · rw [sellS_sum zs _ _ h1 (fun i _ => shr_nonneg hz i) (by rw [← topS_shr]; exact h2)]; rfl
  · intro k hk
    have hkS : k < (sellS zs (scL r s most) (topL zs c)).length := by rw [← sell_len]; exact hk
    have e : (sellC zs (scL r s most) (topL zs c)).getD k 0 = (topL zs c).getD k 0 := by
      obtain ⟨t, ht⟩ := hpre
      have := congrArg (fun q : List Int => q.getD k 0) ht
      simp only [List.getD_eq_getElem?_getD, List.getElem?_append_left hk] at this
      simpa [List.getD_eq_getElem?_getD] using this
    have hm2 : (topL zs c).getD k 0 ∈ topL zs c := getD_mem_int (by rw [topL_length]; omega)
    have a1 := sellS_in zs (topL zs c) _ k h1 (fun i _ => shr_nonneg hz i) hkS
    have a2 := sellS_pos zs (topL zs c) _ k h1 (fun i _ => shr_nonneg hz i) (topL_falls zs c) (by rw [← topS_shr]; exact h2) hkS
    rw [e]
    exact ⟨topL_mem hm2, a2, a1.2⟩
theorem wf_caps {l : List NightV} (h : ∀ x ∈ l, NightWf x) : ∀ x ∈ l, x.n ≤ x.cap ∧ x.cap ≤ maxLen := fun x hx => ⟨(h x hx).2.2.1, (h x hx).2.2.2.1⟩
/-- One night of a list. -/
theorem SlN.night {w : World} {a : Option Addr} {n : Nat} {l : List NightV} (h : SlN w a n l) (hc : ∀ x ∈ l, x.n ≤ x.cap ∧ x.cap ≤ maxLen) {i : Nat} (hi : i < n) :
    ∃ x b off, Hid (l[i]? = some x) ∧ a = some ⟨b, off, none⟩ ∧ b < w.heap.size ∧ Hid (SlC w x.at' x.n x.cap x.zs) ∧ x.n ≤ 9223372036854775807 ∧
      w.cell? ⟨b, off + i * 3, none⟩ = some (.int .i64 x.rooms) ∧ w.cell? ⟨b, off + i * 3 + 1, none⟩ = some (.int .i64 x.sold) ∧ w.cell? ⟨b, off + i * 3 + 2, none⟩ = some (.slice x.at' x.n x.cap) := by
  obtain ⟨x, b, off, hx, _, hin, ha, hb, c0, c1, c2⟩ := h.get hi
  obtain ⟨q1, q2⟩ := hc x (List.mem_of_getElem? hx)
  exact ⟨x, b, off, hx, ha, hb, hin.2.c q1 q2, hin.1, c0, c1, c2⟩

/-- The scene of Promise, with its lists' lengths known. -/
theorem Promise_c (a : Option Addr) (n cap : Nat) (l : List NightV) (c : Nat) (most : Int) (i : Nat) (r s : Int) (zs : List Int) (nn cc : Nat) (w : World) (hs : SlN w a n l) (hcaps : ∀ x ∈ l, x.n ≤ x.cap ∧ x.cap ≤ maxLen) (hB : (nightsB l && inB (c : Int) 30 && inB most 1000) = true)
    (ad : Option Addr) (hx : l[i]? = some ⟨r, s, ad, nn, cc, zs⟩) (hi : idxN (brk c most) l 0 = (i : Int)) (hbr : brk c most ⟨r, s, ad, nn, cc, zs⟩ = true) (W : Int) (C S : List Int) (m : Nat) (hW : scW r s most = W) (hC : sellC zs (scL r s most) (topL zs c) = C) (hS : sellS zs (scL r s most) (topL zs c) = S) (hm : C.length = m) (c' : Int) (hc' : c' = c) :
    Calls Try.prog 26 #[.slice a n cap, .int .i64 c', .int .i64 most] w
      fun e w' => ∃ a1 d1 a2 d2, e = .returned (.tuple #[.agg #[.int .i64 i, .int .i64 W, .slice a1 m d1, .slice a2 m d2], .bool true, .int .i64 0]) ∧ SlC w' a1 m d1 C ∧ SlC w' a2 m d2 S ∧ Below w.heap.size w w' := by
  subst hc'
  refine (Promise_some a n cap l c most i r s zs nn cc w hs hcaps hB ad hx hi hbr).mono ?_
  rintro e w' ⟨v1, v2, rfl, h1, h2, hb⟩
  rw [hC] at h1
  rw [hS] at h2
  obtain ⟨a1, d1, rfl, k1⟩ := h1.sized m hm
  obtain ⟨a2, d2, rfl, k2⟩ := h2.sized m (by rw [← hS, ← sell_len, hC]; exact hm)
  exact ⟨a1, d1, a2, d2, by rw [hW], k1, k2, hb⟩

end Go.Proofs.Ytdijdfhlmnhcjaa
