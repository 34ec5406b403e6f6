/-
  Laws of scene: what a scene's sales are.
-/
import Derived.Test.YtdijdfhlmnhcjaaScnM
namespace Go.Proofs.Ytdijdfhlmnhcjaa
set_option linter.unusedSimpArgs false
set_option linter.unusedVariables false
open Go.RowKit Go.MapKept

theorem idS_ge {sd : Int} {ys : List Int} (h0 : 0 ≤ sd) (hy : ∀ y ∈ ys, 0 ≤ y ∧ y ≤ 400) (k : Nat) : 0 ≤ idS sd ys k := by
  unfold idS
  have := (sum_boundS (ys := ys.take k) (fun y h => hy y (List.mem_of_mem_take h))).1
  omega
theorem salesK_length {kd nt sd : Int} {zs ys : List Int} (h0 : 0 ≤ sd) (hy : ∀ y ∈ ys, 0 ≤ y ∧ y ≤ 400) : ∀ k, k ≤ ys.length → ((salesK kd nt sd zs ys k).length : Int) = idS sd ys k
  | 0, _ => by simp only [salesK, manyS_length, idS, List.take_zero, List.sum_nil]; omega
  | k + 1, h => by
    have ih := salesK_length (kd := kd) (nt := nt) (zs := zs) h0 hy k (by omega)
    have hk : 0 ≤ ys.getD k 0 := by
      rw [List.getD_eq_getElem?_getD, List.getElem?_eq_getElem (by omega : k < ys.length), Option.getD_some]
      exact (hy _ (List.getElem_mem _)).1
    simp only [salesK, List.length_append, manyS_length, idS] at ih ⊢
    rw [sum_takeS (by omega)]
    omega
theorem manyS_get {kd nt id ch : Int} {ct : Bool} {m j : Nat} {x : SaleV} (h : (manyS kd nt id ch ct m)[j]? = some x) : x = oneS kd nt (id + (j : Int) + 1) ch ct := by
  unfold manyS at h
  rw [List.getElem?_map] at h
  cases hr : (List.range m)[j]? with
  | none => rw [hr] at h; cases h
  | some i =>
    rw [hr] at h
    obtain ⟨hj, e⟩ := List.getElem?_eq_some_iff.1 hr
    simp at e h
    subst e
    exact h.symm
/-- The shape of each sale of a scene. -/
theorem salesK_get {kd nt sd : Int} {zs ys : List Int} (h0 : 0 ≤ sd) (hy : ∀ y ∈ ys, 0 ≤ y ∧ y ≤ 400) (hl : ys.length = zs.length) : ∀ k, k ≤ ys.length → ∀ (i : Nat) (x : SaleV), (salesK kd nt sd zs ys k)[i]? = some x → ∃ (ch : Int) (ct : Bool), x = SaleV.mk ((i : Int) + 1) ch ((i : Int) + 1) ct kd nt (nt + 1) 1 ∧ (ct = true → ch ∈ zs) ∧ (ct = false → ch = 0)
  | 0, _, i, x, h => by
    simp only [salesK] at h
    have := manyS_get h
    refine ⟨0, false, ?_, fun h => (by cases h), fun _ => rfl⟩
    rw [this]
    simp [oneS]
  | k + 1, hk, i, x, h => by
    simp only [salesK] at h
    by_cases hi : i < (salesK kd nt sd zs ys k).length
    · rw [List.getElem?_append_left hi] at h
      exact salesK_get h0 hy hl k (by omega) i x h
    · rw [List.getElem?_append_right (by omega)] at h
      have := manyS_get h
      have hlen := salesK_length (kd := kd) (nt := nt) (zs := zs) h0 hy k (by omega)
      refine ⟨zs.getD k 0, true, ?_, fun _ => ?_, fun h => (by cases h)⟩
      · rw [this]
        have e : idS sd ys k + ((i - (salesK kd nt sd zs ys k).length : Nat) : Int) + 1 = (i : Int) + 1 := by omega
        simp only [oneS, e]
      · rw [List.getD_eq_getElem?_getD, List.getElem?_eq_getElem (by omega : k < zs.length), Option.getD_some]
        exact List.getElem_mem _

/-- How many are heard; how many of a channel that is cut off. -/
def heardC (S : List SaleV) : Nat := (S.filter (fun x => !x.cut)).length
def chanC (S : List SaleV) (c : Int) : Nat := (S.filter (fun x => x.cut && decide (x.ch = c))).length
theorem heardC_take {S : List SaleV} {k : Nat} {x : SaleV} (h : S[k]? = some x) : heardC (S.take (k + 1)) = heardC (S.take k) + (if x.cut = true then 0 else 1) := by
  rw [take_snocS h]
  unfold heardC
  rw [List.filter_append, List.length_append]
  cases hc : x.cut <;> simp [hc]
theorem chanC_take {S : List SaleV} {k : Nat} {x : SaleV} (h : S[k]? = some x) (c : Int) : chanC (S.take (k + 1)) c = chanC (S.take k) c + (if x.cut = true ∧ x.ch = c then 1 else 0) := by
  rw [take_snocS h]
  unfold chanC
  rw [List.filter_append, List.length_append]
  by_cases h1 : x.cut = true <;> by_cases h2 : x.ch = c <;> simp [h1, h2]
theorem heard_many (kd nt id ch : Int) (ct : Bool) (m : Nat) : heardC (manyS kd nt id ch ct m) = if ct = true then 0 else m := by
  unfold heardC manyS
  rw [List.filter_map, List.length_map]
  cases ct with
  | true => simp [oneS, Function.comp_def]
  | false =>
    simp only [oneS, Function.comp_def, Bool.not_false]
    rw [List.filter_eq_self.2 (fun _ _ => rfl)]; simp
theorem chan_many (kd nt id ch : Int) (ct : Bool) (m : Nat) (c : Int) : chanC (manyS kd nt id ch ct m) c = if ct = true ∧ ch = c then m else 0 := by
  unfold chanC manyS
  rw [List.filter_map, List.length_map]
  cases ct with
  | false => simp [oneS, Function.comp_def]
  | true =>
    by_cases h : ch = c
    · simp only [oneS, Function.comp_def, h, Bool.true_and, decide_true, and_self, if_true]
      rw [List.filter_eq_self.2 (fun _ _ => rfl)]; simp
    · simp [oneS, Function.comp_def, h]
theorem heard_all (kd nt sd : Int) (zs ys : List Int) : ∀ k, heardC (salesK kd nt sd zs ys k) = sd.toNat
  | 0 => by simp only [salesK]; rw [heard_many]; rfl
  | k + 1 => by
    have ih := heard_all kd nt sd zs ys k
    have e : heardC (salesK kd nt sd zs ys (k + 1)) = heardC (salesK kd nt sd zs ys k) + heardC (manyS kd nt (idS sd ys k) (zs.getD k 0) true (ys.getD k 0).toNat) := by
      simp only [salesK, heardC, List.filter_append, List.length_append]
    rw [e, ih, heard_many]; simp
theorem nodup_getD {zs : List Int} (hn : zs.Nodup) {i k : Nat} (hi : i < zs.length) (hk : k < zs.length) (q : zs.getD i 0 = zs.getD k 0) : i = k := by
  rw [List.getD_eq_getElem?_getD, List.getD_eq_getElem?_getD, List.getElem?_eq_getElem hk, List.getElem?_eq_getElem hi, Option.getD_some, Option.getD_some] at q
  rw [List.nodup_iff_pairwise_ne, List.pairwise_iff_getElem] at hn
  rcases Nat.lt_trichotomy i k with h | h | h
  · exact absurd q (hn i k hi hk h)
  · exact h
  · exact absurd q.symm (hn k i hk hi h)
theorem chan_all (kd nt sd : Int) {zs ys : List Int} (hn : zs.Nodup) {i : Nat} (hi : i < zs.length) : ∀ k, k ≤ zs.length → chanC (salesK kd nt sd zs ys k) (zs.getD i 0) = if i < k then (ys.getD i 0).toNat else 0
  | 0, _ => by simp only [salesK]; rw [chan_many]; simp
  | k + 1, hk => by
    have ih := chan_all kd nt sd (ys := ys) hn hi k (by omega)
    have e : chanC (salesK kd nt sd zs ys (k + 1)) (zs.getD i 0) = chanC (salesK kd nt sd zs ys k) (zs.getD i 0) + chanC (manyS kd nt (idS sd ys k) (zs.getD k 0) true (ys.getD k 0).toNat) (zs.getD i 0) := by
      simp only [salesK, chanC, List.filter_append, List.length_append]
    rw [e, ih, chan_many]
    by_cases hik : i = k
    · subst hik; simp
    · have hne : ¬ zs.getD k 0 = zs.getD i 0 := fun q => hik (nodup_getD hn hi (by omega) q.symm)
      have e2 : (if true = true ∧ zs.getD k 0 = zs.getD i 0 then (ys.getD k 0).toNat else 0) = 0 := if_neg (fun q => hne q.2)
      rw [e2, Nat.add_zero]
      by_cases h1 : i < k
      · rw [if_pos h1, if_pos (by omega)]
      · rw [if_neg h1, if_neg (by omega)]

theorem open_nodup {l : List NightV} {nt wd : Int} {zs ys : List Int} (h : openB l nt wd zs ys = true) : zs.Nodup := by
  obtain ⟨_, _, _, _, h5⟩ := openB_in h
  rw [List.nodup_iff_pairwise_ne, List.pairwise_iff_getElem]
  intro i j hi hj hij e
  obtain ⟨c1, _⟩ := chanB_in (h5 j hj)
  apply c1
  have e2 : zs.getD j 0 = zs[i] := by simp [List.getD, hj, e]
  rw [e2]
  exact List.mem_take_iff_getElem.2 ⟨i, by omega, rfl⟩
theorem open_chan {l : List NightV} {nt wd : Int} {zs ys : List Int} (h : openB l nt wd zs ys = true) : ∀ z ∈ zs, 0 ≤ z ∧ z ≤ 29 := by
  obtain ⟨x, hx, hn⟩ := openB_night h
  obtain ⟨_, _, _, _, h5⟩ := openB_in h
  obtain ⟨b1, _⟩ := sh_bounds hn
  rw [shAt_get hx] at h5
  intro z hz
  obtain ⟨i, hi, rfl⟩ := List.getElem_of_mem hz
  obtain ⟨_, c2, _⟩ := chanB_in (h5 i hi)
  have e2 : zs.getD i 0 = zs[i] := by simp [List.getD, hi]
  rw [e2] at c2
  omega
/-- The sales of a valid scene are sales. -/
theorem sales_right {l : List NightV} {nt wd kd : Int} {zs ys : List Int} (h : openB l nt wd zs ys = true) (hk : inR kd 1 20 = true) : salesB (salesX l nt kd zs ys) = true := by
  obtain ⟨x, hx, hn⟩ := openB_night h
  obtain ⟨g1, ⟨g2, g3⟩, g4, _, _⟩ := openB_in h
  obtain ⟨s1, s2, s3⟩ := sells_bound h
  obtain ⟨_, d0, d1⟩ := nightB_nums hn
  have hc := open_chan h
  have hk' := inR_iff.1 hk
  have hl := (nightsB_in g1).1
  have e : salesX l nt kd zs ys = salesK kd nt x.sold zs ys zs.length := by unfold salesX; rw [hx]; rfl
  have hlen := salesK_length (kd := kd) (nt := nt) (zs := zs) d0 s3 zs.length (by omega)
  have hid : idS x.sold ys zs.length ≤ 13000 := by
    unfold idS
    rw [List.take_of_length_le (by omega)]
    have := sum_boundS s3
    omega
  have hget := salesK_get (kd := kd) (nt := nt) d0 s3 s2 zs.length (by omega)
  rw [e]
  generalize salesK kd nt x.sold zs ys zs.length = S at hlen hget
  unfold salesB
  simp only [Bool.and_eq_true, decide_eq_true_eq, List.all_eq_true]
  refine ⟨fun y hy => ?_, ?_, by omega⟩
  · obtain ⟨i, hi, rfl⟩ := List.getElem_of_mem hy
    obtain ⟨ch, ct, e1, e2, e3⟩ := hget i _ (List.getElem?_eq_getElem hi)
    rw [e1]
    have hch : 0 ≤ ch ∧ ch ≤ 29 := by
      cases ct with
      | true => exact hc _ (e2 rfl)
      | false => rw [e3 rfl]; omega
    unfold saleB
    simp only [Bool.and_eq_true, inR_iff]
    refine ⟨by omega, hch, by omega, askB_yes ?_⟩
    omega
  · rw [List.nodup_iff_pairwise_ne, List.pairwise_iff_getElem]
    intro i j hi hj hij
    rw [List.length_map] at hi hj
    rw [List.getElem_map, List.getElem_map]
    obtain ⟨_, _, e1, _⟩ := hget i _ (List.getElem?_eq_getElem hi)
    obtain ⟨_, _, e2, _⟩ := hget j _ (List.getElem?_eq_getElem hj)
    rw [e1, e2]
    simp; omega
theorem cnt_same {S : List SaleV} {nt : Int} (h : ∀ x ∈ S, x.fr = nt ∧ x.un = nt + 1) (i : Int) : cntS S i = if i = nt then S.length else 0 := by
  unfold cntS
  split
  · rename_i e
    rw [List.filter_eq_self.2 (fun x hx => by
      obtain ⟨h1, h2⟩ := h x hx
      simp [onS]; omega)]
  · rename_i e
    rw [List.filter_eq_nil_iff.2 (fun x hx => by
      obtain ⟨h1, h2⟩ := h x hx
      simp [onS]; omega)]
    rfl
/-- They are counted as Run says on the scene's night, and as none too many on all others. -/
theorem sales_count {l : List NightV} {nt wd kd : Int} {zs ys : List Int} (h : openB l nt wd zs ys = true) {i : Nat} (hi : i < l.length) :
    (cntL l (salesX l nt kd zs ys) []).getD i 0 = if (i : Int) = nt then runI l nt ys else 0 := by
  obtain ⟨x, hx, hn⟩ := openB_night h
  obtain ⟨g1, ⟨g2, g3⟩, g4, _, _⟩ := openB_in h
  obtain ⟨s1, s2, s3⟩ := sells_bound h
  obtain ⟨_, d0, d1⟩ := nightB_nums hn
  have e : salesX l nt kd zs ys = salesK kd nt x.sold zs ys zs.length := by unfold salesX; rw [hx]; rfl
  have hlen := salesK_length (kd := kd) (nt := nt) (zs := zs) d0 s3 zs.length (by omega)
  have hget := salesK_get (kd := kd) (nt := nt) d0 s3 s2 zs.length (by omega)
  have hr := roomAt_nonneg g1 i
  rw [cntL_get hi, kept_nil, e, cnt_same (nt := nt) (fun y hy => by
    obtain ⟨j, hj, rfl⟩ := List.getElem_of_mem hy
    obtain ⟨_, _, e1, _⟩ := hget j _ (List.getElem?_eq_getElem hj)
    rw [e1]; exact ⟨rfl, rfl⟩)]
  split
  · rename_i hin
    have hnt : nt.toNat = i := by omega
    rw [hlen, runI_at hx]
    unfold idS
    rw [List.take_of_length_le (by omega)]
    have : roomAt l i = x.rooms := by unfold roomAt; rw [← hnt, hx]; rfl
    rw [this]
    congr 1
    omega
  · unfold mxI; rw [if_neg (by simp; omega)]
theorem run_bounds {l : List NightV} {nt wd : Int} {zs ys : List Int} (h : openB l nt wd zs ys = true) : 0 ≤ runI l nt ys ∧ runI l nt ys ≤ 13000 := by
  obtain ⟨x, hx, hn⟩ := openB_night h
  obtain ⟨s1, s2, s3⟩ := sells_bound h
  obtain ⟨⟨r0, _⟩, d0, d1⟩ := nightB_nums hn
  have := sum_boundS s3
  rw [runI_at hx]
  unfold mxI
  split <;> omega

end Go.Proofs.Ytdijdfhlmnhcjaa
