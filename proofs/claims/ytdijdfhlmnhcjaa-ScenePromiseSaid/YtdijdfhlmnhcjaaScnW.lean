/-
  Laws of scene and worst: plain facts.
-/
import Derived.Test.YtdijdfhlmnhcjaaScnS
import Derived.Test.YtdijdfhlmnhcjaaMWor
namespace Go.Proofs.Ytdijdfhlmnhcjaa
set_option linter.unusedSimpArgs false
set_option linter.unusedVariables false
open Go.RowKit Go.MapKept

theorem mxI_max (x : Int) : mxI x = max 0 x := by unfold mxI; split <;> omega
theorem shr_get {sz : List Int} {c : Int} : shr sz c = sz.getD c.toNat 0 := rfl
theorem sum_le_map {f : Int → Int} : ∀ {zs ys : List Int}, ys.length = zs.length → (∀ i, i < zs.length → ys.getD i 0 ≤ f (zs.getD i 0)) → ys.sum ≤ (zs.map f).sum
  | [], [], _, _ => by simp
  | z :: zs, [], h, _ => by simp at h
  | [], y :: ys, h, _ => by simp at h
  | z :: zs, y :: ys, h, hle => by
    have h1 := hle 0 (by simp)
    have h2 := sum_le_map (f := f) (zs := zs) (ys := ys) (by simpa using h) (fun i hi => by simpa using hle (i + 1) (by simpa using hi))
    simp only [List.sum_cons, List.map_cons]
    simp at h1
    omega
/-- No valid scene walks more than Walked says. -/
theorem run_worst {l : List NightV} {nt wd : Int} {zs ys : List Int} (h : openB l nt wd zs ys = true) {x : NightV} (hx : l[nt.toNat]? = some x) {c : Nat} (hc : zs.length ≤ c) : runI l nt ys ≤ wkI x.rooms x.sold x.zs c := by
  obtain ⟨x', hx', hn⟩ := openB_night h
  rw [hx] at hx'
  cases hx'
  obtain ⟨_, _, g4, _, h5⟩ := openB_in h
  obtain ⟨b1, b2⟩ := sh_bounds hn
  rw [shAt_get hx] at h5
  rw [runI_at hx, mxI_max]
  have h1 : ys.sum ≤ (atL x.zs zs).sum := by
    rw [atL_eq]
    refine sum_le_map g4 (fun i hi => ?_)
    exact (chanB_in (h5 i hi)).2.2.2
  have h2 : (atL x.zs zs).sum ≤ topS x.zs c := topS_greatest (fun z hz => (b2 z hz).1) c (open_nodup h) (fun z hz => by
    obtain ⟨i, hi, rfl⟩ := List.getElem_of_mem hz
    have h3 := (chanB_in (h5 i hi)).2.1
    have e2 : zs.getD i 0 = zs[i] := by simp [List.getD, hi]
    rw [e2] at h3
    omega) hc
  unfold wkI
  omega
/-- The scene in which the first channels sell their whole shares. -/
theorem top_open {l : List NightV} (h : nightsB l = true) {t : Nat} {x : NightV} (hx : l[t]? = some x) (c : Nat) : openB l (t : Int) 0 (topL x.zs c) (atL x.zs (topL x.zs c)) = true := by
  have hn := (nightsB_in h).2 x (List.mem_of_getElem? hx)
  obtain ⟨b1, b2⟩ := sh_bounds hn
  have htl : t < l.length := (List.getElem?_eq_some_iff.1 hx).1
  have hlen : (atL x.zs (topL x.zs c)).length = (topL x.zs c).length := by rw [atL_eq, List.length_map]
  unfold openB
  rw [h, Int.toNat_natCast, shAt_get hx, decide_eq_true hlen, inR_iff.2 ⟨by omega, by omega⟩, inR_iff.2 ⟨by omega, by omega⟩, cutB_good (fun i hi => ?_)]
  · rfl
  · have hm : (topL x.zs c).getD i 0 ∈ topL x.zs c := by
      rw [List.getD_eq_getElem?_getD, List.getElem?_eq_getElem hi, Option.getD_some]; exact List.getElem_mem _
    obtain ⟨m1, m2⟩ := topL_mem hm
    have hnt := not_in_take (topL_nodup x.zs c) hi
    have hy : (atL x.zs (topL x.zs c)).getD i 0 = x.zs.getD ((topL x.zs c).getD i 0).toNat 0 := by
      rw [atL_eq, List.getD_eq_getElem?_getD, List.getElem?_map, List.getElem?_eq_getElem hi]
      simp only [Option.map_some, Option.getD_some, shr]
      rw [List.getD_eq_getElem?_getD (l := topL x.zs c), List.getElem?_eq_getElem hi]
      rfl
    have hsh : 0 ≤ x.zs.getD ((topL x.zs c).getD i 0).toNat 0 := by
      have hlt : ((topL x.zs c).getD i 0).toNat < x.zs.length := by omega
      rw [List.getD_eq_getElem?_getD, List.getElem?_eq_getElem hlt, Option.getD_some]
      exact (b2 _ (List.getElem_mem _)).1
    unfold chanB
    rw [hy, decide_eq_false hnt, inR_iff.2 ⟨m1, by omega⟩, inR_iff.2 ⟨hsh, Int.le_refl _⟩]
    rfl
theorem top_run {l : List NightV} {t : Nat} {x : NightV} (hx : l[t]? = some x) (c : Nat) : runI l (t : Int) (atL x.zs (topL x.zs c)) = wkI x.rooms x.sold x.zs c := by
  rw [runI_at (x := x) (by rw [Int.toNat_natCast]; exact hx), mxI_max]
  rfl
theorem atL_take {sz L : List Int} {k : Nat} (h : k < L.length) : atL sz (L.take (k + 1)) = atL sz (L.take k) ++ [shr sz (L.getD k 0)] := by
  rw [take_snoc_int h, atL_eq, atL_eq, List.map_append]
  rfl
theorem wf_capsX {l : List NightV} (h : ∀ x ∈ l, NightWf x) : ∀ x ∈ l, x.n ≤ x.cap ∧ x.cap ≤ maxLen := fun x hx => ⟨(h x hx).2.2.1, (h x hx).2.2.2.1⟩

end Go.Proofs.Ytdijdfhlmnhcjaa
