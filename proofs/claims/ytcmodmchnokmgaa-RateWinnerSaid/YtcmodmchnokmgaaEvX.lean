/-
  Plain facts of RateSums and RateWinner.
-/
import Derived.Test.YtcmodmchnokmgaaEvV
namespace Go.Proofs.Ytcmodmchnokmgaa
set_option linter.unusedSimpArgs false
set_option linter.unusedVariables false
open Go.RowKit

/-! Another keep. -/
abbrev kpR (a b : Int) (r : RateV) : RateV := { r with kn := a, kk := b }
theorem rateB_kp {r : RateV} (h : rateB r = true) {a b : Int} (hv : vld a b = true) (hi : inE a 0 b = true) : rateB (kpR a b r) = true := by
  unfold rateB at h ⊢
  simp only [Bool.and_eq_true] at h ⊢
  refine ⟨?_, h.2⟩
  have h1 := h.1
  unfold formB at h1 ⊢
  simp only [Bool.and_eq_true] at h1 ⊢
  exact ⟨h1.1, h1.2.1, hv, hi, h1.2.2.2.2⟩
theorem validR_kp {l : List RateV} (h : validR l = true) {a b : Int} (hv : vld a b = true) (hi : inE a 0 b = true) : validR (l.map (kpR a b)) = true := by
  unfold validR at h ⊢
  simp only [Bool.and_eq_true, decide_eq_true_eq, List.all_eq_true, List.length_map, List.map_map] at h ⊢
  refine ⟨h.1, ?_, ?_⟩
  · intro x hx
    obtain ⟨y, hy, rfl⟩ := List.mem_map.1 hx
    exact rateB_kp (h.2.1 y hy) hv hi
  · exact h.2.2
theorem appl_kp (a b : Int) (r : RateV) (q : AskV) (nt : Int) : appl (kpR a b r) q nt = appl r q nt := by unfold appl fitsR; rfl
theorem costR_kp (a b : Int) (r : RateV) (q : AskV) (nt : Int) : costR q nt (kpR a b r) = costR q nt r := by unfold costR; rfl
theorem upd1_kp (a b : Int) (o : Option RateV) (r : RateV) : upd1 (o.map (kpR a b)) (kpR a b r) = (upd1 o r).map (kpR a b) := by
  cases o with
  | none => rfl
  | some x =>
    show (if btr (kpR a b r) (kpR a b x) = true then some (kpR a b r) else some (kpR a b x)) = (if btr r x = true then some r else some x).map (kpR a b)
    rw [show btr (kpR a b r) (kpR a b x) = btr r x by unfold btr; rfl]
    split <;> rfl
theorem bestR_kp (a b : Int) (q : AskV) (nt : Int) : ∀ (l : List RateV) (o : Option RateV), bestR q nt (o.map (kpR a b)) (l.map (kpR a b)) = ((bestR q nt o l).1.map (kpR a b), (bestR q nt o l).2)
  | [], o => rfl
  | r :: l, o => by
    rw [List.map_cons]
    unfold bestR
    rw [appl_kp]
    split
    · rfl
    · rw [← bestR_kp a b q nt l]
      congr 1
      cases (appl r q nt).1
      · rfl
      · exact upd1_kp a b o r
theorem priceN_kp (a b : Int) (l : List RateV) (q : AskV) (nt : Int) : priceN (l.map (kpR a b)) q nt = ((priceN l q nt).1, (priceN l q nt).2.1.map (kpR a b), (priceN l q nt).2.2) := by
  have h := bestR_kp a b q nt l none
  rw [Option.map_none] at h
  unfold priceN
  rw [h]
  simp only
  split
  · rfl
  · cases (bestR q nt none l).1 with
    | none => rfl
    | some r =>
      simp only [Option.map_some]
      rw [costR_kp]
      split <;> rfl
theorem priceN_some {l : List RateV} {q : AskV} {nt : Int} (h : (priceN l q nt).2.2 = 0) : ∃ r, (priceN l q nt).2.1 = some r ∧ r ∈ l ∧ (appl r q nt).1 = true ∧ Top (appF q nt l) r ∨ (l.map RateV.id).Nodup = False := by
  by_cases hn : (l.map RateV.id).Nodup
  · have h1 := priceN_noerr h
    rw [priceN_ok h1] at h ⊢
    rcases bst_spec (appF q nt l) (appF_nodup hn) with ⟨_, h0⟩ | ⟨x, hx, ht⟩
    · rw [h0] at h; simp [outB] at h
    · rw [hx] at h ⊢
      refine ⟨x, Or.inl ⟨?_, (List.mem_filter.1 ht.1).1, (List.mem_filter.1 ht.1).2, ht⟩⟩
      unfold outB at h ⊢
      simp only at h ⊢
      split
      · rename_i h2; rw [if_pos h2] at h; exact (h2 h).elim
      · rfl
  · exact ⟨zR, Or.inr (by simp [hn])⟩
theorem priceN_top {l : List RateV} (hn : (l.map RateV.id).Nodup) {q : AskV} {nt : Int} (h : (priceN l q nt).2.2 = 0) : ∃ r, (priceN l q nt).2.1 = some r ∧ r ∈ l ∧ (appl r q nt).1 = true ∧ Top (appF q nt l) r := by
  obtain ⟨r, hr | hr⟩ := priceN_some h
  · exact ⟨r, hr⟩
  · rw [hr] at hn; exact hn.elim
theorem keep_in {r : RateV} (h : rateB r = true) : vldP r.kn r.kk ∧ 0 ≤ r.kn ∧ r.kn ≤ r.kk := by
  have h1 := (rateB_form h).1
  unfold formB inE at h1
  simp only [Bool.and_eq_true, decide_eq_true_eq] at h1
  exact ⟨of_decide_eq_true h1.2.2.1, h1.2.2.2.1.1, h1.2.2.2.1.2⟩
theorem ptVal_part {n a b : Int} (hv : vldP a b) (h0 : 0 ≤ a) (h1 : a ≤ b) (n0 : 0 ≤ n) (n1 : n ≤ 1000000000) : 0 ≤ ptVal n a b 3 ∧ ptVal n a b 3 ≤ n ∧ ptVal n a b 3 = rnd 3 (n * a) b := by
  obtain ⟨p1, p2⟩ := rnd_part 3 hv.1 n0 h0 h1
  have hp : ptP n a b 3 := ⟨hv, by omega, by omega, by omega⟩
  have hi : ptIn n a b 3 := by unfold ptIn; omega
  rw [(pt_ok hp hi).1]
  exact ⟨p1, p2, rfl⟩
theorem keepJ_in {l : List RateV} (hv : validR l = true) {q : AskV} {j : Nat} (h : (cstJ l q j).2.2 = 0) : 0 ≤ keepJ l q j ∧ keepJ l q j ≤ (cstJ l q j).1 := by
  obtain ⟨r, hr, hm, _⟩ := priceN_top (validR_nodup hv) h
  have hb := priceN_bound l q (q.fr + j)
  have hk := keep_in ((validR_in hv).2 r hm)
  have := ptVal_part hk.1 hk.2.1 hk.2.2 hb.1 hb.2
  unfold keepJ cstJ
  rw [hr]
  exact ⟨this.1, this.2.1⟩
theorem keepJ_kp {l : List RateV} (hv : validR l = true) {q : AskV} {j : Nat} (h : (cstJ l q j).2.2 = 0) (a b : Int) : keepJ (l.map (kpR a b)) q j = ptVal (cstJ l q j).1 a b 3 := by
  obtain ⟨r, hr, _⟩ := priceN_top (validR_nodup hv) h
  unfold keepJ cstJ
  rw [priceN_kp, hr]
  rfl
theorem sumT_le {f g : Nat → Int} : ∀ {M : Nat}, (∀ j, j < M → f j ≤ g j) → sumT f M ≤ sumT g M
  | 0, _ => Int.le_refl _
  | M + 1, h => by have h1 := sumT_le (M := M) (fun j hj => h j (by omega)); have h2 := h M (by omega); unfold sumT; omega
theorem sumT_pos {f : Nat → Int} : ∀ {M : Nat}, (∀ j, j < M → 0 ≤ f j) → 0 ≤ sumT f M
  | 0, _ => Int.le_refl _
  | M + 1, h => by have h1 := sumT_pos (M := M) (fun j hj => h j (by omega)); have h2 := h M (by omega); unfold sumT; omega
theorem sumT_zero {f : Nat → Int} : ∀ {M : Nat}, (∀ j, j < M → f j = 0) → sumT f M = 0
  | 0, _ => rfl
  | M + 1, h => by have h1 := sumT_zero (M := M) (fun j hj => h j (by omega)); have h2 := h M (by omega); unfold sumT; omega
def sumLi (l : List Int) : Int := l.foldl (· + ·) 0
theorem sumLi_snoc (l : List Int) (z : Int) : sumLi (l ++ [z]) = sumLi l + z := by unfold sumLi; rw [List.foldl_append]; rfl
theorem sumLi_cst (l : List RateV) (q : AskV) : ∀ M, sumLi (cstL l q M) = sumT (fun j => (cstJ l q j).1) M
  | 0 => rfl
  | M + 1 => by rw [cstL_succ, sumLi_snoc, sumLi_cst l q M]; rfl
/-- What RateSums says. -/
theorem priceV_sums {l : List RateV} {q : AskV} {P : List Int} {K : Int} (h : priceV l q = (P, K, 0)) :
    validR l = true ∧ askB q = true ∧ P.length = q.len ∧ (∀ j, j < q.len → ∃ I, nightV l q (q.fr + j) = (P.getD j 0, I, 0)) ∧
    (∃ P1, priceV (l.map (kpR 1 1)) q = (P1, sumLi P, 0)) ∧ (∃ P2, priceV (l.map (kpR 0 1)) q = (P2, 0, 0)) ∧ 0 ≤ K ∧ K ≤ sumLi P ∧ sumLi P ≤ 1000000000 ∧ (∀ z ∈ P, 0 ≤ z ∧ z ≤ 1000000000) ∧ l ≠ [] := by
  have h0 : (priceV l q).2.2 = 0 := by rw [h]
  obtain ⟨h1, h2, h3, h4, h5⟩ := priceV_ok h0
  rw [h] at h5
  simp only [Prod.mk.injEq, and_true] at h5
  obtain ⟨rfl, rfl⟩ := h5
  have hk : ∀ (a b : Int) (hv : vld a b = true) (hi : inE a 0 b = true), priceV (l.map (kpR a b)) q = (cstL (l.map (kpR a b)) q q.len, sumT (fun j => ptVal (cstJ l q j).1 a b 3) q.len, 0) := fun a b hv hi => by
    have hc : ∀ j, cstJ (l.map (kpR a b)) q j = ((cstJ l q j).1, (cstJ l q j).2.1.map (kpR a b), (cstJ l q j).2.2) := fun j => priceN_kp a b l q _
    rw [priceV_of (validR_kp h1 hv hi) h2 (fun j hj => by rw [hc]; exact h3 j hj) (by rw [sumT_congr (g := fun j => (cstJ l q j).1) (fun j _ => by rw [hc])]; exact h4), sumT_congr fun j hj => keepJ_kp h1 (h3 j hj) a b]
  obtain ⟨⟨b1, b2, b3, b4⟩, _, _⟩ := askB_in h2
  refine ⟨h1, h2, cstL_length _ _ _, ?_, ⟨cstL (l.map (kpR 1 1)) q q.len, ?_⟩, ⟨cstL (l.map (kpR 0 1)) q q.len, ?_⟩, ?_, ?_, ?_, ?_, ?_⟩
  · intro j hj
    refine ⟨((priceN l q (q.fr + j)).2.1.getD zR).id, ?_⟩
    unfold nightV
    rw [if_pos (by unfold inN; unfold AskV.len at hj; simp only [h1, h2, Bool.true_and, Bool.and_eq_true, decide_eq_true_eq]; omega)]
    have e : (cstL l q q.len).getD j 0 = (priceN l q (q.fr + j)).1 := by
      unfold cstL
      rw [List.getD_eq_getElem?_getD, List.getElem?_map, List.getElem?_range hj]
      rfl
    rw [e, show (priceN l q (q.fr + j)).2.2 = 0 from h3 j hj]
  · rw [hk 1 1 (by kernel_rfl) (by kernel_rfl), sumLi_cst]
    congr 2
    refine sumT_congr fun j hj => ?_
    have hb := priceN_bound l q (q.fr + j)
    rw [(ptVal_part (by decide) (by omega) (by omega) hb.1 hb.2 : _ ∧ _ ∧ ptVal (cstJ l q j).1 1 1 3 = _).2.2, rnd_whole 3 _ (by omega)]
  · rw [hk 0 1 (by kernel_rfl) (by kernel_rfl)]
    congr 2
    refine sumT_zero fun j hj => ?_
    have hb := priceN_bound l q (q.fr + j)
    rw [(ptVal_part (by decide) (by omega) (by omega) hb.1 hb.2 : _ ∧ _ ∧ ptVal (cstJ l q j).1 0 1 3 = _).2.2, Int.mul_zero, rnd_zero 3 (by omega)]
  · exact sumT_pos fun j hj => (keepJ_in h1 (h3 j hj)).1
  · rw [sumLi_cst]; exact sumT_le fun j hj => (keepJ_in h1 (h3 j hj)).2
  · rw [sumLi_cst]; exact h4
  · intro z hz
    obtain ⟨j, _, rfl⟩ := List.mem_map.1 hz
    exact priceN_bound l q _
  · rintro rfl
    have := h3 0 (by unfold AskV.len; omega)
    simp [cstJ, priceN, bestR] at this
/-- What RateWinner says. -/
theorem nightV_win {l : List RateV} {q : AskV} {nt N I : Int} (h : nightV l q nt = (N, I, 0)) :
    0 ≤ N ∧ ∃ (b : Nat) (r : RateV), l[b]? = some r ∧ r.id = I ∧ (∀ (i : Nat) (x : RateV), l[i]? = some x → x.id = I → i = b) ∧ (∀ (i : Nat) (x : RateV), l[i]? = some x → (applV x q nt).2 = 0) ∧ (applV r q nt).1 = true ∧
      (∀ (i : Nat) (x : RateV), l[i]? = some x → (applV x q nt).1 = true → ¬ r.lv < x.lv ∧ ¬ (x.lv = r.lv ∧ x.id < I)) ∧ (∀ i : Nat, i ≠ b → nightV (l.eraseIdx i) q nt = (N, I, 0)) := by
  have hin : (validR l && (askB q && inN q nt)) = true := by
    unfold nightV at h
    split at h
    · assumption
    · simp at h
  have hin2 := hin
  simp only [Bool.and_eq_true] at hin
  obtain ⟨hv, ha, hn⟩ := hin
  unfold nightV at h
  rw [if_pos hin2] at h
  simp only [Prod.mk.injEq] at h
  obtain ⟨rfl, hI, hE⟩ := h
  obtain ⟨r, hr, hm, hap, ht⟩ := priceN_top (validR_nodup hv) hE
  rw [hr] at hI
  simp only [Option.getD_some] at hI
  obtain ⟨b, hb⟩ := List.mem_iff_getElem?.1 hm
  have hne := priceN_noerr hE
  have hav : ∀ x, x ∈ l → applV x q nt = appl x q nt := fun x hx => by
    unfold applV
    rw [if_pos (by rw [(validR_in hv).2 x hx, ha, hn]; rfl)]
  have huniq : ∀ (i : Nat) (x : RateV), l[i]? = some x → x.id = I → i = b := fun i x hx he => by
    refine (List.getElem?_inj (l := l.map RateV.id) (by rw [List.length_map]; exact (List.getElem?_eq_some_iff.1 hx).1) (validR_nodup hv)).1 ?_
    rw [List.getElem?_map, List.getElem?_map, hx, hb]
    simp [he, hI]
  refine ⟨(priceN_bound l q nt).1, b, r, hb, hI, huniq, fun i x hx => ?_, ?_, fun i x hx hx1 => ?_, fun i hi => ?_⟩
  · rw [hav x (List.mem_of_getElem? hx)]; exact hne x (List.mem_of_getElem? hx)
  · rw [hav r hm]; exact hap
  · rw [hav x (List.mem_of_getElem? hx)] at hx1
    by_cases e : x.id = r.id
    · have hxr : x = r := id_inj (validR_nodup hv) (List.mem_of_getElem? hx) hm e
      subst hxr
      exact ⟨by omega, by omega⟩
    · have := ht.2 x (List.mem_filter.2 ⟨List.mem_of_getElem? hx, hx1⟩) e
      unfold btr at this
      simp only [Bool.or_eq_true, Bool.and_eq_true, decide_eq_true_eq] at this
      omega
  · have hv' := valid_less (k := i) hv
    have hne' : ∀ x ∈ l.eraseIdx i, (appl x q nt).2 = 0 := fun x hx => hne x (List.mem_of_mem_eraseIdx hx)
    have hrm : r ∈ l.eraseIdx i := by
      rw [List.mem_eraseIdx_iff_getElem?]
      exact ⟨b, fun e => hi e.symm, hb⟩
    have htop : Top (appF q nt (l.eraseIdx i)) r := ⟨List.mem_filter.2 ⟨hrm, hap⟩, fun y hy hyn => ht.2 y (List.mem_filter.2 ⟨List.mem_of_mem_eraseIdx (List.mem_filter.1 hy).1, (List.mem_filter.1 hy).2⟩) hyn⟩
    have hpn : priceN (l.eraseIdx i) q nt = priceN l q nt := by
      rw [priceN_ok hne', priceN_ok hne, bst_of (appF_nodup (validR_nodup hv')) htop, bst_of (appF_nodup (validR_nodup hv)) ht]
    unfold nightV
    rw [if_pos (by rw [hv', ha, hn]; rfl), hpn, hr, hE]
    simp [hI]
theorem nightV_bad {l : List RateV} {q : AskV} {nt N I E : Int} (h : nightV l q nt = (N, I, E)) (hE : E ≠ 0) : N = 0 ∧ I = 0 := by
  unfold nightV at h
  split at h
  · simp only [Prod.mk.injEq] at h
    obtain ⟨h1, h2, h3⟩ := h
    have hz := priceN_zero (l := l) (a := q) (nt := nt) (by rw [h3]; exact hE)
    rw [hz.1] at h1
    rw [hz.2] at h2
    exact ⟨h1.symm, h2.symm⟩
  · simp only [Prod.mk.injEq] at h
    exact ⟨h.1.symm, h.2.1.symm⟩

end Go.Proofs.Ytcmodmchnokmgaa
