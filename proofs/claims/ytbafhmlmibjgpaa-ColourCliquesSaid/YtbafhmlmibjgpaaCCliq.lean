/-
  The law ColourCliques.
-/
import Derived.Test.YtbafhmlmibjgpaaColM
namespace Go.Proofs.Ytbafhmlmibjgpaa
set_option linter.unusedSimpArgs false
set_option linter.unusedVariables false
open Go.ChangeShapes Go.WideShapes Go.ChangeAt Go.RowKit

theorem upto_prefix (n d : Nat) : upto n <+: upto (n + d) := by
  induction d with
  | zero => exact List.prefix_refl _
  | succ d ih => rw [show n + (d + 1) = (n + d) + 1 by omega, upto_succ]; exact ih.trans (List.prefix_append _ _)
theorem onK_prefix (l : List SpV) (t : Int) {k : Nat} (hk : k ≤ l.length) : onK l t k <+: onL l t := by
  unfold onL onK
  have := upto_prefix k (l.length - k)
  rw [show k + (l.length - k) = l.length by omega] at this
  exact this.filter _
theorem onK_get {l : List SpV} {t : Int} {k c : Nat} (hk : k < l.length) (hh : hasP l t k = true) (hc : (onK l t k).length = c) : c < (onL l t).length ∧ (onL l t).getD c 0 = (k : Int) := by
  have h1 := onK_prefix l t (k := k + 1) (by omega)
  rw [onK_succ, if_pos hh] at h1
  obtain ⟨r, hr⟩ := h1
  rw [← hr, ← hc]
  refine ⟨by simp only [List.length_append, List.length_singleton]; omega, ?_⟩
  rw [List.append_assoc]
  simp [List.getD]

set_option maxRecDepth 100000 in
set_option maxHeartbeats 6400000 in
theorem colourCliques_walk (a : Option Addr) (n cap : Nat) (l : List SpV) (less : Int) (wf : ∀ x ∈ l, SpanWf x) (wt : (Lit.int .u16 less).wf = true) (w : World) (h : SlP w a n l ∧ n ≤ cap ∧ cap ≤ maxLen) :
    Calls Try.prog 6 #[.slice a n cap, .int .u16 less] w fun e w' => e = .returned (.bool true) ∧ Below w.heap.size w w' := by
  have hn := SlP.cap h
  have HS := Lib.hid h.1
  have HL := Lib.hid h.1.1
  obtain ⟨l0, l1⟩ : 0 ≤ less ∧ less ≤ 65535 := bd_u16 wt
  clear h wf wt
  by_cases hu : usS l = true
  · obtain ⟨h1, h2, h3⟩ := usS_in hu
    have hn100 : n ≤ 100 := by have := HL.out; omega
    obtain ⟨M, hM⟩ : ∃ M, (colE l).length = M := ⟨_, rfl⟩
    obtain ⟨t, hat⟩ : ∃ t, (clqL l).1 = t := ⟨_, rfl⟩
    have hc1 : (onL l t).length = M := by rw [← hat, ← hM]; exact (col_clq h3).2
    have ht : 0 ≤ t ∧ t ≤ 1000000000 := by
      rw [← hat]
      rcases clqL_spec h3 with ⟨_, e⟩ | ⟨_, ⟨i, i0, i1, e⟩, _⟩
      · rw [e]; exact ⟨Int.le_refl _, by decide⟩
      · rw [e]; have := h3.at i0 i1; omega
    obtain ⟨t0, t1⟩ := ht
    obtain ⟨C, hC⟩ : ∃ C, cntP l (t - 1 - less) = C := ⟨_, rfl⟩
    have hpos : (n = 0 ∧ M = 0) ∨ (0 < n ∧ 0 < M ∧ C < M) := by
      have e1 := (col_clq h3).1
      rw [hM] at e1
      rcases clqL_spec h3 with ⟨rfl, e⟩ | ⟨q0, _, _, q3, _, q5⟩
      · left
        rw [e] at e1
        exact ⟨HL.out.symm, by simp only [] at e1; omega⟩
      · right
        have := q5 (t - 1 - less) (by rw [hat]; omega)
        rw [hC] at this
        have := HL.out
        omega
    have HU := Lib.hid hu
    have HE := Lib.hid h2
    have HM := Lib.hid hM
    have HAT := Lib.hid hat
    have HC1 := Lib.hid hc1
    have HC := Lib.hid hC
    clear hu h1 h2 h3 hM hat hc1 hC
    go_enter Try.func6, Try.ntmps6
    go_wp2_with fail
    refine (c_head_any _).mono ?_
    rintro e w1 ⟨rfl, hb1⟩
    have HB1 : Below w.heap.size w w1 := by (repeat' (first | (with_reducible exact Below.refl _ _) | (with_reducible assumption) | (with_reducible exact Bw.out (by with_reducible assumption)) | (with_reducible refine bw_alloc ?_ _) | (with_reducible refine bw_step ?_ (by with_reducible assumption)) | (with_reducible refine Below.alloc ?_ ?_ _) | (with_reducible refine Below.drew ?_) | (with_reducible refine below_drewN ?_ _) | (with_reducible refine Below.setCell ?_ ?_ _) | (with_reducible refine below_step ?_ (by with_reducible assumption) ?_) | (with_reducible exact Nat.le_refl _) | omega | (simp; omega) | (simp; done)))
    go_wp2_with fail
    refine (usable_c a n cap l _ hn (HS.out.below (by (repeat' (first | (with_reducible exact Below.refl _ _) | (with_reducible assumption) | (with_reducible exact Bw.out (by with_reducible assumption)) | (with_reducible refine bw_alloc ?_ _) | (with_reducible refine bw_step ?_ (by with_reducible assumption)) | (with_reducible refine Below.alloc ?_ ?_ _) | (with_reducible refine Below.drew ?_) | (with_reducible refine below_drewN ?_ _) | (with_reducible refine Below.setCell ?_ ?_ _) | (with_reducible refine below_step ?_ (by with_reducible assumption) ?_) | (with_reducible exact Nat.le_refl _) | omega | (simp; omega) | (simp; done))))) true HU.out).mono ?_
    rintro e w2 ⟨rfl, hb2⟩
    have HB2 : Below w.heap.size w w2 := by (repeat' (first | (with_reducible exact Below.refl _ _) | (with_reducible assumption) | (with_reducible exact Bw.out (by with_reducible assumption)) | (with_reducible refine bw_alloc ?_ _) | (with_reducible refine bw_step ?_ (by with_reducible assumption)) | (with_reducible refine Below.alloc ?_ ?_ _) | (with_reducible refine Below.drew ?_) | (with_reducible refine below_drewN ?_ _) | (with_reducible refine Below.setCell ?_ ?_ _) | (with_reducible refine below_step ?_ (by with_reducible assumption) ?_) | (with_reducible exact Nat.le_refl _) | omega | (simp; omega) | (simp; done)))
    clear hb1 HB1
    go_wp2_with fail
    refine (Clique_c a n cap l _ (by omega) (HS.out.below (by (repeat' (first | (with_reducible exact Below.refl _ _) | (with_reducible assumption) | (with_reducible exact Bw.out (by with_reducible assumption)) | (with_reducible refine bw_alloc ?_ _) | (with_reducible refine bw_step ?_ (by with_reducible assumption)) | (with_reducible refine Below.alloc ?_ ?_ _) | (with_reducible refine Below.drew ?_) | (with_reducible refine below_drewN ?_ _) | (with_reducible refine Below.setCell ?_ ?_ _) | (with_reducible refine below_step ?_ (by with_reducible assumption) ?_) | (with_reducible exact Nat.le_refl _) | omega | (simp; omega) | (simp; done))))) HE.out t HAT.out M HM.out).mono ?_
    rintro e w3 ⟨a2, d2, rfl, V2, hb3⟩
    have HB3 : Below w.heap.size w w3 := by (repeat' (first | (with_reducible exact Below.refl _ _) | (with_reducible assumption) | (with_reducible exact Bw.out (by with_reducible assumption)) | (with_reducible refine bw_alloc ?_ _) | (with_reducible refine bw_step ?_ (by with_reducible assumption)) | (with_reducible refine Below.alloc ?_ ?_ _) | (with_reducible refine Below.drew ?_) | (with_reducible refine below_drewN ?_ _) | (with_reducible refine Below.setCell ?_ ?_ _) | (with_reducible refine below_step ?_ (by with_reducible assumption) ?_) | (with_reducible exact Nat.le_refl _) | omega | (simp; omega) | (simp; done)))
    clear hb2 HB2
    have HV := Lib.hid V2.sli.1
    have HB3 := Lib.hid HB3
    go_wp2_with fail
    go_loopw [9, 27] (fun u i wr => ∃ (k c : Nat), k ≤ n ∧ i = .int .i64 k ∧ u = .int .i64 c ∧ c ≤ k ∧ Hid ((onK l t k).length = c) ∧ Hid (Below w3.heap.size w3 wr)) (fun _ i _ => n - (intOf i).toNat)
    case atStart => exact ⟨0, 0, Nat.zero_le _, rfl, rfl, Nat.le_refl _, rfl, Below.refl _ _⟩
    case round =>
      obtain ⟨k, c, hk, rfl, rfl, hck, hC, hB⟩ := hrel
      by_cases hlt : k < n
      · have hBw : Hid (Below w.heap.size w wr) := HB3.out.trans (hB.out.mono HB3.out.size)
        obtain ⟨f, u, b, off, hx, _, _, rfl, hb, c0, c1⟩ := (HS.out.below hBw.out).get hlt
        have HFU : Hid (hasP l t k = (decide (f ≤ t) && decide (t < u))) := by
          show _ = _
          have e1 : frP l k = f := by unfold frP; rw [Int.toNat_natCast, hx.out]
          have e2 : unP l k = u := by unfold unP; rw [Int.toNat_natCast, hx.out]
          unfold hasP
          rw [e1, e2]
        have i1 : (0 : Int) ≤ (k : Int) := by omega
        have i2 : (k : Int) < (n : Int) := by omega
        have hsz := hB.out.size
        clear hx
        have hal : Below wr.heap.size wr (wr.alloc (.cells #[.int .i64 f, .int .i64 u] 36)) := by (repeat' (first | (with_reducible exact Below.refl _ _) | (with_reducible assumption) | (with_reducible exact Bw.out (by with_reducible assumption)) | (with_reducible refine bw_alloc ?_ _) | (with_reducible refine bw_step ?_ (by with_reducible assumption)) | (with_reducible refine Below.alloc ?_ ?_ _) | (with_reducible refine Below.drew ?_) | (with_reducible refine below_drewN ?_ _) | (with_reducible refine Below.setCell ?_ ?_ _) | (with_reducible refine below_step ?_ (by with_reducible assumption) ?_) | (with_reducible exact Nat.le_refl _) | omega | (simp; omega) | (simp; done)))
        have hB4 : Hid (Below w3.heap.size w3 (wr.alloc (.cells #[.int .i64 f, .int .i64 u] 36))) := hB.out.trans (hal.mono hsz)
        by_cases h1 : f ≤ t
        · by_cases h2 : t < u
          · have HT : Hid ((onK l t (k + 1)).length = c + 1) := by
              show _ = _
              rw [onK_succ, HFU.out]
              simp [h1, h2]; exact hC.out
            obtain ⟨g1, g2⟩ := onK_get (l := l) (t := t) (k := k) (by have := HL.out; omega) (by rw [HFU.out]; simp [h1, h2]) hC.out
            have hcM : c < M := by have := HC1.out; omega
            obtain ⟨b9, o9, z9, hb9, _, hc9, hz9, _⟩ := (HV.out.below (hB4.out)).get hcM
            rw [g2] at hz9
            obtain rfl : (k : Int) = z9 := hz9.out
            subst hb9
            have j1 : (0 : Int) ≤ (c : Int) := by omega
            have j2 : (c : Int) < (M : Int) := by omega
            clear g1 g2 hz9
            go_wp2_with fail
            go_roundw
            case rel => exact ⟨k + 1, c + 1, by omega, by go_num, by go_num, by omega, HT.out, (hB4.out : Below _ _ _)⟩
            case measure => simp [intOf]; omega
          · have HT : Hid ((onK l t (k + 1)).length = c) := by
              show _ = _
              rw [onK_succ, HFU.out]
              simp [h1, h2]; exact hC.out
            go_wp2_with fail
            go_roundw
            case rel => exact ⟨k + 1, c, by omega, by go_num, rfl, by omega, HT.out, (hB4.out : Below _ _ _)⟩
            case measure => simp [intOf]; omega
        · have HT : Hid ((onK l t (k + 1)).length = c) := by
            show _ = _
            rw [onK_succ, HFU.out]
            simp [h1]; exact hC.out
          go_wp2_with fail
          go_roundw
          case rel => exact ⟨k + 1, c, by omega, by go_num, rfl, by omega, HT.out, (hB4.out : Below _ _ _)⟩
          case measure => simp [intOf]; omega
      · obtain rfl : n = k := by omega
        have hcM : M = c := by
          have e1 : onL l t = onK l t n := by unfold onL; rw [HL.out]
          rw [← HC1.out, ← hC.out, e1]
        subst hcM
        have hBw : Hid (Below w.heap.size w wr) := HB3.out.trans (hB.out.mono HB3.out.size)
        rcases hpos with ⟨rfl, rfl⟩ | ⟨p1, p2, p3⟩
        · go_wp2_with fail
          go_ret
          exact ⟨rfl, hBw.out⟩
        · have q1 : ((n : Int) == 0) = false := by simp; omega
          have q2 : ((M : Int) == 0) = false := by simp; omega
          have q3 : (C : Int) < (M : Int) := by omega
          have W1 : IntKind.i64.wrap (t - 1) = t - 1 := IntWalk.i64_in _ (by omega)
          have W2 : IntKind.i64.wrap (t - 1 - less) = t - 1 - less := IntWalk.i64_in _ (by omega)
          have W3 : IntKind.i64.wrap less = less := IntWalk.i64_in _ (by omega)
          go_wp2_with fail
          refine (height_c a n cap l (t - 1 - less) _ (by omega) (HS.out.below hBw.out) C HC.out).mono ?_
          rintro e w9 ⟨rfl, hb9⟩
          go_wp2_with fail
          go_ret
          exact ⟨rfl, hBw.out.trans (hb9.mono hBw.out.size)⟩
  · have HU := Lib.hid (show usS l = false by simpa using hu)
    clear hu
    go_enter Try.func6, Try.ntmps6
    go_wp2_with fail
    refine (c_head_any _).mono ?_
    rintro e w1 ⟨rfl, hb1⟩
    have HB1 : Below w.heap.size w w1 := by (repeat' (first | (with_reducible exact Below.refl _ _) | (with_reducible assumption) | (with_reducible exact Bw.out (by with_reducible assumption)) | (with_reducible refine bw_alloc ?_ _) | (with_reducible refine bw_step ?_ (by with_reducible assumption)) | (with_reducible refine Below.alloc ?_ ?_ _) | (with_reducible refine Below.drew ?_) | (with_reducible refine below_drewN ?_ _) | (with_reducible refine Below.setCell ?_ ?_ _) | (with_reducible refine below_step ?_ (by with_reducible assumption) ?_) | (with_reducible exact Nat.le_refl _) | omega | (simp; omega) | (simp; done)))
    go_wp2_with fail
    refine (usable_c a n cap l _ hn (HS.out.below (by (repeat' (first | (with_reducible exact Below.refl _ _) | (with_reducible assumption) | (with_reducible exact Bw.out (by with_reducible assumption)) | (with_reducible refine bw_alloc ?_ _) | (with_reducible refine bw_step ?_ (by with_reducible assumption)) | (with_reducible refine Below.alloc ?_ ?_ _) | (with_reducible refine Below.drew ?_) | (with_reducible refine below_drewN ?_ _) | (with_reducible refine Below.setCell ?_ ?_ _) | (with_reducible refine below_step ?_ (by with_reducible assumption) ?_) | (with_reducible exact Nat.le_refl _) | omega | (simp; omega) | (simp; done))))) false HU.out).mono ?_
    rintro e w2 ⟨rfl, hb2⟩
    have HB2 : Below w.heap.size w w2 := by (repeat' (first | (with_reducible exact Below.refl _ _) | (with_reducible assumption) | (with_reducible exact Bw.out (by with_reducible assumption)) | (with_reducible refine bw_alloc ?_ _) | (with_reducible refine bw_step ?_ (by with_reducible assumption)) | (with_reducible refine Below.alloc ?_ ?_ _) | (with_reducible refine Below.drew ?_) | (with_reducible refine below_drewN ?_ _) | (with_reducible refine Below.setCell ?_ ?_ _) | (with_reducible refine below_step ?_ (by with_reducible assumption) ?_) | (with_reducible exact Nat.le_refl _) | omega | (simp; omega) | (simp; done)))
    clear hb1 HB1
    go_wp2_with fail
    go_ret
    refine ⟨(by first | rfl | exact ret_bool (by first | rfl | (simp; done) | (simp; omega))), ?_⟩
    (repeat' (first | (with_reducible exact Below.refl _ _) | (with_reducible assumption) | (with_reducible exact Bw.out (by with_reducible assumption)) | (with_reducible refine bw_alloc ?_ _) | (with_reducible refine bw_step ?_ (by with_reducible assumption)) | (with_reducible refine Below.alloc ?_ ?_ _) | (with_reducible refine Below.drew ?_) | (with_reducible refine below_drewN ?_ _) | (with_reducible refine Below.setCell ?_ ?_ _) | (with_reducible refine below_step ?_ (by with_reducible assumption) ?_) | (with_reducible exact Nat.le_refl _) | omega | (simp; omega) | (simp; done)))


set_option maxRecDepth 100000 in
theorem colourCliques_lifted (os : Os) (started : os.Started) (H : Type) (enc : TypeId × Value → H) :
    ReturnsInHanded {} Try.checked os 6 .any (Rows.colourCliquesSpec.pre6 enc Try.prog Try.f6 Rows.colourCliquesRow.domain false) (Rows.colourCliquesSpec.post enc Try.prog Try.f6 false true false false) := by
  refine returnsInHanded_of_change (C := Try.checked) own started (by kernel_rfl) Try.func6
    (ChangeSpec.witness6 (enc := enc) (C := Try.checked) false ⟨#[], #[.slice none 0 0, .int .u16 0], []⟩ 8 (by kernel_rfl) (by kernel_rfl) (by kernel_rfl) (by kernel_rfl)) ?_
  intro W base args ds gs before hval0 hW _ _
  have hval : ∀ (j : Nat) t v, Try.f6.params[j]? = some t → args[j]? = some v → Value.okWide Try.prog W .any base t v := hval0
  have hW' := hW
  obtain ⟨p, q, hA0, hV, rfl, hfz, hnd⟩ := hW
  obtain ⟨rfl, rfl⟩ := trodVars_none hV
  have hA : DataW.TrodAll enc Try.prog W 0 (fun _ => true) true Try.f6.params.toList args.toList ds p := hA0
  rw [Try.params6] at hA hval
  obtain ⟨v0, vs0, d0, ds0, p0, q0, hargs, rfl, rfl, h0, r0⟩ := trodAll_cons hA
  obtain ⟨v1, vs1, d1, ds1, p1, q1, rfl, rfl, rfl, h1, r1⟩ := trodAll_cons r0
  obtain ⟨rfl, rfl, rfl⟩ := trodAll_nil r1
  obtain rfl : args = #[v0, v1] := by cases args; simp_all
  obtain ⟨a0_l, n0_l, c0_l, rfl⟩ := okWide_slice Try.underlying22 (hval 0 22 v0 rfl rfl)
  obtain ⟨fu_l, hf_l⟩ := h0
  obtain ⟨a_l, n_l, c_l, l_l, e_l, g1_l, g2_l, hs_l, wf_l⟩ := slp_of_spans (by simpa [Value.cells] using hf_l)
  cases e_l
  obtain ⟨less, rfl, rfl, rfl, wless⟩ := open_int Try.underlying38 (hval 1 38 v1 rfl rfl) h1
  clear hA0 hval0
  refine (colourCliques_walk _ _ _ l_l less wf_l wless W ⟨hs_l, g1_l, g2_l⟩).mono fun e W' ⟨he, hb⟩ => ?_
  subst he
  exact ⟨_, rfl, law_post (B := 4) laidOut (by rw [Try.params6]; simp only [List.mem_cons, List.not_mem_nil, or_false, forall_eq_or_imp, forall_eq]; first | exact readable_colourCliques | (repeat' apply And.intro) <;> first | exact of_decide_eq_true (by kernel_rfl) | kernel_rfl) rfl Try.underlying4 rfl rfl hW' hb⟩

theorem colourCliques_over : Rows.colourCliquesRow.holds Try.pinned (OpenSpec.ofChange Rows.colourCliquesSpec) :=
  OpenClaim.holds_of_wide 6 Try.f6 rfl rfl rfl rfl rfl rfl rfl ⟨rfl, rfl, rfl, rfl, rfl⟩ rfl rfl rfl rfl rfl (by kernel_rfl) Try.func6 (by kernel_rfl)
    (of_decide_eq_true (by kernel_rfl)) (by unfold Func.isWrapper; first | (rw [if_pos (by decide +kernel)]; kernel_rfl) | (rw [if_neg (by decide +kernel)]; exact ⟨rfl, rfl⟩))
    (fun os started H enc _ => colourCliques_lifted os started H enc)

theorem colourCliques_holds : Rows.ColourCliquesSaid := colourCliques_over
#print axioms colourCliques_holds
end Go.Proofs.Ytbafhmlmibjgpaa
