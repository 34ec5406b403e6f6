/-
  The law ColourOrder.
-/
import Derived.Test.YtbafhmlmibjgpaaColN
namespace Go.Proofs.Ytbafhmlmibjgpaa
set_option linter.unusedSimpArgs false
set_option linter.unusedVariables false
open Go.ChangeShapes Go.WideShapes Go.ChangeAt Go.RowKit

theorem rev_take {l : List SpV} {k q : Nat} {f u : Int} (h : k + (q + 1) = l.length) (hx : l.getD q sp0 = (f, u)) : l.reverse.take (k + 1) = l.reverse.take k ++ [(f, u)] := by
  have hk : k < l.reverse.length := by rw [List.length_reverse]; omega
  rw [List.take_succ_eq_append_getElem hk, List.getElem_reverse]
  have e : l.length - 1 - k = q := by omega
  simp only [e]
  have hq : q < l.length := by omega
  simp [List.getD, hq] at hx
  rw [hx]
set_option maxRecDepth 100000 in
set_option maxHeartbeats 6400000 in
theorem colourOrder_walk (a : Option Addr) (n cap : Nat) (l : List SpV) (wf : ∀ x ∈ l, SpanWf x) (w : World) (h : SlP w a n l ∧ n ≤ cap ∧ cap ≤ maxLen) :
    Calls Try.prog 9 #[.slice a n cap] w fun e w' => e = .returned (.bool true) ∧ Below w.heap.size w w' := by
  have hn := SlP.cap h
  have HS := Lib.hid h.1
  have HL := Lib.hid h.1.1
  have hcap := h.2
  clear h wf
  by_cases hu : usS l = true
  · by_cases h0 : 0 < n
    · obtain ⟨h1, h2, h3⟩ := usS_in hu
      have hn100 : n ≤ 100 := by have := HL.out; omega
      obtain ⟨x, r, hxr⟩ : ∃ x r, l = x :: r := by
        cases l with
        | nil => have := HL.out; simp at this; omega
        | cons x r => exact ⟨x, r, rfl⟩
      obtain ⟨p, rfl⟩ : ∃ p, n = p + 1 := ⟨n - 1, by omega⟩
      obtain ⟨b, off, ha⟩ : ∃ b off, a = some ⟨b, off, none⟩ := by
        obtain ⟨_, _, b, off, _, _, _, ha, _⟩ := HS.out.get h0
        exact ⟨b, off, ha⟩
      subst ha
      have hs2 : SlP w (some ⟨b, off + 2, none⟩) p r := SlP.tail (x := x) (by rw [← hxr]; exact HS.out)
      have ho2 : OkS r := OkS.tail (x := x) (by rw [← hxr]; exact h3)
      obtain ⟨M, hM⟩ : ∃ M, (colE l).length = M := ⟨_, rfl⟩
      obtain ⟨M2, hM2⟩ : ∃ M, (colE r).length = M := ⟨_, rfl⟩
      have hct := col_tail (x := x) (l := r) (by rw [← hxr]; exact h3)
      rw [← hxr, hM, hM2] at hct
      have hM3 : (colE l.reverse).length = M := by rw [col_reverse h3]; exact hM
      have hMn : M ≤ p + 1 := by rw [← hM, ← HL.out]; exact colE_le
      have hE3 : chkE l.reverse = 0 := chkE_of h3.reverse (by rw [List.length_reverse, HL.out]; omega)
      have hE2 : chkE r = 0 := chkE_of ho2 (by rw [hs2.1]; omega)
      obtain ⟨c1, c2⟩ := hct
      have iM1 : (M2 : Int) ≤ (M : Int) := by omega
      have iM2 : (M : Int) - 1 ≤ (M2 : Int) := by omega
      obtain ⟨n, hn1⟩ : ∃ n, p + 1 = n := ⟨_, rfl⟩
      have HP : Hid (p + 1 = n) := hn1
      rw [hn1] at HS HL h0 hn hn100 hMn hcap ⊢
      have HU := Lib.hid hu
      have HE := Lib.hid h2
      have HO := Lib.hid h3
      have HM := Lib.hid hM
      have HM2 := Lib.hid hM2
      have HM3 := Lib.hid hM3
      have HE2 := Lib.hid hE2
      have HE3 := Lib.hid hE3
      have HS2 := Lib.hid hs2
      have hz0 : ((n : Int) == 0) = false := by simp; omega
      have hz1 : (1 : Int) ≤ (n : Int) := by omega
      clear hu h1 h2 h3 hM hM2 hM3 hE2 hE3 hs2 ho2 hxr hn1 c1 c2
      go_enter Try.func9, Try.ntmps9
      go_wp2_with fail
      refine (c_head_any _).mono ?_
      rintro e w1 ⟨rfl, hb1⟩
      have HB1 : Below w.heap.size w w1 := by (repeat' (first | (with_reducible exact Below.refl _ _) | (with_reducible assumption) | (with_reducible exact Bw.out (by with_reducible assumption)) | (with_reducible refine bw_alloc ?_ _) | (with_reducible refine bw_step ?_ (by with_reducible assumption)) | (with_reducible refine Below.alloc ?_ ?_ _) | (with_reducible refine Below.drew ?_) | (with_reducible refine below_drewN ?_ _) | (with_reducible refine Below.setCell ?_ ?_ _) | (with_reducible refine below_step ?_ (by with_reducible assumption) ?_) | (with_reducible exact Nat.le_refl _) | omega | (simp; omega) | (simp; done)))
      go_wp2_with fail
      refine (usable_c _ n cap l _ hn (HS.out.below (by (repeat' (first | (with_reducible exact Below.refl _ _) | (with_reducible assumption) | (with_reducible exact Bw.out (by with_reducible assumption)) | (with_reducible refine bw_alloc ?_ _) | (with_reducible refine bw_step ?_ (by with_reducible assumption)) | (with_reducible refine Below.alloc ?_ ?_ _) | (with_reducible refine Below.drew ?_) | (with_reducible refine below_drewN ?_ _) | (with_reducible refine Below.setCell ?_ ?_ _) | (with_reducible refine below_step ?_ (by with_reducible assumption) ?_) | (with_reducible exact Nat.le_refl _) | omega | (simp; omega) | (simp; done))))) true HU.out).mono ?_
      rintro e w2 ⟨rfl, hb2⟩
      have HB2 : Below w.heap.size w w2 := by (repeat' (first | (with_reducible exact Below.refl _ _) | (with_reducible assumption) | (with_reducible exact Bw.out (by with_reducible assumption)) | (with_reducible refine bw_alloc ?_ _) | (with_reducible refine bw_step ?_ (by with_reducible assumption)) | (with_reducible refine Below.alloc ?_ ?_ _) | (with_reducible refine Below.drew ?_) | (with_reducible refine below_drewN ?_ _) | (with_reducible refine Below.setCell ?_ ?_ _) | (with_reducible refine below_step ?_ (by with_reducible assumption) ?_) | (with_reducible exact Nat.le_refl _) | omega | (simp; omega) | (simp; done)))
      clear hb1 HB1
      have HB2' := Lib.hid HB2
      go_wp2_with fail
      go_loopw [4, 5] (fun v vi wr => ∃ (k j : Nat) (i : Int) (ad : Option Addr) (cp : Nat), k + j = n ∧ v = .slice ad k cp ∧ vi = .int .i64 i ∧ Hid (i = (j : Int) - 1) ∧ Hid (OwnP wr w2.heap.size (.slice ad k cp) (l.reverse.take k)) ∧ Hid (Below w2.heap.size w2 wr)) (fun _ vi _ => (intOf vi + 1).toNat)
      case atStart => exact ⟨0, n, (n : Int) - 1, none, 0, by omega, rfl, by go_num, rfl, by show OwnP _ _ _ _; rw [List.take_zero]; exact OwnP.nil _ _, Below.refl _ _⟩
      case round =>
        obtain ⟨k, j, i, ad, cp, hk, rfl, rfl, hI, hO, hB⟩ := hrel
        have hBw : Hid (Below w.heap.size w wr) := HB2'.out.trans (hB.out.mono HB2'.out.size)
        cases j with
        | succ q =>
          have hq : i = (q : Int) := by have := hI.out; omega
          subst hq
          have hqn : q < n := by omega
          obtain ⟨f, u, b', off', hx, _, _, ha, _, c0, c1⟩ := (HS.out.below hBw.out).get hqn
          cases ha
          have HX := Lib.hid hx.out
          have i1 : (0 : Int) ≤ (q : Int) := by omega
          have i2 : (q : Int) < (n : Int) := by omega
          have HLk : Hid ((l.reverse.take k).length = k) := by
            show _ = _
            rw [List.length_take, List.length_reverse, HL.out]; omega
          have hsz := hB.out.size
          have hO3 : Hid (OwnP wr w2.heap.size (.slice ad k cp) (l.reverse.take k)) := hO
          have HR : Hid (l.reverse.take (k + 1) = l.reverse.take k ++ [(f, u)]) := rev_take (by rw [HL.out]; omega) HX.out
          clear hx hO
          go_upto_region 7 with (at_builtin; refine wpList_append_span rfl _ _ _ rfl Try.underlying22 w2.heap.size _ (l.reverse.take k) rfl (hO3.out.alloc _) wr.heap.size 1 (f, u) rfl (Row.new' wr [_, _] _ rfl) (by rw [HLk.out]; omega) (by simp; omega) ?_; intro v4 w4 hown hgr hsz4)
          rw [← HR.out] at hown
          obtain ⟨gg, cp2, rfl, hO4⟩ := hown.shape (k + 1) (by rw [List.length_take, List.length_reverse, HL.out]; omega)
          have HO4 := Lib.hid hO4
          have HB4 := Lib.hid (hgr _ (hB.out.alloc (by omega) _))
          clear hgr hO4 hown c0 c1
          go_wp2_with fail
          go_roundw
          case rel => exact ⟨k + 1, q, (q : Int) - 1, gg, cp2, by omega, rfl, by go_num, rfl, HO4.out, HB4.out⟩
          case measure => simp [intOf]
        | zero =>
          have hi0 : i < 0 := by have := hI.out; omega
          have hi1 : ¬ (0 ≤ i) := by omega
          obtain rfl : n = k := by omega
          have hO5 : Hid (SlP wr ad n l.reverse) := by
            have h5 := hO.out
            rw [List.take_of_length_le (by rw [List.length_reverse, HL.out]; exact Nat.le_refl _)] at h5
            exact h5.sl.1
          clear hI hO
          go_wp2_with fail
          refine (Colours_c _ n cap l _ (by omega) (HS.out.below hBw.out) HE.out M HM.out).mono ?_
          rintro e w5 ⟨a5, d5, rfl, _, hb5⟩
          have hB5 : Hid (Below w.heap.size w w5) := hBw.out.trans (hb5.mono hBw.out.size)
          have hO6 := Lib.hid (hO5.out.below hb5)
          clear hb5
          go_wp2_with fail
          refine (Colours_c ad n cp l.reverse _ (by omega) hO6.out HE3.out M HM3.out).mono ?_
          rintro e w6 ⟨a6, d6, rfl, _, hb6⟩
          have hB6 : Hid (Below w.heap.size w w6) := hB5.out.trans (hb6.mono hB5.out.size)
          clear hb6
          have HS7 : Hid (SlP w6 (some ⟨b, off + 2, none⟩) (n - 1) r) := by
            show SlP _ _ _ _
            have : n - 1 = p := by have := HP.out; omega
            rw [this]; exact HS2.out.below hB6.out
          have HS8 : Hid (∀ ad : Option Addr, n = 1 → SlP w6 ad (n - 1) r) := fun ad h1 => by
            subst h1
            have : r = [] := List.eq_nil_of_length_eq_zero (by have := HS7.out.1; omega)
            rw [this]; exact SlP.nil _ _
          have hcap1 := Lib.hid hcap.1
          have h0' := Lib.hid h0
          clear HS2 hcap h0
          go_wp2_with fail
          all_goals
            refine (Colours_c _ _ _ r _ (by omega) (by first | exact HS7.out | exact HS8.out _ (by have := hcap1.out; have := h0'.out; omega)) HE2.out M2 HM2.out).mono ?_
            rintro e w7 ⟨a7, d7, rfl, _, hb7⟩
            have hB7 : Hid (Below w.heap.size w w7) := hB6.out.trans (hb7.mono hB6.out.size)
            clear hb7 HS7 HS8
            go_wp2_with fail
            go_ret
            exact ⟨rfl, hB7.out⟩
    · have hz0 : n = 0 := by omega
      have hz : ((n : Int) == 0) = true := by simp; omega
      have HU := Lib.hid hu
      clear hu hz0 h0 hcap
      go_enter Try.func9, Try.ntmps9
      go_wp2_with fail
      refine (c_head_any _).mono ?_
      rintro e w1 ⟨rfl, hb1⟩
      have HB1 : Below w.heap.size w w1 := by (repeat' (first | (with_reducible exact Below.refl _ _) | (with_reducible assumption) | (with_reducible exact Bw.out (by with_reducible assumption)) | (with_reducible refine bw_alloc ?_ _) | (with_reducible refine bw_step ?_ (by with_reducible assumption)) | (with_reducible refine Below.alloc ?_ ?_ _) | (with_reducible refine Below.drew ?_) | (with_reducible refine below_drewN ?_ _) | (with_reducible refine Below.setCell ?_ ?_ _) | (with_reducible refine below_step ?_ (by with_reducible assumption) ?_) | (with_reducible exact Nat.le_refl _) | omega | (simp; omega) | (simp; done)))
      go_wp2_with fail
      refine (usable_c a n cap l _ hn (HS.out.below (by (repeat' (first | (with_reducible exact Below.refl _ _) | (with_reducible assumption) | (with_reducible exact Bw.out (by with_reducible assumption)) | (with_reducible refine bw_alloc ?_ _) | (with_reducible refine bw_step ?_ (by with_reducible assumption)) | (with_reducible refine Below.alloc ?_ ?_ _) | (with_reducible refine Below.drew ?_) | (with_reducible refine below_drewN ?_ _) | (with_reducible refine Below.setCell ?_ ?_ _) | (with_reducible refine below_step ?_ (by with_reducible assumption) ?_) | (with_reducible exact Nat.le_refl _) | omega | (simp; omega) | (simp; done))))) true HU.out).mono ?_
      rintro e w2 ⟨rfl, hb2⟩
      have HB2 : Below w.heap.size w w2 := by (repeat' (first | (with_reducible exact Below.refl _ _) | (with_reducible assumption) | (with_reducible exact Bw.out (by with_reducible assumption)) | (with_reducible refine bw_alloc ?_ _) | (with_reducible refine bw_step ?_ (by with_reducible assumption)) | (with_reducible refine Below.alloc ?_ ?_ _) | (with_reducible refine Below.drew ?_) | (with_reducible refine below_drewN ?_ _) | (with_reducible refine Below.setCell ?_ ?_ _) | (with_reducible refine below_step ?_ (by with_reducible assumption) ?_) | (with_reducible exact Nat.le_refl _) | omega | (simp; omega) | (simp; done)))
      clear hb1 HB1
      go_wp2_with fail
      go_ret
      refine ⟨(by first | rfl | exact ret_bool (by first | rfl | (simp; done) | (simp; omega))), ?_⟩
      (repeat' (first | (with_reducible exact Below.refl _ _) | (with_reducible assumption) | (with_reducible exact Bw.out (by with_reducible assumption)) | (with_reducible refine bw_alloc ?_ _) | (with_reducible refine bw_step ?_ (by with_reducible assumption)) | (with_reducible refine Below.alloc ?_ ?_ _) | (with_reducible refine Below.drew ?_) | (with_reducible refine below_drewN ?_ _) | (with_reducible refine Below.setCell ?_ ?_ _) | (with_reducible refine below_step ?_ (by with_reducible assumption) ?_) | (with_reducible exact Nat.le_refl _) | omega | (simp; omega) | (simp; done)))
  · have HU := Lib.hid (show usS l = false by simpa using hu)
    clear hu
    go_enter Try.func9, Try.ntmps9
    go_wp2_with fail
    refine (c_head_any _).mono ?_
    rintro e w1 ⟨rfl, hb1⟩
    have HB1 : Below w.heap.size w w1 := by (repeat' (first | (with_reducible exact Below.refl _ _) | (with_reducible assumption) | (with_reducible exact Bw.out (by with_reducible assumption)) | (with_reducible refine bw_alloc ?_ _) | (with_reducible refine bw_step ?_ (by with_reducible assumption)) | (with_reducible refine Below.alloc ?_ ?_ _) | (with_reducible refine Below.drew ?_) | (with_reducible refine below_drewN ?_ _) | (with_reducible refine Below.setCell ?_ ?_ _) | (with_reducible refine below_step ?_ (by with_reducible assumption) ?_) | (with_reducible exact Nat.le_refl _) | omega | (simp; omega) | (simp; done)))
    go_wp2_with fail
    refine (usable_c a n cap l _ hn (HS.out.below (by (repeat' (first | (with_reducible exact Below.refl _ _) | (with_reducible assumption) | (with_reducible exact Bw.out (by with_reducible assumption)) | (with_reducible refine bw_alloc ?_ _) | (with_reducible refine bw_step ?_ (by with_reducible assumption)) | (with_reducible refine Below.alloc ?_ ?_ _) | (with_reducible refine Below.drew ?_) | (with_reducible refine below_drewN ?_ _) | (with_reducible refine Below.setCell ?_ ?_ _) | (with_reducible refine below_step ?_ (by with_reducible assumption) ?_) | (with_reducible exact Nat.le_refl _) | omega | (simp; omega) | (simp; done))))) false HU.out).mono ?_
    rintro e w2 ⟨rfl, hb2⟩
    have HB2 : Below w.heap.size w w2 := by (repeat' (first | (with_reducible exact Below.refl _ _) | (with_reducible assumption) | (with_reducible exact Bw.out (by with_reducible assumption)) | (with_reducible refine bw_alloc ?_ _) | (with_reducible refine bw_step ?_ (by with_reducible assumption)) | (with_reducible refine Below.alloc ?_ ?_ _) | (with_reducible refine Below.drew ?_) | (with_reducible refine below_drewN ?_ _) | (with_reducible refine Below.setCell ?_ ?_ _) | (with_reducible refine below_step ?_ (by with_reducible assumption) ?_) | (with_reducible exact Nat.le_refl _) | omega | (simp; omega) | (simp; done)))
    clear hb1 HB1
    go_wp2_with fail
    go_ret
    refine ⟨(by first | rfl | exact ret_bool (by first | rfl | (simp; done) | (simp; omega))), ?_⟩
    (repeat' (first | (with_reducible exact Below.refl _ _) | (with_reducible assumption) | (with_reducible exact Bw.out (by with_reducible assumption)) | (with_reducible refine bw_alloc ?_ _) | (with_reducible refine bw_step ?_ (by with_reducible assumption)) | (with_reducible refine Below.alloc ?_ ?_ _) | (with_reducible refine Below.drew ?_) | (with_reducible refine below_drewN ?_ _) | (with_reducible refine Below.setCell ?_ ?_ _) | (with_reducible refine below_step ?_ (by with_reducible assumption) ?_) | (with_reducible exact Nat.le_refl _) | omega | (simp; omega) | (simp; done)))


set_option maxRecDepth 100000 in
theorem colourOrder_lifted (os : Os) (started : os.Started) (H : Type) (enc : TypeId × Value → H) :
    ReturnsInHanded {} Try.checked os 9 .any (Rows.colourOrderSpec.pre6 enc Try.prog Try.f9 Rows.colourOrderRow.domain false) (Rows.colourOrderSpec.post enc Try.prog Try.f9 false true false false) := by
  refine returnsInHanded_of_change (C := Try.checked) own started (by kernel_rfl) Try.func9
    (ChangeSpec.witness6 (enc := enc) (C := Try.checked) false ⟨#[], #[.slice none 0 0], []⟩ 8 (by kernel_rfl) (by kernel_rfl) (by kernel_rfl) (by kernel_rfl)) ?_
  intro W base args ds gs before hval0 hW _ _
  have hval : ∀ (j : Nat) t v, Try.f9.params[j]? = some t → args[j]? = some v → Value.okWide Try.prog W .any base t v := hval0
  have hW' := hW
  obtain ⟨p, q, hA0, hV, rfl, hfz, hnd⟩ := hW
  obtain ⟨rfl, rfl⟩ := trodVars_none hV
  have hA : DataW.TrodAll enc Try.prog W 0 (fun _ => true) true Try.f9.params.toList args.toList ds p := hA0
  rw [Try.params9] at hA hval
  obtain ⟨v0, vs0, d0, ds0, p0, q0, hargs, rfl, rfl, h0, r0⟩ := trodAll_cons hA
  obtain ⟨rfl, rfl, rfl⟩ := trodAll_nil r0
  obtain rfl : args = #[v0] := by cases args; simp_all
  obtain ⟨a0_l, n0_l, c0_l, rfl⟩ := okWide_slice Try.underlying22 (hval 0 22 v0 rfl rfl)
  obtain ⟨fu_l, hf_l⟩ := h0
  obtain ⟨a_l, n_l, c_l, l_l, e_l, g1_l, g2_l, hs_l, wf_l⟩ := slp_of_spans (by simpa [Value.cells] using hf_l)
  cases e_l
  clear hA0 hval0
  refine (colourOrder_walk _ _ _ l_l wf_l W ⟨hs_l, g1_l, g2_l⟩).mono fun e W' ⟨he, hb⟩ => ?_
  subst he
  exact ⟨_, rfl, law_post (B := 4) laidOut (by rw [Try.params9]; simp only [List.mem_cons, List.not_mem_nil, or_false, forall_eq_or_imp, forall_eq]; first | exact readable_colourOrder | (repeat' apply And.intro) <;> first | exact of_decide_eq_true (by kernel_rfl) | kernel_rfl) rfl Try.underlying4 rfl rfl hW' hb⟩

theorem colourOrder_over : Rows.colourOrderRow.holds Try.pinned (OpenSpec.ofChange Rows.colourOrderSpec) :=
  OpenClaim.holds_of_wide 9 Try.f9 rfl rfl rfl rfl rfl rfl rfl ⟨rfl, rfl, rfl, rfl, rfl⟩ rfl rfl rfl rfl rfl (by kernel_rfl) Try.func9 (by kernel_rfl)
    (of_decide_eq_true (by kernel_rfl)) (by unfold Func.isWrapper; first | (rw [if_pos (by decide +kernel)]; kernel_rfl) | (rw [if_neg (by decide +kernel)]; exact ⟨rfl, rfl⟩))
    (fun os started H enc _ => colourOrder_lifted os started H enc)

theorem colourOrder_holds : Rows.ColourOrderSaid := colourOrder_over
#print axioms colourOrder_holds
end Go.Proofs.Ytbafhmlmibjgpaa
