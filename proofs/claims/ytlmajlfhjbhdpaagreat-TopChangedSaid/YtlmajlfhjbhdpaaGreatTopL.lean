/-
 TopChanged: behind each change (a stay added, extended, removed, a guest's arrival) every stay has a room, two stays of one room share no night, and who is in the house is not moved.
 No condition: for every input (more than 6 rooms, rooms that are not well-formed, more than 12 changes are not looked at by the law itself).
-/
import Derived.Test.YtlmajlfhjbhdpaaGreatTop
import Derived.Test.YtlmajlfhjbhdpaaGreatLaw
namespace Go.Proofs.YtlmajlfhjbhdpaaGreat
set_option linter.unusedSimpArgs false
set_option linter.unusedVariables false
open Go.ChangeShapes Go.WideShapes Go.ChangeAt Go.RowKit
set_option maxRecDepth 100000 in
theorem topChanged_lifted (os : Os) (started : os.Started) (H : Type) (enc : TypeId × Value → H) :
  ReturnsInHanded {} Tryz.checked os 3 .any (Rows.topChangedSpec.pre6 enc Tryz.prog Tryz.f3 Rows.topChangedRow.domain false) (Rows.topChangedSpec.post enc Tryz.prog Tryz.f3 false true false false) := by
 refine returnsInHanded_of_change (C := Tryz.checked) own started (by kernel_rfl) Tryz.func3
  (ChangeSpec.witness6 (enc := enc) (C := Tryz.checked) false ⟨#[], #[.slice none 0 0, .slice none 0 0], []⟩ 8 (by kernel_rfl) (by kernel_rfl) (by kernel_rfl) (by kernel_rfl)) ?_
 intro W base args ds gs before hval0 hW _ _
 have hval : ∀ (j : Nat) t v, Tryz.f3.params[j]? = some t → args[j]? = some v → Value.okWide Tryz.prog W .any base t v := hval0
 have hW' := hW
 obtain ⟨p, q, hA0, hV, rfl, hfz, hnd⟩ := hW
 obtain ⟨rfl, rfl⟩ := trodVars_none hV
 have hA : DataW.TrodAll enc Tryz.prog W 0 (fun _ => true) true Tryz.f3.params.toList args.toList ds p := hA0
 rw [Tryz.params3] at hA hval
 obtain ⟨v0, vs0, d0, ds0, p0, q0, hargs, rfl, rfl, h0, r0⟩ := trodAll_cons hA
 obtain ⟨v1, vs1, d1, ds1, p1, q1, rfl, rfl, rfl, h1, r1⟩ := trodAll_cons r0
 obtain ⟨rfl, rfl, rfl⟩ := trodAll_nil r1
 obtain rfl : args = #[v0, v1] := by cases args; simp_all
 obtain ⟨a0_r, n0_r, c0_r, rfl⟩ := okWide_slice Tryz.underlying22 (hval 0 22 v0 rfl rfl)
 obtain ⟨fu_r, hf_r⟩ := h0
 obtain ⟨a_r, n_r, c_r, l_r, e_r, g1_r, g2_r, hs_r, wf_r⟩ := slm_of_rooms (by simpa [Value.cells] using hf_r)
 cases e_r
 obtain ⟨a0_d, n0_d, c0_d, rfl⟩ := okWide_slice Tryz.underlying23 (hval 1 23 v1 rfl rfl)
 obtain ⟨fu_d, hf_d⟩ := h1
 obtain ⟨a_d, n_d, c_d, l_d, e_d, g1_d, g2_d, hs_d, wf_d⟩ := sld_of_deeds (by simpa [Value.cells] using hf_d)
 cases e_d
 clear hA0 hval0
 refine (topChanged_walk _ _ _ l_r _ _ _ l_d wf_r wf_d W ⟨hs_r, g1_r, g2_r⟩ ⟨hs_d, g1_d, g2_d⟩).mono fun e W' ⟨he, hb⟩ => ?_
 subst he
 exact ⟨_, rfl, law_post (B := 4) laidOut (by rw [Tryz.params3]; simp only [List.mem_cons, List.not_mem_nil, or_false, forall_eq_or_imp, forall_eq]; first | exact readable_topChanged | (repeat' apply And.intro) <;> first | exact of_decide_eq_true (by kernel_rfl) | kernel_rfl) rfl Tryz.underlying4 rfl rfl hW' hb⟩
theorem topChanged_over : Rows.topChangedRow.holds Tryz.pinned (OpenSpec.ofChange Rows.topChangedSpec) :=
 OpenClaim.holds_of_wide 3 Tryz.f3 rfl rfl rfl rfl rfl rfl rfl ⟨rfl, rfl, rfl, rfl, rfl⟩ rfl rfl rfl rfl rfl (by kernel_rfl) Tryz.func3 (by kernel_rfl)
  (of_decide_eq_true (by kernel_rfl)) (by unfold Func.isWrapper; first | (rw [if_pos (by decide +kernel)]; kernel_rfl) | (rw [if_neg (by decide +kernel)]; exact ⟨rfl, rfl⟩))
  (fun os started H enc _ => topChanged_lifted os started H enc)
theorem topChanged_holds : Rows.TopChangedSaid := topChanged_over
#print axioms topChanged_holds
end Go.Proofs.YtlmajlfhjbhdpaaGreat
