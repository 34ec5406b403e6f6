/-
 SplitFlat: by one rate with the same price for each night nothing is undercut.
 No condition: for every input (a domain that is not small is not looked at).
-/
import Derived.Test.YtcmodmchnokmgaaSpR
namespace Go.Proofs.Ytcmodmchnokmgaa
set_option linter.unusedSimpArgs false
set_option linter.unusedVariables false
open Go.ChangeShapes Go.WideShapes Go.ChangeAt Go.RowKit Go.Deep
section
variable {H : Type} {enc : TypeId × Value → H} {w : World}
set_option maxRecDepth 100000 in
theorem dom_arg {b0 : Nat} {v : Value} {d : DataW H} {p : List MemPlace} (hv : Value.okWide Try.prog w .any b0 64 v) (h : DataW.Trod enc Try.prog w 0 (fun _ => true) true 64 v d p) : ∃ k fr un ps : Int, v = .agg #[.int .i64 k, .int .i64 fr, .int .i64 un, .int .i64 ps] ∧ I64 k ∧ I64 fr ∧ I64 un ∧ I64 ps := by
 obtain ⟨c0, c1, c2, c3, y0, y1, y2, y3, n, rfl, _, _, h0, h1, h2, h3⟩ := Go.Joins.open_agg4 Try.underlying64 (by kernel_rfl) (by kernel_rfl) hv h
 obtain ⟨k, rfl, i0⟩ := int_of h0
 obtain ⟨fr, rfl, i1⟩ := int_of h1
 obtain ⟨un, rfl, i2⟩ := int_of h2
 obtain ⟨ps, rfl, i3⟩ := int_of h3
 exact ⟨k, fr, un, ps, rfl, i0, i1, i2, i3⟩
end
set_option maxRecDepth 100000 in
theorem splitFlat_lifted (os : Os) (started : os.Started) (H : Type) (enc : TypeId × Value → H) :
  ReturnsInHanded {} Try.checked os 12 .any (Rows.splitFlatSpec.pre6 enc Try.prog Try.f12 Rows.splitFlatRow.domain false) (Rows.splitFlatSpec.post enc Try.prog Try.f12 false true false false) := by
 refine returnsInHanded_of_change (C := Try.checked) own started (by kernel_rfl) Try.func12
  (ChangeSpec.witness6 (enc := enc) (C := Try.checked) false ⟨#[], #[.int .u32 0, .agg #[.int .i64 0, .int .i64 0, .int .i64 0, .int .i64 0]], []⟩ 8 (by kernel_rfl) (by kernel_rfl) (by kernel_rfl) (by kernel_rfl)) ?_
 intro W base args ds gs before hval0 hW _ _
 have hval : ∀ (j : Nat) t v, Try.f12.params[j]? = some t → args[j]? = some v → Value.okWide Try.prog W .any base t v := hval0
 have hW' := hW
 obtain ⟨p, q, hA0, hV, rfl, hfz, hnd⟩ := hW
 obtain ⟨rfl, rfl⟩ := trodVars_none hV
 have hA : DataW.TrodAll enc Try.prog W 0 (fun _ => true) true Try.f12.params.toList args.toList ds p := hA0
 rw [Try.params12] at hA hval
 obtain ⟨v0, vs0, d0, ds0, p0, q0, hargs, rfl, rfl, h0, r0⟩ := trodAll_cons hA
 obtain ⟨v1, vs1, d1, ds1, p1, q1, rfl, rfl, rfl, h1, r1⟩ := trodAll_cons r0
 obtain ⟨rfl, rfl, rfl⟩ := trodAll_nil r1
 obtain rfl : args = #[v0, v1] := by cases args; simp_all
 obtain ⟨cents, rfl, rfl, rfl, wcents⟩ := open_int Try.underlying62 (hval 0 62 v0 rfl rfl) h0
 obtain ⟨a1_d, a2_d, a3_d, a4_d, rfl, wf_d⟩ := dom_arg (hval 1 64 v1 rfl rfl) h1
 clear hA0 hval0
 refine (splitFlat_walk cents a1_d a2_d a3_d a4_d wcents wf_d W ).mono fun e W' ⟨he, hb⟩ => ?_
 subst he
 exact ⟨_, rfl, law_post (B := 4) laidOut (by rw [Try.params12]; simp only [List.mem_cons, List.not_mem_nil, or_false, forall_eq_or_imp, forall_eq]; first | exact readable_splitFlat | (repeat' apply And.intro) <;> first | exact of_decide_eq_true (by kernel_rfl) | kernel_rfl) rfl Try.underlying4 rfl rfl hW' hb⟩
theorem splitFlat_over : Rows.splitFlatRow.holds Try.pinned (OpenSpec.ofChange Rows.splitFlatSpec) :=
 OpenClaim.holds_of_wide 12 Try.f12 rfl rfl rfl rfl rfl rfl rfl ⟨rfl, rfl, rfl, rfl, rfl⟩ rfl rfl rfl rfl rfl (by kernel_rfl) Try.func12 (by kernel_rfl)
  (of_decide_eq_true (by kernel_rfl)) (by unfold Func.isWrapper; first | (rw [if_pos (by decide +kernel)]; kernel_rfl) | (rw [if_neg (by decide +kernel)]; exact ⟨rfl, rfl⟩))
  (fun os started H enc _ => splitFlat_lifted os started H enc)
theorem splitFlat_holds : Rows.SplitFlatSaid := splitFlat_over
#print axioms splitFlat_holds
end Go.Proofs.Ytcmodmchnokmgaa
