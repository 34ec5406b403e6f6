/-
  The walk of package colour's Clique.
-/
import Derived.Test.YtbafhmlmibjgpaaColQ
import Derived.Test.YtbafhmlmibjgpaaColE
namespace Go.Proofs.Ytbafhmlmibjgpaa
set_option linter.unusedSimpArgs false
set_option linter.unusedVariables false
open Go.RowKit Go.Shelf

attribute [local go_sem] Oper.semAt_some

/-- A region that draws and does not panic. -/
theorem AnyJ.beginN {P : Program} {ops : Array Oper} {Q : Exit → Act → World → Prop} {id : Nat} {a : Act} {w : World} (S : World → Prop) (J : Nat → Bool) (hm : P.follows .mixedOrders = true) (hS : S w.drew)
    (h : S w.drew → AnyJ P .any ops (fun e a w => e = .normal ∧ Q .normal a w) S J ops.size (Array.replicate ops.size false) a w.drew) : (Code.region id ops true).wp P Q a w :=
  Code.wp_mono (fun e a w h => by obtain ⟨rfl, h⟩ := h; exact h) (AnyJ.beginP S J hm hS h)

theorem heights_any (a : Option Addr) (n cap : Nat) (w : World) :
    Calls Try.prog 28 #[.slice a n cap] w
      fun e w' => ∃ B : Nat, e = .returned (.func (.func 37) #[] #[.pointer (some ⟨B, 0, none⟩)]) ∧ w.heap.size ≤ B ∧ Row w' B [.slice a n cap] ∧ Below w.heap.size w w' := by
  go_enter Try.func28, Try.ntmps28
  go_wp2_with fail
  go_ret
  exact ⟨w.heap.size, rfl, Nat.le_refl _, by (repeat' (first | (with_reducible assumption) | (with_reducible refine Row.new' _ _ _ (by first | rfl | (simp; done) | omega)) | (with_reducible refine Row.alloc ?_ _) | (with_reducible refine Row.drew ?_) | (with_reducible refine Row.drewN ?_ _) | (with_reducible refine Row.step ?_ (by with_reducible assumption)))), by (repeat' (first | (with_reducible exact Below.refl _ _) | (with_reducible assumption) | (with_reducible exact Bw.out (by with_reducible assumption)) | (with_reducible refine bw_alloc ?_ _) | (with_reducible refine bw_step ?_ (by with_reducible assumption)) | (with_reducible refine Below.alloc ?_ ?_ _) | (with_reducible refine Below.drew ?_) | (with_reducible refine below_drewN ?_ _) | (with_reducible refine Below.setCell ?_ ?_ _) | (with_reducible refine below_step ?_ (by with_reducible assumption) ?_) | (with_reducible exact Nat.le_refl _) | omega | (simp; omega) | (simp; done)))⟩

set_option maxRecDepth 100000 in
set_option maxHeartbeats 1600000 in
theorem Clique_err (a : Option Addr) (n cap : Nat) (l : List SpV) (w : World) (hm : n ≤ 9223372036854775807) (hs : SlP w a n l) (E : Int) (hE : chkE l = E) (h0 : E ≠ 0) :
    Calls Try.prog 14 #[.slice a n cap] w fun e w' => e = .returned (.tuple #[.slice none 0 0, .int .i64 0, .int .i64 E]) ∧ Below w.heap.size w w' := by
  have HS := Lib.hid hs
  have HE := Lib.hid hE
  have h1 : (E == 0) = false := by simpa using h0
  clear hs hE
  go_enter Try.func14, Try.ntmps14
  go_wp2_with fail
  refine (ccheck_any a n cap l _ hm HS.out E HE.out).mono ?_
  rintro e w1 ⟨rfl, hb1⟩
  have HB1 : Below w.heap.size w w1 := by (repeat' (first | (with_reducible exact Below.refl _ _) | (with_reducible assumption) | (with_reducible exact Bw.out (by with_reducible assumption)) | (with_reducible refine bw_alloc ?_ _) | (with_reducible refine bw_step ?_ (by with_reducible assumption)) | (with_reducible refine Below.alloc ?_ ?_ _) | (with_reducible refine Below.drew ?_) | (with_reducible refine below_drewN ?_ _) | (with_reducible refine Below.setCell ?_ ?_ _) | (with_reducible refine below_step ?_ (by with_reducible assumption) ?_) | (with_reducible exact Nat.le_refl _) | omega | (simp; omega) | (simp; done)))
  go_wp2_with fail
  go_ret3
  refine ⟨rfl, ?_⟩
  (repeat' (first | (with_reducible exact Below.refl _ _) | (with_reducible assumption) | (with_reducible exact Bw.out (by with_reducible assumption)) | (with_reducible refine bw_alloc ?_ _) | (with_reducible refine bw_step ?_ (by with_reducible assumption)) | (with_reducible refine Below.alloc ?_ ?_ _) | (with_reducible refine Below.drew ?_) | (with_reducible refine below_drewN ?_ _) | (with_reducible refine Below.setCell ?_ ?_ _) | (with_reducible refine below_step ?_ (by with_reducible assumption) ?_) | (with_reducible exact Nat.le_refl _) | omega | (simp; omega) | (simp; done)))

/-- What holds between two rounds. -/
def InvQ (w : World) (A M base : Nat) (pre : List (Int × Int)) (wr : World) : Prop :=
  Row wr A [.int .i64 (pre.foldl clqF (0, 0)).1] ∧ Row wr M [.int .i64 (pre.foldl clqF (0, 0)).2] ∧ Below w.heap.size w wr ∧ base ≤ wr.heap.size
theorem invQ_abide {w : World} {A M base B : Nat} (hw : w.heap.size ≤ B) (hA : A < B) (hM : M < B) : Abide B (InvQ w A M base) := by
  rintro pre X Y ⟨h1, h2, h3, h4⟩ hb
  exact ⟨h1.of_block (hb.block A hA), h2.of_block (hb.block M hM), h3.trans (hb.mono hw), Nat.le_trans h4 hb.size⟩

set_option maxRecDepth 100000 in
set_option maxHeartbeats 6400000 in
theorem Clique_ok (a : Option Addr) (n cap : Nat) (l : List SpV) (w : World) (hm : n ≤ 3000) (hs : SlP w a n l) (hE : chkE l = 0) :
    Calls Try.prog 14 #[.slice a n cap] w fun e w' => ∃ v, e = .returned (.tuple #[v, .int .i64 (clqL l).1, .int .i64 0]) ∧ SlV w' v (onL l (clqL l).1) ∧ Below w.heap.size w w' := by
  have HS := Lib.hid hs
  have HE := Lib.hid hE
  have HL := Lib.hid hs.1
  have HLT : Hid (∀ b o, a = some ⟨b, o, none⟩ → 0 < n → b < w.heap.size) := fun b o e h0 => by
    obtain ⟨_, _, b9, o9, _, _, _, e9, h9, _, _⟩ := hs.get h0
    rw [e] at e9
    cases e9
    exact h9
  clear hs hE
  refine calls_of_wp_marks Try.func14 rfl ?_
  simp only [Try.ntmps14, List.size_toArray, List.length_cons, List.length_nil, Nat.reduceAdd, Nat.reduceSub, Array.replicate_succ, Array.replicate_zero, List.push_toArray, List.append_toArray, List.nil_append, List.cons_append]
  go_wp2_with fail
  refine (ccheck_any a n cap l _ (by omega) HS.out 0 HE.out).mono ?_
  rintro e w1 ⟨rfl, hb1⟩
  have HB1 : Below w.heap.size w w1 := by (repeat' (first | (with_reducible exact Below.refl _ _) | (with_reducible assumption) | (with_reducible exact Bw.out (by with_reducible assumption)) | (with_reducible refine bw_alloc ?_ _) | (with_reducible refine bw_step ?_ (by with_reducible assumption)) | (with_reducible refine Below.alloc ?_ ?_ _) | (with_reducible refine Below.drew ?_) | (with_reducible refine below_drewN ?_ _) | (with_reducible refine Below.setCell ?_ ?_ _) | (with_reducible refine below_step ?_ (by with_reducible assumption) ?_) | (with_reducible exact Nat.le_refl _) | omega | (simp; omega) | (simp; done)))
  have hb1s := HB1.size
  obtain ⟨A, hA⟩ : ∃ A, w1.heap.size = A := ⟨_, rfl⟩
  have hal : Below w1.heap.size w1 ((w1.alloc (.cells #[.int .i64 0] 3)).alloc (.cells #[.int .i64 0] 3)) := by (repeat' (first | (with_reducible exact Below.refl _ _) | (with_reducible assumption) | (with_reducible exact Bw.out (by with_reducible assumption)) | (with_reducible refine bw_alloc ?_ _) | (with_reducible refine bw_step ?_ (by with_reducible assumption)) | (with_reducible refine Below.alloc ?_ ?_ _) | (with_reducible refine Below.drew ?_) | (with_reducible refine below_drewN ?_ _) | (with_reducible refine Below.setCell ?_ ?_ _) | (with_reducible refine below_step ?_ (by with_reducible assumption) ?_) | (with_reducible exact Nat.le_refl _) | omega | (simp; omega) | (simp; done)))
  have RA0 : Row ((w1.alloc (.cells #[.int .i64 0] 3)).alloc (.cells #[.int .i64 0] 3)) w1.heap.size [.int .i64 0] := by (repeat' (first | (with_reducible assumption) | (with_reducible refine Row.new' _ _ _ (by first | rfl | (simp; done) | omega)) | (with_reducible refine Row.alloc ?_ _) | (with_reducible refine Row.drew ?_) | (with_reducible refine Row.drewN ?_ _) | (with_reducible refine Row.step ?_ (by with_reducible assumption))))
  have RM0 : Row ((w1.alloc (.cells #[.int .i64 0] 3)).alloc (.cells #[.int .i64 0] 3)) (w1.heap.size + 1) [.int .i64 0] := by (repeat' (first | (with_reducible assumption) | (with_reducible refine Row.new' _ _ _ (by first | rfl | (simp; done) | omega)) | (with_reducible refine Row.alloc ?_ _) | (with_reducible refine Row.drew ?_) | (with_reducible refine Row.drewN ?_ _) | (with_reducible refine Row.step ?_ (by with_reducible assumption))))
  have hs2 : ((w1.alloc (.cells #[.int .i64 0] 3)).alloc (.cells #[.int .i64 0] 3)).heap.size = w1.heap.size + 2 := by simp
  go_wp2_with fail
  obtain ⟨w2, hw2⟩ : ∃ W, (w1.alloc (.cells #[.int .i64 0] 3)).alloc (.cells #[.int .i64 0] 3) = W := ⟨_, rfl⟩
  rw [hw2] at hal RA0 RM0 hs2
  rw [hw2]
  have HS2 : Hid (SlP w2 a n l) := HS.out.below (HB1.trans (hal.mono hb1s))
  have HB2 : Hid (Below w.heap.size w w2) := HB1.trans (hal.mono hb1s)
  rw [hA] at RA0 RM0 hs2 hb1s
  try rw [hA]
  clear hal hw2 HB1 hb1
  refine (heights_any a n cap _).mono ?_
  rintro e w3 ⟨B, rfl, hB, RB, hb3⟩
  have RA3 := RA0.step hb3
  have RM3 := RM0.step hb3
  have HS3 : Hid (SlP w3 a n l) := HS2.out.below hb3
  have HB3 : Hid (Below w.heap.size w w3) := HB2.out.trans (hb3.mono HB2.out.size)
  have hs3 := hb3.size
  have hBA : A < B ∧ A + 1 < B := by constructor <;> omega
  have hstops := heights_stops (fun k => k = A ∨ k = A + 1) 5 (by omega) B a n cap l w3 RB HS3.out hm (fun k hk => ⟨by omega, by omega, fun b o e h0 => by have := HLT.out b o e h0; omega⟩)
  have HST := Lib.hid hstops
  clear hstops hb3 RA0 RM0 RB HS2 HB2
  go_wp2_with fail
  refine (wpIn_wide (n := 6)).1 ?_
  obtain ⟨base, hbase⟩ : ∃ base, w3.heap.size = base := ⟨_, rfl⟩
  have hwb : w.heap.size ≤ base := by omega
  have hAb : A < base ∧ A + 1 < base := by constructor <;> omega
  refine range_own (w0 := w3) (α := Int × Int) rfl (by omega) rfl trivial (enters_of Try.func37 (by kernel_rfl) rfl) HST.out (fun h k => h.trans k)
    (fun Wx l o o' hl ho hc hwk => KeepsO.putObj o' ho hc (fun k hk => hk))
    (Below.refl _ _) (fun _ => rfl)
    (InvQ w A (A + 1) base) (fun cx pre wr => False)
    (by rw [hbase]; exact invQ_abide hwb hAb.1 hAb.2) (fun cx s W l o o' _ _ _ h => h)
    ⟨RA3, RM3, HB3.out, by omega⟩
    (fun x => { tmps := #[.slice a n cap, undef, .slice none 0 0, .int .i64 0, .int .i64 0, .int .i64 0, .pointer (some ⟨A, 0, none⟩), .pointer (some ⟨A + 1, 0, none⟩), .int .i64 x.1, .int .i64 x.2, .slice a n cap, .int .i64 0, .int .i64 0, .bool false, undef, .slice a n cap, .func (.func 37) #[] #[.pointer (some ⟨B, 0, none⟩)], .int .i64 x.1, .int .i64 x.2, undef, undef, undef, undef, undef, undef, undef, undef, undef, undef, undef, undef], defers := [] }) ?assign ?body ?done ?stop
  case assign =>
    intro l x W K hK
    gi_wp2
    exact hK
  case body =>
    rintro lx pre x W ⟨q1, q2, q3, q4⟩ _ hpl
    obtain ⟨s, hs⟩ : ∃ s, pre.foldl clqF (0, 0) = s := ⟨_, rfl⟩
    have hsn : (pre ++ [x]).foldl clqF (0, 0) = clqF s x := by rw [List.foldl_append, hs]; rfl
    rw [hs] at q1 q2
    have c0 := q2.cell 0 rfl
    have f0 := q1.frozen 0
    have f1 := q2.frozen 0
    have d0 := q1.cell 0 rfl
    have l1 := q1.lt
    have l2 := q2.lt
    have HN := Lib.hid hsn
    have Q3 := Lib.hid q3
    clear hs hsn q3
    by_cases hlt : s.2 < x.2
    · have HN2 : Hid ((pre ++ [x]).foldl clqF (0, 0) = x) := by show _ = _; rw [HN.out]; unfold clqF; rw [if_pos hlt]
      gi_wp2_with fail
      have hC : Ch (fun k => k = A ∨ k = A + 1) W ((W.setCell ⟨A, 0, none⟩ (.int .i64 x.1)).setCell ⟨A + 1, 0, none⟩ (.int .i64 x.2)) := ((Ch.refl _ W).setCell (p := ⟨A, 0, none⟩) (Or.inl rfl) _).setCell (p := ⟨A + 1, 0, none⟩) (Or.inr rfl) _
      obtain ⟨T1, hT1⟩ := q1
      obtain ⟨T2, hT2⟩ := q2
      refine ⟨hC.others (fun k hk => by rcases hk with rfl | rfl <;> exact ⟨_, _, _, by assumption⟩), ⟨hC.size, fun k cs T fr hk hno => hC.2.2.2.2 k (Array.getElem?_eq_some_iff.1 hk).1 hno, fun k _ hk => hk⟩, ?_, ?_, hC.below Q3.out (fun k hk => by omega) Q3.out.size, Nat.le_trans q4 hC.size⟩
      · rw [HN2.out]
        exact ⟨T1, by simp [World.setCell, Array.getElem?_modify, hT1]⟩
      · rw [HN2.out]
        exact ⟨T2, by simp [World.setCell, Array.getElem?_modify, hT2]⟩
    · have HN2 : Hid ((pre ++ [x]).foldl clqF (0, 0) = s) := by show _ = _; rw [HN.out]; unfold clqF; rw [if_neg hlt]
      gi_wp2_with fail
      exact ⟨KeepsOthers.refl _, ⟨Nat.le_refl _, fun _ _ _ _ _ _ => rfl, fun _ _ h => h⟩, by rw [HN2.out]; exact q1, by rw [HN2.out]; exact q2, Q3.out, q4⟩
  case done =>
    rintro D xs W hD rfl ⟨q1, q2, q3, q4⟩ hKd
    obtain ⟨ho, _⟩ := chkE_ok HE.out
    obtain ⟨t, ht⟩ : ∃ t, (clqL l).1 = t := ⟨_, rfl⟩
    obtain ⟨mm, hmm⟩ : ∃ mm, (onL l t).length = mm := ⟨_, rfl⟩
    have h2 : (clqL l).2 = (mm : Int) := by
      have := col_clq ho
      rw [ht] at this
      omega
    have hf : (htY l n).foldl clqF (0, 0) = clqL l := by unfold clqL; rw [HL.out]
    rw [hf, ht] at q1
    rw [hf, h2] at q2
    have hmn : mm ≤ n := by
      have := onK_length l t l.length
      have h3 := HL.out
      rw [← hmm]
      unfold onL
      omega
    have HMM := Lib.hid hmm
    have Q3 := Lib.hid q3
    have HSW : Hid (SlP W a n l) := HS.out.below q3
    have HKD := Lib.hid hKd
    have hDl := (Array.getElem?_eq_some_iff.1 hKd).1
    have HT := Lib.hid ht
    clear hf h2 hmm q3 hKd ho ht
    go_wp2_with fail
    have hS : W.drew.cell? ⟨A, 0, none⟩ = some (.int .i64 t) ∧ W.drew.cell? ⟨A + 1, 0, none⟩ = some (.int .i64 mm) := ⟨q1.cell 0 rfl, q2.cell 0 rfl⟩
    refine AnyJ.beginN (fun w' : World => w'.cell? ⟨A, 0, none⟩ = some (.int .i64 t) ∧ w'.cell? ⟨A + 1, 0, none⟩ = some (.int .i64 mm)) (fun _ => true) (by kernel_rfl) hS (fun hS => ?_)
    refine AnyJ.takeD (i := 0) (d := some 24) (v := ?_) rfl (by kernel_rfl) (by kernel_rfl) (by kernel_rfl) (by kernel_rfl) (by kernel_rfl) (fun _ _ _ h => by cases h.1) (Or.inl ⟨by kernel_rfl, ?_⟩) hS ?_
    rotate_left
    · intro w' hS
      obtain ⟨sF0, sF1⟩ := hS
      go_simp
      try with_reducible rfl
    refine AnyJ.takeD (i := 1) (d := some 25) (v := ?_) rfl (by kernel_rfl) (by kernel_rfl) (by kernel_rfl) (by kernel_rfl) (by kernel_rfl) (fun _ _ _ h => by cases h.1) (Or.inl ⟨by kernel_rfl, ?_⟩) hS ?_
    rotate_left
    · intro w' hS
      obtain ⟨sF0, sF1⟩ := hS
      go_simp
      try with_reducible rfl
    refine AnyJ.takeD (i := 3) (d := some 27) (v := ?_) rfl (by kernel_rfl) (by kernel_rfl) (by kernel_rfl) (by kernel_rfl) (by kernel_rfl) (fun _ _ _ h => by cases h.1) (Or.inl ⟨by kernel_rfl, ?_⟩) hS ?_
    rotate_left
    · intro w' hS
      obtain ⟨sF0, sF1⟩ := hS
      go_simp
      try with_reducible rfl
    refine AnyJ.takeD (i := 4) (d := some 28) (v := ?_) rfl (by kernel_rfl) (by kernel_rfl) (by kernel_rfl) (by kernel_rfl) (by kernel_rfl) (fun _ _ _ h => by cases h.1) (Or.inl ⟨by kernel_rfl, ?_⟩) hS ?_
    rotate_left
    · intro w' hS
      obtain ⟨sF0, sF1⟩ := hS
      go_simp
      try with_reducible rfl
    refine AnyJ.takeD (i := 6) (d := some 30) (v := ?_) rfl (by kernel_rfl) (by kernel_rfl) (by kernel_rfl) (by kernel_rfl) (by kernel_rfl) (fun _ _ _ h => by cases h.1) (Or.inl ⟨by kernel_rfl, ?_⟩) hS ?_
    rotate_left
    · intro w' hS
      obtain ⟨sF0, sF1⟩ := hS
      go_simp
      try with_reducible rfl
    refine AnyJ.one (i := 2) (by kernel_rfl) rfl (fun Kz hKz => ?_)
    go_simp
    refine (on_any a n cap l t _ (by omega) (show SlP W.drew a n l from HSW.out)).mono ?_
    rintro e w4 ⟨v, rfl, hv, hb4⟩
    obtain ⟨ad, cp, rfl, hv2⟩ := hv.form2
    rw [HMM.out] at hv2 ⊢
    have HV := Lib.hid (hv2.sli HMM.out)
    have hsz := hv2.sizes
    have hshape := hv2.shape.2
    have hS4 : w4.cell? ⟨A, 0, none⟩ = some (.int .i64 t) ∧ w4.cell? ⟨A + 1, 0, none⟩ = some (.int .i64 mm) := ⟨((q1.of_block (w' := W.drew) rfl).step hb4).cell 0 rfl, ((q2.of_block (w' := W.drew) rfl).step hb4).cell 0 rfl⟩
    have HKD4 : Hid (w4.heap[D]? = some (.deferred (some []))) := (hb4.block D hDl).trans HKD.out
    have HB4 : Hid (Below w.heap.size w w4) := Q3.out.drew.trans (hb4.mono Q3.out.size)
    refine hKz _ _ (fun _ => hS4) ?_
    clear hKz Kz hv hv2 hb4 hS HKD Q3 HSW
    obtain ⟨hz1, hz2⟩ := hsz
    unfold maxLen at hz2
    rcases hshape with ⟨rfl, rfl, rfl⟩ | ⟨g, rfl, _, _⟩
    ·
      refine AnyJ.takeD (i := 5) (d := some 29) (v := ?_) rfl (by kernel_rfl) (by kernel_rfl) (by kernel_rfl) (by kernel_rfl) (by kernel_rfl) (fun _ _ _ h => by cases h.1) (Or.inl ⟨by kernel_rfl, ?_⟩) hS4 ?_
      rotate_left
      · intro w' hS
        obtain ⟨sF0, sF1⟩ := hS
        go_simp
        try with_reducible rfl
      refine AnyJ.takeD (i := 7) (d := some 2) (v := ?_) rfl (by kernel_rfl) (by kernel_rfl) (by kernel_rfl) (by kernel_rfl) (by kernel_rfl) (fun _ _ _ h => by cases h.1) (Or.inl ⟨by kernel_rfl, ?_⟩) hS4 ?_
      rotate_left
      · intro w' hS
        obtain ⟨sF0, sF1⟩ := hS
        go_simp
        try with_reducible rfl
      refine AnyJ.takeD (i := 8) (d := some 3) (v := ?_) rfl (by kernel_rfl) (by kernel_rfl) (by kernel_rfl) (by kernel_rfl) (by kernel_rfl) (fun _ _ _ h => by cases h.1) (Or.inl ⟨by kernel_rfl, ?_⟩) hS4 ?_
      rotate_left
      · intro w' hS
        obtain ⟨sF0, sF1⟩ := hS
        go_simp
        try with_reducible rfl
      refine AnyJ.takeD (i := 9) (d := some 4) (v := ?_) rfl (by kernel_rfl) (by kernel_rfl) (by kernel_rfl) (by kernel_rfl) (by kernel_rfl) (fun _ _ _ h => by cases h.1) (Or.inl ⟨by kernel_rfl, ?_⟩) hS4 ?_
      rotate_left
      · intro w' hS
        obtain ⟨sF0, sF1⟩ := hS
        go_simp
        try with_reducible rfl
      refine AnyJ.done (by kernel_rfl) ⟨rfl, ?_⟩ _
      try simp only [Act.put, List.setIfInBounds_toArray, List.set_cons_zero, List.set_cons_succ]
      go_wp2_with fail
      refine ⟨by simp, .inl ⟨_, _, rfl, run_takeDeferred HKD4.out, ?_⟩⟩
      have hgr := grownBy_putObj' w4 D (.deferred none)
      have hsl : SlI (w4.putObj D (.deferred none)) (none) 0 (onL l t) := HV.out.keepsO (KeepsO.putObj (own := fun _ _ => False) _ HKD4.out rfl (fun _ h => h)) (fun _ _ _ h => h)
      refine ⟨.tuple #[.slice (none) 0 0, .int .i64 t, .int .i64 0], by simp [results, Try.results14, go_sem], _, by rw [HT.out], ?_, HB4.out.grown hgr HB4.out.size (fun k e => by cases e; omega)⟩
      rw [HT.out]
      exact ⟨_, 0, by rw [HMM.out], by rw [HMM.out]; exact hsl, by rw [HMM.out]; exact Nat.le_refl _, by unfold maxLen; omega⟩
    ·
      refine AnyJ.takeD (i := 5) (d := some 29) (v := ?_) rfl (by kernel_rfl) (by kernel_rfl) (by kernel_rfl) (by kernel_rfl) (by kernel_rfl) (fun _ _ _ h => by cases h.1) (Or.inl ⟨by kernel_rfl, ?_⟩) hS4 ?_
      rotate_left
      · intro w' hS
        obtain ⟨sF0, sF1⟩ := hS
        go_simp
        try with_reducible rfl
      refine AnyJ.takeD (i := 7) (d := some 2) (v := ?_) rfl (by kernel_rfl) (by kernel_rfl) (by kernel_rfl) (by kernel_rfl) (by kernel_rfl) (fun _ _ _ h => by cases h.1) (Or.inl ⟨by kernel_rfl, ?_⟩) hS4 ?_
      rotate_left
      · intro w' hS
        obtain ⟨sF0, sF1⟩ := hS
        go_simp
        try with_reducible rfl
      refine AnyJ.takeD (i := 8) (d := some 3) (v := ?_) rfl (by kernel_rfl) (by kernel_rfl) (by kernel_rfl) (by kernel_rfl) (by kernel_rfl) (fun _ _ _ h => by cases h.1) (Or.inl ⟨by kernel_rfl, ?_⟩) hS4 ?_
      rotate_left
      · intro w' hS
        obtain ⟨sF0, sF1⟩ := hS
        go_simp
        try with_reducible rfl
      refine AnyJ.takeD (i := 9) (d := some 4) (v := ?_) rfl (by kernel_rfl) (by kernel_rfl) (by kernel_rfl) (by kernel_rfl) (by kernel_rfl) (fun _ _ _ h => by cases h.1) (Or.inl ⟨by kernel_rfl, ?_⟩) hS4 ?_
      rotate_left
      · intro w' hS
        obtain ⟨sF0, sF1⟩ := hS
        go_simp
        try with_reducible rfl
      refine AnyJ.done (by kernel_rfl) ⟨rfl, ?_⟩ _
      try simp only [Act.put, List.setIfInBounds_toArray, List.set_cons_zero, List.set_cons_succ]
      go_wp2_with fail
      refine ⟨by simp, .inl ⟨_, _, rfl, run_takeDeferred HKD4.out, ?_⟩⟩
      have hgr := grownBy_putObj' w4 D (.deferred none)
      have hsl : SlI (w4.putObj D (.deferred none)) (some ⟨g, 0, none⟩) mm (onL l t) := HV.out.keepsO (KeepsO.putObj (own := fun _ _ => False) _ HKD4.out rfl (fun _ h => h)) (fun _ _ _ h => h)
      refine ⟨.tuple #[.slice (some ⟨g, 0, none⟩) mm mm, .int .i64 t, .int .i64 0], by simp [results, Try.results14, go_sem], _, by rw [HT.out], ?_, HB4.out.grown hgr HB4.out.size (fun k e => by cases e; omega)⟩
      rw [HT.out]
      exact ⟨_, mm, by rw [HMM.out], by rw [HMM.out]; exact hsl, by rw [HMM.out]; exact Nat.le_refl _, by unfold maxLen; omega⟩
  case stop =>
    rintro D cx pre Wx hD hpre h hKd
    exact h.elim

end Go.Proofs.Ytbafhmlmibjgpaa
