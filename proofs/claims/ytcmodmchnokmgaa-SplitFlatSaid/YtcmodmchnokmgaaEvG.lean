/-
 The walks of package rate: value, which recovers, and Eval.
-/
import Derived.Test.YtcmodmchnokmgaaEvF
namespace Go.Proofs.Ytcmodmchnokmgaa
set_option linter.unusedSimpArgs false
set_option linter.unusedVariables false
open Go.RowKit
/-- The deferred closure of value: where the call returns it turns nothing. -/
theorem value1_idle (p q : Addr) (w : World) :
  CallsD Try.prog 99 #[.pointer (some p), .pointer (some q)] .returning w fun e u' w' => e = .returned (.tuple #[]) ∧ u' = .returning ∧ w' = w := by
 refine callsD_of_wpS Try.func99 rfl fun c₀ cs hu => ?_
 apply wpS_seq
 apply wpS_region
 simp [wpOpsS, go_sem, recoverD, hu, Try.ntmps99, Exit.thenS]
 refine wpS_of_wp ?_
 go_wp2_with fail
 cases c₀
 simp_all [bodyPostS, results, Try.results99]
theorem assert_failure (E : Int) (w : World) : Sem.run Try.prog (Instr.typeAssert (.iface 138 (.agg #[.int .i64 E])) 20 138 true) w = .ok (.tuple #[.agg #[.int .i64 E], .bool true]) w := by kernel_rfl
set_option maxRecDepth 100000 in
set_option maxHeartbeats 1600000 in
theorem value1_panic (p q : Nat) (hne : p ≠ q) (E : Int) (older : List PanicEntry) (w : World) (hp : Row w p [.int .i64 0, .int .i64 0]) (hq : Row w q [.int .i64 0]) :
  CallsD Try.prog 99 #[.pointer (some ⟨p, 0, none⟩), .pointer (some ⟨q, 0, none⟩)] (.panicking ({ v := .iface 138 (.agg #[.int .i64 E]), recovered := false } :: older)) w fun e u' w' =>
   e = .returned (.tuple #[]) ∧ u' = .panicking ({ v := .iface 138 (.agg #[.int .i64 E]), recovered := true } :: older) ∧ Row w' p [.int .i64 0, .int .i64 0] ∧ Row w' q [.int .i64 E] ∧ Ch (fun k => k = p ∨ k = q) w w' := by
 have hta := assert_failure E
 refine callsD_of_wpS Try.func99 rfl fun c₀ cs hu => ?_
 apply wpS_seq
 apply wpS_region
 simp [wpOpsS, go_sem, recoverD, hu, Try.ntmps99, Exit.thenS]
 refine wpS_of_wp ?_
 simp only [Array.replicate_succ, Array.replicate_zero, List.push_toArray, List.append_toArray, List.nil_append, List.cons_append]
 go_upto_region 7 with fail
 obtain ⟨w1, hw1⟩ : ∃ X, World.alloc w (.cells #[.int .i64 E] 138) = X := ⟨_, rfl⟩
 have hb1 : Below w.heap.size w w1 := by rw [← hw1]; exact (Below.refl _ _).alloc (Nat.le_refl _) _
 have RF1 : Row w1 w.heap.size [.int .i64 E] := by rw [← hw1]; exact Row.new' _ _ _ rfl
 rw [hw1]
 clear hw1
 have hp1 := hp.step hb1
 have hq1 := hq.step hb1
 have hlp := hp.lt
 have hlq := hq.lt
 refine AnyJ.beginP (fun W => W.cell? ⟨w.heap.size, 0, none⟩ = some (.int .i64 E)) (fun j => decide (j ≤ 3)) (by kernel_rfl) (RF1.drew.cell 0 rfl) (fun hS => ?_)
 obtain ⟨w2, hw2⟩ : ∃ X, World.drew w1 = X := ⟨_, rfl⟩
 have hb2 : Below w1.heap.size w1 w2 := by rw [← hw2]; exact (Below.refl _ _).drew
 rw [hw2] at hS ⊢
 clear hw2
 have hp2 := hp1.step hb2
 have hq2 := hq1.step hb2
 have RF2 := RF1.step hb2
 refine AnyJ.takeD (i := 0) (d := some 11) (v := ?_) rfl (by kernel_rfl) (by kernel_rfl) (by kernel_rfl) (by kernel_rfl) (by kernel_rfl) (fun _ _ _ h => h) (Or.inl ⟨by kernel_rfl, ?_⟩) hS ?_
 rotate_left
 ·
  intro w' hS
  go_simp
  try with_reducible rfl
 refine AnyJ.takeD (i := 1) (d := some 12) (v := ?_) rfl (by kernel_rfl) (by kernel_rfl) (by kernel_rfl) (by kernel_rfl) (by kernel_rfl) (fun _ _ _ h => h) (Or.inl ⟨by kernel_rfl, ?_⟩) hS ?_
 rotate_left
 ·
  intro w' hS
  go_simp
  try with_reducible rfl
 refine AnyJ.takeD (i := 2) (d := some 13) (v := ?_) rfl (by kernel_rfl) (by kernel_rfl) (by kernel_rfl) (by kernel_rfl) (by kernel_rfl) (fun _ _ _ h => h) (Or.inl ⟨by kernel_rfl, ?_⟩) hS ?_
 rotate_left
 ·
  intro w' hS
  go_simp
  try with_reducible rfl
 clear hS
 have cp0 := hp2.cell 0 rfl
 have cp1 := hp2.cell 1 rfl
 have zp0 := hp2.frozen 0
 have zp1 := hp2.frozen 1
 have lp2 := hp2.lt
 refine AnyJ.one (i := 3) (by kernel_rfl) rfl (fun Kz hKz => ?_)
 go_simp
 have hC3 : Ch (fun k => k = p ∨ k = q) w ((w2.setCell ⟨p, 0, none⟩ (.int .i64 0)).setCell ⟨p, 1, none⟩ (.int .i64 0)) := ((Ch.of_below (hb1.trans (hb2.mono hb1.size))).setCell (p := ⟨p, 0, none⟩) (Or.inl rfl) _).setCell (p := ⟨p, 1, none⟩) (Or.inl rfl) _
 have hp3 := hp2.set2 (.int .i64 0) (.int .i64 0)
 have hq3 := (hq2.other (a := ⟨p, 0, none⟩) (Ne.symm hne) (.int .i64 0)).other (a := ⟨p, 1, none⟩) (Ne.symm hne) (.int .i64 0)
 have RF3 := (RF2.other (a := ⟨p, 0, none⟩) (by simp; omega) (.int .i64 0)).other (a := ⟨p, 1, none⟩) (by simp; omega) (.int .i64 0)
 obtain ⟨w3, hw3⟩ : ∃ X, (w2.setCell ⟨p, 0, none⟩ (.int .i64 0)).setCell ⟨p, 1, none⟩ (.int .i64 0) = X := ⟨_, rfl⟩
 rw [hw3] at hC3 hp3 hq3 RF3 ⊢
 refine hKz _ _ (fun _ => RF3.cell 0 rfl) ?_
 clear hKz Kz hw3 cp0 cp1 zp0 zp1 lp2
 have cq0 := hq3.cell 0 rfl
 have zq0 := hq3.frozen 0
 have lq3 := hq3.lt
 refine AnyJ.one (i := 4) (by kernel_rfl) rfl (fun Kz hKz => ?_)
 go_simp
 refine hKz _ _ (fun h => by cases h) ?_
 clear hKz Kz
 refine AnyJ.done (by kernel_rfl) ?_ _
 try simp only [Act.put, List.setIfInBounds_toArray, List.set_cons_zero, List.set_cons_succ]
 go_wp2_with fail
 refine ⟨rfl, _, rfl, .tuple #[], by simp [results, Try.results99], rfl, rfl, ?_, ?_, ?_⟩
 ·
  exact hp3.other (a := ⟨q, 0, none⟩) hne _
 ·
  exact hq3.set1 _
 ·
  exact hC3.setCell (p := ⟨q, 0, none⟩) (Or.inr rfl) _
set_option maxRecDepth 100000 in
set_option maxHeartbeats 4000000 in
theorem value_any (x : Ex) (v0 v1 v2 v3 : Int) (w : World) (h : x.In w) (hok : x.ok = true) (N D E : Int) (hR : x.ev (var4 v0 v1 v2 v3) = (N, D, E)) :
  Calls Try.prog 79 #[.agg #[.int .i64 x.op, .int .i64 x.n, .slice x.at' x.ks.length x.cap], .agg #[.int .i64 v0, .int .i64 v1, .int .i64 v2, .int .i64 v3]] w fun e w' => e = .returned (.tuple #[.agg #[.int .i64 N, .int .i64 D], .int .i64 E]) ∧ Below w.heap.size w w' := by
 have HIN := Lib.hid h
 have HOK := Lib.hid hok
 have HR := Lib.hid hR
 have hmf : ∀ (fn : Fn) (first cap : Array Value) (w : World), (Instr.makeFunc fn first cap).run Try.prog w = .ok (.func fn first cap) w := fun _ _ _ _ => rfl
 have HG : Hid (E ≠ 0 → N = 0 ∧ D = 0) := fun h => by
  have := (x.good (var4 v0 v1 v2 v3)).2.1
  rw [HR.out] at this
  exact this h
 clear h hok hR
 go_enter_defers Try.func79, Try.ntmps79
 go_upto_region 2 with fail
 generalize hw1 : World.alloc (World.alloc (World.alloc (World.alloc w _) _) _) _ = w1
 have HB1 : Below w.heap.size w w1 := by rw [← hw1]; (repeat' (first | (with_reducible first | exact Below.refl _ _ | assumption | exact Bw.out (by assumption) | refine bw_alloc ?_ _ | refine bw_step ?_ (by assumption) | refine Below.alloc ?_ ?_ _ | refine Below.drew ?_ | refine below_drewN ?_ _ | refine Below.setCell ?_ ?_ _ | refine below_step ?_ (by assumption) ?_ | exact Nat.le_refl _) | omega | (simp; omega) | (simp; done)))
 have Re1 : Row w1 w.heap.size [.int .i64 x.op, .int .i64 x.n, .slice x.at' x.ks.length x.cap] := by rw [← hw1]; (repeat' (first | (with_reducible assumption) | (with_reducible refine Row.new' _ _ _ (by first | rfl | (simp; done) | omega)) | (with_reducible refine Row.alloc ?_ _) | (with_reducible refine Row.drew ?_) | (with_reducible refine Row.drewN ?_ _) | (with_reducible refine Row.step ?_ (by with_reducible assumption))))
 have Rv1 : Row w1 (w.heap.size + 1) [.int .i64 v0, .int .i64 v1, .int .i64 v2, .int .i64 v3] := by rw [← hw1]; (repeat' (first | (with_reducible assumption) | (with_reducible refine Row.new' _ _ _ (by first | rfl | (simp; done) | omega)) | (with_reducible refine Row.alloc ?_ _) | (with_reducible refine Row.drew ?_) | (with_reducible refine Row.drewN ?_ _) | (with_reducible refine Row.step ?_ (by with_reducible assumption))))
 have Ro1 : Row w1 (w.heap.size + 1 + 1) [.int .i64 0, .int .i64 0] := by rw [← hw1]; (repeat' (first | (with_reducible assumption) | (with_reducible refine Row.new' _ _ _ (by first | rfl | (simp; done) | omega)) | (with_reducible refine Row.alloc ?_ _) | (with_reducible refine Row.drew ?_) | (with_reducible refine Row.drewN ?_ _) | (with_reducible refine Row.step ?_ (by with_reducible assumption))))
 have Rr1 : Row w1 (w.heap.size + 1 + 1 + 1) [.int .i64 0] := by rw [← hw1]; (repeat' (first | (with_reducible assumption) | (with_reducible refine Row.new' _ _ _ (by first | rfl | (simp; done) | omega)) | (with_reducible refine Row.alloc ?_ _) | (with_reducible refine Row.drew ?_) | (with_reducible refine Row.drewN ?_ _) | (with_reducible refine Row.step ?_ (by with_reducible assumption))))
 clear hw1
 have HS : Hid (∀ W, Below w1.heap.size w1 W → W.cell? ⟨w.heap.size + 1, 0, none⟩ = some (.int .i64 v0) ∧ W.cell? ⟨w.heap.size + 1, 1, none⟩ = some (.int .i64 v1) ∧ W.cell? ⟨w.heap.size + 1, 2, none⟩ = some (.int .i64 v2) ∧ W.cell? ⟨w.heap.size + 1, 3, none⟩ = some (.int .i64 v3) ∧ W.cell? ⟨w.heap.size, 0, none⟩ = some (.int .i64 x.op) ∧ W.cell? ⟨w.heap.size, 1, none⟩ = some (.int .i64 x.n) ∧ W.cell? ⟨w.heap.size, 2, none⟩ = some (.slice x.at' x.ks.length x.cap)) := fun W h =>
  ⟨(Rv1.step h).cell 0 rfl, (Rv1.step h).cell 1 rfl, (Rv1.step h).cell 2 rfl, (Rv1.step h).cell 3 rfl, (Re1.step h).cell 0 rfl, (Re1.step h).cell 1 rfl, (Re1.step h).cell 2 rfl⟩
 refine AnyJ.beginP (fun W => W.cell? ⟨w.heap.size + 1, 0, none⟩ = some (.int .i64 v0) ∧ W.cell? ⟨w.heap.size + 1, 1, none⟩ = some (.int .i64 v1) ∧ W.cell? ⟨w.heap.size + 1, 2, none⟩ = some (.int .i64 v2) ∧ W.cell? ⟨w.heap.size + 1, 3, none⟩ = some (.int .i64 v3) ∧ W.cell? ⟨w.heap.size, 0, none⟩ = some (.int .i64 x.op) ∧ W.cell? ⟨w.heap.size, 1, none⟩ = some (.int .i64 x.n) ∧ W.cell? ⟨w.heap.size, 2, none⟩ = some (.slice x.at' x.ks.length x.cap)) (fun j => decide (j ≤ 4)) (by kernel_rfl) (HS.out _ (Below.refl _ _).drew) (fun hS => ?_)
 obtain ⟨w2, hw2⟩ : ∃ X, World.drew w1 = X := ⟨_, rfl⟩
 have hb2 : Below w1.heap.size w1 w2 := by rw [← hw2]; exact (Below.refl _ _).drew
 rw [hw2] at hS ⊢
 clear hw2
 refine AnyJ.takeD (i := 0) (d := some 7) (v := ?_) rfl (by kernel_rfl) (by kernel_rfl) (by kernel_rfl) (by kernel_rfl) (by kernel_rfl) (fun c a w h => leaves_congr (by simp [results, Try.results79, Act.put]) _ _ _ h) (Or.inl ⟨by kernel_rfl, ?_⟩) hS ?_
 rotate_left
 ·
  intro w' hS
  obtain ⟨sF0, sF1, sF2, sF3, sE0, sE1, sE2⟩ := hS
  go_simp
  try with_reducible rfl
 refine AnyJ.takeD (i := 3) (d := some 10) (v := ?_) rfl (by kernel_rfl) (by kernel_rfl) (by kernel_rfl) (by kernel_rfl) (by kernel_rfl) (fun c a w h => leaves_congr (by simp [results, Try.results79, Act.put]) _ _ _ h) (Or.inl ⟨by kernel_rfl, ?_⟩) hS ?_
 rotate_left
 ·
  intro w' hS
  obtain ⟨sF0, sF1, sF2, sF3, sE0, sE1, sE2⟩ := hS
  go_simp
  try with_reducible rfl
 clear hS
 refine AnyJ.one (i := 1) (by kernel_rfl) rfl (fun Kz hKz => ?_)
 go_simp
 refine (opsR_any _).mono ?_
 rintro e w3 ⟨r, rfl, hO, hb3⟩
 have hb13 := hb2.trans (hb3.mono hb2.size)
 have hS := HS.out _ hb13
 refine hKz _ _ (fun _ => hS) ?_
 clear hKz Kz hb3
 refine AnyJ.takeD (i := 2) (d := some 9) (v := ?_) rfl (by kernel_rfl) (by kernel_rfl) (by kernel_rfl) (by kernel_rfl) (by kernel_rfl) (fun c a w h => leaves_congr (by simp [results, Try.results79, Act.put]) _ _ _ h) (Or.inl ⟨by kernel_rfl, ?_⟩) hS ?_
 rotate_left
 ·
  intro w' hS
  obtain ⟨sF0, sF1, sF2, sF3, sE0, sE1, sE2⟩ := hS
  go_simp
  try with_reducible rfl
 clear hS
 refine AnyJ.one (i := 4) (by kernel_rfl) rfl (fun Kz hKz => ?_)
 go_simp
 refine (ev_all v0 v1 v2 v3 x.size x (Nat.le_refl _) w3 r (HIN.out.step (HB1.trans (hb13.mono HB1.size))) HOK.out hO).mono ?_
 rintro e w4 ⟨rfl, hb4⟩
 have hb14 := hb13.trans (hb4.mono hb13.size)
 have HB4 := HB1.trans (hb14.mono HB1.size)
 have Ro4 := Ro1.step hb14
 have Rr4 := Rr1.step hb14
 have lo4 := Ro4.lt
 have lr4 := Rr4.lt
 rw [HR.out]
 by_cases h0 : E = 0
 ·
  subst h0
  rw [vE_ok rfl]
  have co0 := Ro4.cell 0 rfl
  have co1 := Ro4.cell 1 rfl
  have zo0 := Ro4.frozen 0
  have zo1 := Ro4.frozen 1
  have cr0 := Rr4.cell 0 rfl
  have zr0 := Rr4.frozen 0
  refine hKz _ _ (fun _ => HS.out _ hb14) ?_
  clear hKz Kz
  refine AnyJ.one (i := 5) (by kernel_rfl) rfl (fun Kz hKz => ?_)
  go_simp
  refine hKz _ _ (fun h => by cases h) ?_
  clear hKz Kz
  refine AnyJ.one (i := 6) (by kernel_rfl) rfl (fun Kz hKz => ?_)
  go_simp
  refine hKz _ _ (fun h => by cases h) ?_
  clear hKz Kz
  refine AnyJ.done (by kernel_rfl) ?_ _
  try simp only [Act.put, List.setIfInBounds_toArray, List.set_cons_zero, List.set_cons_succ]
  go_wp2_with fail
  refine leaves_cons (f := 99) (args := #[.pointer (some ⟨w.heap.size + 1 + 1, 0, none⟩), .pointer (some ⟨w.heap.size + 1 + 1 + 1, 0, none⟩)]) (by simp) (by simp [go_sem]) ?_
  refine (value1_idle _ _ _).mono ?_
  rintro e u' w5 ⟨rfl, rfl, rfl⟩
  have RP := (Ro4.set2 (.int .i64 N) (.int .i64 D)).other (a := ⟨w.heap.size + 1 + 1 + 1, 0, none⟩) (by simp) (.int .i64 0)
  have RQ := ((Rr4.other (a := ⟨w.heap.size + 1 + 1, 0, none⟩) (by simp) (.int .i64 N)).other (a := ⟨w.heap.size + 1 + 1, 1, none⟩) (by simp) (.int .i64 D)).set1 (.int .i64 0)
  have q0 := RP.cell 0 rfl
  have q1 := RP.cell 1 rfl
  have q2 := RQ.cell 0 rfl
  refine ⟨.tuple #[.agg #[.int .i64 N, .int .i64 D], .int .i64 0], ?_, rfl, by (repeat' (first | (with_reducible first | exact Below.refl _ _ | assumption | exact Bw.out (by assumption) | refine bw_alloc ?_ _ | refine bw_step ?_ (by assumption) | refine Below.alloc ?_ ?_ _ | refine Below.drew ?_ | refine below_drewN ?_ _ | refine Below.setCell ?_ ?_ _ | refine below_step ?_ (by assumption) ?_ | exact Nat.le_refl _) | omega | (simp; omega) | (simp; done)))⟩
  simp [results, Try.results79, go_sem, q0, q1, q2]
 ·
  obtain ⟨rfl, rfl⟩ := HG.out h0
  rw [vE_no h0]
  simp only []
  clear hKz Kz
  (try simp only [Exit.inBlock, Exit.then])
  refine leaves_cons (f := 99) (args := #[.pointer (some ⟨w.heap.size + 1 + 1, 0, none⟩), .pointer (some ⟨w.heap.size + 1 + 1 + 1, 0, none⟩)]) (by simp) (by simp [go_sem]) ?_
  refine (value1_panic _ _ (by simp) E [] _ Ro4 Rr4).mono ?_
  rintro e u' w5 ⟨rfl, rfl, hp, hq, hC⟩
  have c0 := hp.cell 0 rfl
  have c1 := hp.cell 1 rfl
  have c2 := hq.cell 0 rfl
  refine ⟨.tuple #[.agg #[.int .i64 0, .int .i64 0], .int .i64 E], ?_, rfl, hC.below HB4 (fun k hk => by omega) HB4.size⟩
  simp [results, Try.results79, go_sem, c0, c1, c2]
end Go.Proofs.Ytcmodmchnokmgaa
