/-
 SplitFlat (law14).
-/
import Derived.Test.YtcmodmchnokmgaaMW
import Derived.Test.YtcmodmchnokmgaaMD
import Derived.Test.YtcmodmchnokmgaaMG
namespace Go.Proofs.Ytcmodmchnokmgaa
set_option linter.unusedSimpArgs false
set_option linter.unusedVariables false
open Go.RowKit
/-- Cells stored one behind the other. -/
def puts (w : World) (b : Nat) : Nat → List Value → World
 | _, [] => w
 | i, v :: r => puts (w.setCell ⟨b, i, none⟩ v) b (i + 1) r
theorem Row.setAt {w : World} {b : Nat} {cs : List Value} (h : Row w b cs) (i : Nat) (v : Value) : Row (w.setCell ⟨b, i, none⟩ v) b (cs.set i v) := by
 obtain ⟨T, h⟩ := h
 exact ⟨T, by simp [World.setCell, Array.getElem?_modify, h]⟩
theorem Row.puts {b : Nat} : ∀ (vs : List Value) (i : Nat) {w : World} {cs : List Value}, Row w b cs → i + vs.length ≤ cs.length → Row (puts w b i vs) b (cs.take i ++ vs ++ cs.drop (i + vs.length))
 | [], i, w, cs, h, hl => by simpa [Go.Proofs.Ytcmodmchnokmgaa.puts] using h
 | v :: r, i, w, cs, h, hl => by
  have := Row.puts r (i + 1) (h.setAt i v) (by simp at hl ⊢; omega)
  unfold Go.Proofs.Ytcmodmchnokmgaa.puts
  simp at hl
  have e1 : (cs.set i v).take (i + 1) = cs.take i ++ [v] := by
   rw [List.take_succ_eq_append_getElem (by simp; omega), List.take_set_of_le (Nat.le_refl _)]
   simp
  have e2 : (cs.set i v).drop (i + 1 + r.length) = cs.drop (i + (v :: r).length) := by
   rw [List.drop_set_of_lt (by omega)]
   congr 1
   simp; omega
  rw [e1, e2] at this
  simpa using this
theorem Ch.puts {b : Nat} : ∀ (vs : List Value) (i : Nat) {A w : World}, Ch (fun k => k = b) A w → Ch (fun k => k = b) A (puts w b i vs)
 | [], _, _, _, h => h
 | v :: r, i, _, _, h => Ch.puts r (i + 1) (h.setCell (p := ⟨b, i, none⟩) rfl v)
theorem put_all {w : World} {b : Nat} {cs : List Value} (h : Row w b cs) (vs : List Value) (hl : vs.length = cs.length) : Row (Go.Proofs.Ytcmodmchnokmgaa.puts w b 0 vs) b vs ∧ Ch (fun k => k = b) w (Go.Proofs.Ytcmodmchnokmgaa.puts w b 0 vs) := by
 refine ⟨?_, Ch.puts vs 0 (Ch.refl _ w)⟩
 have := h.puts vs 0 (by omega)
 simpa [hl] using this
set_option maxHeartbeats 800000 in
theorem R14_in (n lo hi : Int) (p : Bool) (hp : inE n lo hi = p) (w : World) :
  Calls Try.prog 63 #[.int .i64 n, .int .i64 lo, .int .i64 hi] w fun e w' => e = .returned (.bool p) ∧ Below w.heap.size w w' := by
 subst hp
 by_cases h : lo ≤ n
 ·
  have e : inE n lo hi = decide (n ≤ hi) := by unfold inE; simp [h]
  rw [e]
  go_enter Try.func63, Try.ntmps63
  go_wp2_with fail
  go_ret
  exact ⟨rfl, Below.refl _ _⟩
 ·
  have e : inE n lo hi = false := by unfold inE; simp [h]
  rw [e]
  go_enter Try.func63, Try.ntmps63
  go_wp2_with fail
  go_ret
  exact ⟨rfl, Below.refl _ _⟩
def BoolE (e : Ending) : Prop := ∃ p, e = .returned (.bool p)
set_option maxHeartbeats 1600000 in
theorem R14_small (fr un nn pp : Int) (w : World) :
  Calls Try.prog 32 #[.agg #[.int .i64 fr, .int .i64 un, .int .i64 nn, .int .i64 pp]] w fun e w' => BoolE e ∧ Below w.heap.size w w' := by
 go_enter Try.func32, Try.ntmps32
 go_wp2_with fail
 all_goals
  go_ret
  exact ⟨⟨_, rfl⟩, by (repeat' (first | (with_reducible first | exact Below.refl _ _ | assumption | exact Bw.out (by assumption) | refine bw_alloc ?_ _ | refine bw_step ?_ (by assumption) | refine Below.alloc ?_ ?_ _ | refine Below.drew ?_ | refine below_drewN ?_ _ | refine Below.setCell ?_ ?_ _ | refine below_step ?_ (by assumption) ?_ | exact Nat.le_refl _) | omega | (simp; omega) | (simp; done)))⟩
set_option maxRecDepth 100000 in
set_option maxHeartbeats 1600000 in
theorem R14_domain (fr un nn pp : Int) (p : Bool) (hp : domB fr un nn pp = p) (w : World) :
  Calls Try.prog 35 #[.agg #[.int .i64 fr, .int .i64 un, .int .i64 nn, .int .i64 pp]] w fun e w' => e = .returned (.bool p) ∧ Below w.heap.size w w' := by
 subst hp
 obtain ⟨p3, hp3⟩ : ∃ p, inE nn 1 60 = p := ⟨_, rfl⟩
 obtain ⟨p4, hp4⟩ : ∃ p, inE pp 1 8 = p := ⟨_, rfl⟩
 have HP3 := Lib.hid hp3
 have HP4 := Lib.hid hp4
 by_cases h1 : 0 ≤ fr
 ·
  by_cases h2 : fr < un
  ·
   by_cases h3 : un ≤ 366
   ·
    have e : domB fr un nn pp = (p3 && p4) := by unfold domB; simp [h1, h2, h3, hp3, hp4]
    rw [e]
    clear e hp3 hp4
    go_enter Try.func35, Try.ntmps35
    go_wp2_with fail
    refine (R14_in nn 1 60 p3 HP3.out _).mono ?_
    rintro e w1 ⟨rfl, hb1⟩
    have R_d_1 : Row w1 (w.heap.size) [.int .i64 (fr), .int .i64 (un), .int .i64 (nn), .int .i64 (pp)] := by (repeat' (first | (with_reducible assumption) | (with_reducible refine Row.new' _ _ _ (by first | rfl | (simp; done) | omega)) | (with_reducible first | refine Row.alloc ?_ _ | refine Row.drew ?_ | refine Row.step ?_ (by assumption) | refine Row.drewN ?_ _) | (with_reducible refine Row.set2' ?_ _ _; first | exact ⟨_, _, by assumption⟩ | exact ⟨_, _, Row.alloc (by assumption) _⟩) | (with_reducible refine Row.other ?_ (by first | omega | (simp; omega)) _)))
    have c_d_0_1 := R_d_1.cell 0 rfl
    have c_d_1_1 := R_d_1.cell 1 rfl
    have c_d_2_1 := R_d_1.cell 2 rfl
    have c_d_3_1 := R_d_1.cell 3 rfl
    have l_d_1 := R_d_1.lt
    have HB1 : Below w.heap.size w w1 := by (repeat' (first | (with_reducible first | exact Below.refl _ _ | assumption | exact Bw.out (by assumption) | refine bw_alloc ?_ _ | refine bw_step ?_ (by assumption) | refine Below.alloc ?_ ?_ _ | refine Below.drew ?_ | refine below_drewN ?_ _ | refine Below.setCell ?_ ?_ _ | refine below_step ?_ (by assumption) ?_ | exact Nat.le_refl _) | omega | (simp; omega) | (simp; done)))
    go_wp2_with fail
    refine (R14_in pp 1 8 p4 HP4.out _).mono ?_
    rintro e w2 ⟨rfl, hb2⟩
    have R_d_2 : Row w2 (w.heap.size) [.int .i64 (fr), .int .i64 (un), .int .i64 (nn), .int .i64 (pp)] := by (repeat' (first | (with_reducible assumption) | (with_reducible refine Row.new' _ _ _ (by first | rfl | (simp; done) | omega)) | (with_reducible first | refine Row.alloc ?_ _ | refine Row.drew ?_ | refine Row.step ?_ (by assumption) | refine Row.drewN ?_ _) | (with_reducible refine Row.set2' ?_ _ _; first | exact ⟨_, _, by assumption⟩ | exact ⟨_, _, Row.alloc (by assumption) _⟩) | (with_reducible refine Row.other ?_ (by first | omega | (simp; omega)) _)))
    have c_d_0_2 := R_d_2.cell 0 rfl
    have c_d_1_2 := R_d_2.cell 1 rfl
    have c_d_2_2 := R_d_2.cell 2 rfl
    have c_d_3_2 := R_d_2.cell 3 rfl
    have l_d_2 := R_d_2.lt
    have HB2 : Below w.heap.size w w2 := by (repeat' (first | (with_reducible first | exact Below.refl _ _ | assumption | exact Bw.out (by assumption) | refine bw_alloc ?_ _ | refine bw_step ?_ (by assumption) | refine Below.alloc ?_ ?_ _ | refine Below.drew ?_ | refine below_drewN ?_ _ | refine Below.setCell ?_ ?_ _ | refine below_step ?_ (by assumption) ?_ | exact Nat.le_refl _) | omega | (simp; omega) | (simp; done)))
    clear R_d_1 c_d_0_1 c_d_1_1 c_d_2_1 c_d_3_1 hb1 HB1
    cases p3 with
    | false =>
     go_wp2_with fail
     go_ret
     refine ⟨(by first | rfl | exact ret_bool (by first | rfl | (simp; done) | (simp; omega))), ?_⟩
     (repeat' (first | (with_reducible first | exact Below.refl _ _ | assumption | exact Bw.out (by assumption) | refine bw_alloc ?_ _ | refine bw_step ?_ (by assumption) | refine Below.alloc ?_ ?_ _ | refine Below.drew ?_ | refine below_drewN ?_ _ | refine Below.setCell ?_ ?_ _ | refine below_step ?_ (by assumption) ?_ | exact Nat.le_refl _) | omega | (simp; omega) | (simp; done)))
    | true =>
     go_wp2_with fail
     go_ret
     refine ⟨(by first | rfl | exact ret_bool (by first | rfl | (simp; done) | (simp; omega))), ?_⟩
     (repeat' (first | (with_reducible first | exact Below.refl _ _ | assumption | exact Bw.out (by assumption) | refine bw_alloc ?_ _ | refine bw_step ?_ (by assumption) | refine Below.alloc ?_ ?_ _ | refine Below.drew ?_ | refine below_drewN ?_ _ | refine Below.setCell ?_ ?_ _ | refine below_step ?_ (by assumption) ?_ | exact Nat.le_refl _) | omega | (simp; omega) | (simp; done)))
   ·
    have e : domB fr un nn pp = false := by unfold domB; simp [h3]
    rw [e]
    clear e hp3 hp4
    go_enter Try.func35, Try.ntmps35
    go_wp2_with fail
    refine (R14_in nn 1 60 p3 HP3.out _).mono ?_
    rintro e w1 ⟨rfl, hb1⟩
    have R_d_1 : Row w1 (w.heap.size) [.int .i64 (fr), .int .i64 (un), .int .i64 (nn), .int .i64 (pp)] := by (repeat' (first | (with_reducible assumption) | (with_reducible refine Row.new' _ _ _ (by first | rfl | (simp; done) | omega)) | (with_reducible first | refine Row.alloc ?_ _ | refine Row.drew ?_ | refine Row.step ?_ (by assumption) | refine Row.drewN ?_ _) | (with_reducible refine Row.set2' ?_ _ _; first | exact ⟨_, _, by assumption⟩ | exact ⟨_, _, Row.alloc (by assumption) _⟩) | (with_reducible refine Row.other ?_ (by first | omega | (simp; omega)) _)))
    have c_d_0_1 := R_d_1.cell 0 rfl
    have c_d_1_1 := R_d_1.cell 1 rfl
    have c_d_2_1 := R_d_1.cell 2 rfl
    have c_d_3_1 := R_d_1.cell 3 rfl
    have l_d_1 := R_d_1.lt
    have HB1 : Below w.heap.size w w1 := by (repeat' (first | (with_reducible first | exact Below.refl _ _ | assumption | exact Bw.out (by assumption) | refine bw_alloc ?_ _ | refine bw_step ?_ (by assumption) | refine Below.alloc ?_ ?_ _ | refine Below.drew ?_ | refine below_drewN ?_ _ | refine Below.setCell ?_ ?_ _ | refine below_step ?_ (by assumption) ?_ | exact Nat.le_refl _) | omega | (simp; omega) | (simp; done)))
    go_wp2_with fail
    refine (R14_in pp 1 8 p4 HP4.out _).mono ?_
    rintro e w2 ⟨rfl, hb2⟩
    have R_d_2 : Row w2 (w.heap.size) [.int .i64 (fr), .int .i64 (un), .int .i64 (nn), .int .i64 (pp)] := by (repeat' (first | (with_reducible assumption) | (with_reducible refine Row.new' _ _ _ (by first | rfl | (simp; done) | omega)) | (with_reducible first | refine Row.alloc ?_ _ | refine Row.drew ?_ | refine Row.step ?_ (by assumption) | refine Row.drewN ?_ _) | (with_reducible refine Row.set2' ?_ _ _; first | exact ⟨_, _, by assumption⟩ | exact ⟨_, _, Row.alloc (by assumption) _⟩) | (with_reducible refine Row.other ?_ (by first | omega | (simp; omega)) _)))
    have c_d_0_2 := R_d_2.cell 0 rfl
    have c_d_1_2 := R_d_2.cell 1 rfl
    have c_d_2_2 := R_d_2.cell 2 rfl
    have c_d_3_2 := R_d_2.cell 3 rfl
    have l_d_2 := R_d_2.lt
    have HB2 : Below w.heap.size w w2 := by (repeat' (first | (with_reducible first | exact Below.refl _ _ | assumption | exact Bw.out (by assumption) | refine bw_alloc ?_ _ | refine bw_step ?_ (by assumption) | refine Below.alloc ?_ ?_ _ | refine Below.drew ?_ | refine below_drewN ?_ _ | refine Below.setCell ?_ ?_ _ | refine below_step ?_ (by assumption) ?_ | exact Nat.le_refl _) | omega | (simp; omega) | (simp; done)))
    clear R_d_1 c_d_0_1 c_d_1_1 c_d_2_1 c_d_3_1 hb1 HB1
    go_wp2_with fail
    go_ret
    refine ⟨(by first | rfl | exact ret_bool (by first | rfl | (simp; done) | (simp; omega))), ?_⟩
    (repeat' (first | (with_reducible first | exact Below.refl _ _ | assumption | exact Bw.out (by assumption) | refine bw_alloc ?_ _ | refine bw_step ?_ (by assumption) | refine Below.alloc ?_ ?_ _ | refine Below.drew ?_ | refine below_drewN ?_ _ | refine Below.setCell ?_ ?_ _ | refine below_step ?_ (by assumption) ?_ | exact Nat.le_refl _) | omega | (simp; omega) | (simp; done)))
  ·
   have e : domB fr un nn pp = false := by unfold domB; simp [h2]
   rw [e]
   clear e hp3 hp4
   go_enter Try.func35, Try.ntmps35
   go_wp2_with fail
   refine (R14_in nn 1 60 p3 HP3.out _).mono ?_
   rintro e w1 ⟨rfl, hb1⟩
   have R_d_1 : Row w1 (w.heap.size) [.int .i64 (fr), .int .i64 (un), .int .i64 (nn), .int .i64 (pp)] := by (repeat' (first | (with_reducible assumption) | (with_reducible refine Row.new' _ _ _ (by first | rfl | (simp; done) | omega)) | (with_reducible first | refine Row.alloc ?_ _ | refine Row.drew ?_ | refine Row.step ?_ (by assumption) | refine Row.drewN ?_ _) | (with_reducible refine Row.set2' ?_ _ _; first | exact ⟨_, _, by assumption⟩ | exact ⟨_, _, Row.alloc (by assumption) _⟩) | (with_reducible refine Row.other ?_ (by first | omega | (simp; omega)) _)))
   have c_d_0_1 := R_d_1.cell 0 rfl
   have c_d_1_1 := R_d_1.cell 1 rfl
   have c_d_2_1 := R_d_1.cell 2 rfl
   have c_d_3_1 := R_d_1.cell 3 rfl
   have l_d_1 := R_d_1.lt
   have HB1 : Below w.heap.size w w1 := by (repeat' (first | (with_reducible first | exact Below.refl _ _ | assumption | exact Bw.out (by assumption) | refine bw_alloc ?_ _ | refine bw_step ?_ (by assumption) | refine Below.alloc ?_ ?_ _ | refine Below.drew ?_ | refine below_drewN ?_ _ | refine Below.setCell ?_ ?_ _ | refine below_step ?_ (by assumption) ?_ | exact Nat.le_refl _) | omega | (simp; omega) | (simp; done)))
   go_wp2_with fail
   refine (R14_in pp 1 8 p4 HP4.out _).mono ?_
   rintro e w2 ⟨rfl, hb2⟩
   have R_d_2 : Row w2 (w.heap.size) [.int .i64 (fr), .int .i64 (un), .int .i64 (nn), .int .i64 (pp)] := by (repeat' (first | (with_reducible assumption) | (with_reducible refine Row.new' _ _ _ (by first | rfl | (simp; done) | omega)) | (with_reducible first | refine Row.alloc ?_ _ | refine Row.drew ?_ | refine Row.step ?_ (by assumption) | refine Row.drewN ?_ _) | (with_reducible refine Row.set2' ?_ _ _; first | exact ⟨_, _, by assumption⟩ | exact ⟨_, _, Row.alloc (by assumption) _⟩) | (with_reducible refine Row.other ?_ (by first | omega | (simp; omega)) _)))
   have c_d_0_2 := R_d_2.cell 0 rfl
   have c_d_1_2 := R_d_2.cell 1 rfl
   have c_d_2_2 := R_d_2.cell 2 rfl
   have c_d_3_2 := R_d_2.cell 3 rfl
   have l_d_2 := R_d_2.lt
   have HB2 : Below w.heap.size w w2 := by (repeat' (first | (with_reducible first | exact Below.refl _ _ | assumption | exact Bw.out (by assumption) | refine bw_alloc ?_ _ | refine bw_step ?_ (by assumption) | refine Below.alloc ?_ ?_ _ | refine Below.drew ?_ | refine below_drewN ?_ _ | refine Below.setCell ?_ ?_ _ | refine below_step ?_ (by assumption) ?_ | exact Nat.le_refl _) | omega | (simp; omega) | (simp; done)))
   clear R_d_1 c_d_0_1 c_d_1_1 c_d_2_1 c_d_3_1 hb1 HB1
   go_wp2_with fail
   go_ret
   refine ⟨(by first | rfl | exact ret_bool (by first | rfl | (simp; done) | (simp; omega))), ?_⟩
   (repeat' (first | (with_reducible first | exact Below.refl _ _ | assumption | exact Bw.out (by assumption) | refine bw_alloc ?_ _ | refine bw_step ?_ (by assumption) | refine Below.alloc ?_ ?_ _ | refine Below.drew ?_ | refine below_drewN ?_ _ | refine Below.setCell ?_ ?_ _ | refine below_step ?_ (by assumption) ?_ | exact Nat.le_refl _) | omega | (simp; omega) | (simp; done)))
 ·
  have e : domB fr un nn pp = false := by unfold domB; simp [h1]
  rw [e]
  clear e hp3 hp4
  go_enter Try.func35, Try.ntmps35
  go_wp2_with fail
  refine (R14_in nn 1 60 p3 HP3.out _).mono ?_
  rintro e w1 ⟨rfl, hb1⟩
  have R_d_1 : Row w1 (w.heap.size) [.int .i64 (fr), .int .i64 (un), .int .i64 (nn), .int .i64 (pp)] := by (repeat' (first | (with_reducible assumption) | (with_reducible refine Row.new' _ _ _ (by first | rfl | (simp; done) | omega)) | (with_reducible first | refine Row.alloc ?_ _ | refine Row.drew ?_ | refine Row.step ?_ (by assumption) | refine Row.drewN ?_ _) | (with_reducible refine Row.set2' ?_ _ _; first | exact ⟨_, _, by assumption⟩ | exact ⟨_, _, Row.alloc (by assumption) _⟩) | (with_reducible refine Row.other ?_ (by first | omega | (simp; omega)) _)))
  have c_d_0_1 := R_d_1.cell 0 rfl
  have c_d_1_1 := R_d_1.cell 1 rfl
  have c_d_2_1 := R_d_1.cell 2 rfl
  have c_d_3_1 := R_d_1.cell 3 rfl
  have l_d_1 := R_d_1.lt
  have HB1 : Below w.heap.size w w1 := by (repeat' (first | (with_reducible first | exact Below.refl _ _ | assumption | exact Bw.out (by assumption) | refine bw_alloc ?_ _ | refine bw_step ?_ (by assumption) | refine Below.alloc ?_ ?_ _ | refine Below.drew ?_ | refine below_drewN ?_ _ | refine Below.setCell ?_ ?_ _ | refine below_step ?_ (by assumption) ?_ | exact Nat.le_refl _) | omega | (simp; omega) | (simp; done)))
  go_wp2_with fail
  refine (R14_in pp 1 8 p4 HP4.out _).mono ?_
  rintro e w2 ⟨rfl, hb2⟩
  have R_d_2 : Row w2 (w.heap.size) [.int .i64 (fr), .int .i64 (un), .int .i64 (nn), .int .i64 (pp)] := by (repeat' (first | (with_reducible assumption) | (with_reducible refine Row.new' _ _ _ (by first | rfl | (simp; done) | omega)) | (with_reducible first | refine Row.alloc ?_ _ | refine Row.drew ?_ | refine Row.step ?_ (by assumption) | refine Row.drewN ?_ _) | (with_reducible refine Row.set2' ?_ _ _; first | exact ⟨_, _, by assumption⟩ | exact ⟨_, _, Row.alloc (by assumption) _⟩) | (with_reducible refine Row.other ?_ (by first | omega | (simp; omega)) _)))
  have c_d_0_2 := R_d_2.cell 0 rfl
  have c_d_1_2 := R_d_2.cell 1 rfl
  have c_d_2_2 := R_d_2.cell 2 rfl
  have c_d_3_2 := R_d_2.cell 3 rfl
  have l_d_2 := R_d_2.lt
  have HB2 : Below w.heap.size w w2 := by (repeat' (first | (with_reducible first | exact Below.refl _ _ | assumption | exact Bw.out (by assumption) | refine bw_alloc ?_ _ | refine bw_step ?_ (by assumption) | refine Below.alloc ?_ ?_ _ | refine Below.drew ?_ | refine below_drewN ?_ _ | refine Below.setCell ?_ ?_ _ | refine below_step ?_ (by assumption) ?_ | exact Nat.le_refl _) | omega | (simp; omega) | (simp; done)))
  clear R_d_1 c_d_0_1 c_d_1_1 c_d_2_1 c_d_3_1 hb1 HB1
  go_wp2_with fail
  go_ret
  refine ⟨(by first | rfl | exact ret_bool (by first | rfl | (simp; done) | (simp; omega))), ?_⟩
  (repeat' (first | (with_reducible first | exact Below.refl _ _ | assumption | exact Bw.out (by assumption) | refine bw_alloc ?_ _ | refine bw_step ?_ (by assumption) | refine Below.alloc ?_ ?_ _ | refine Below.drew ?_ | refine below_drewN ?_ _ | refine Below.setCell ?_ ?_ _ | refine below_step ?_ (by assumption) ?_ | exact Nat.le_refl _) | omega | (simp; omega) | (simp; done)))
theorem find_f {ad : Option Addr} {cap b : Nat} {c fr un nn pp E : Int} {w : World} (hc0 : 0 ≤ c) (hc1 : c ≤ 1000000) (hE : (if domB fr un nn pp = true then 0 else 1) = E) (hs : SlR w ad 1 [flR 3 c 1 60 b]) :
  Calls Try.prog 33 #[.slice ad 1 cap, .agg #[.int .i64 fr, .int .i64 un, .int .i64 nn, .int .i64 pp]] w fun e w' => e = .returned (.tuple #[.agg #[.int .i64 0, .int .i64 0, .int .i64 0, .int .i64 0, .int .i64 0, .int .i64 0, .int .i64 0], .bool false, .int .i64 E]) ∧ Below w.heap.size w w' :=
 Find_any ad 1 cap _ fr un nn pp w hs (by omega) (fun _ => none) (fun _ hd => und_ones b hc0 hc1 hd) [0, 0, 0, 0, 0, 0, 0] false E (by rw [← hE]; exact find_one b hc0 hc1 fr un nn pp)
set_option maxRecDepth 100000 in
set_option maxHeartbeats 6400000 in
theorem splitFlat_walk (cents fr un nn pp : Int) (wc : (Lit.int .u32 cents).wf = true) (wd : I64 fr ∧ I64 un ∧ I64 nn ∧ I64 pp) (w : World) :
  Calls Try.prog 12 #[.int .u32 cents, .agg #[.int .i64 fr, .int .i64 un, .int .i64 nn, .int .i64 pp]] w fun e w' => e = .returned (.bool true) ∧ Below w.heap.size w w' := by
 obtain ⟨c0, c1⟩ := bd_u32 wc
 obtain ⟨c, hc⟩ : ∃ c, cents.tmod 1000000 = c := ⟨_, rfl⟩
 have hc0 : 0 ≤ c := by rw [← hc]; exact Int.tmod_nonneg _ c0
 have hc1 : c ≤ 1000000 := by have := Int.tmod_lt_of_pos cents (show (0 : Int) < 1000000 by omega); omega
 obtain ⟨D, hD⟩ : ∃ p, domB fr un nn pp = p := ⟨_, rfl⟩
 obtain ⟨E, hE⟩ : ∃ E : Int, (if domB fr un nn pp = true then 0 else 1) = E := ⟨_, rfl⟩
 have HD := Lib.hid hD
 have HE := Lib.hid hE
 have HC := Lib.hid hc
 have HW : IntKind.i64.wrap cents = cents := IntWalk.i64_in _ (by omega)
 clear hD hE wc wd
 go_enter Try.func12, Try.ntmps12
 go_wp2_with fail
 refine (head_any _).mono ?_
 rintro e w1 ⟨rfl, hb1⟩
 have R_d_1 : Row w1 (w.heap.size) [.int .i64 (fr), .int .i64 (un), .int .i64 (nn), .int .i64 (pp)] := by (repeat' (first | (with_reducible assumption) | (with_reducible refine Row.new' _ _ _ (by first | rfl | (simp; done) | omega)) | (with_reducible first | refine Row.alloc ?_ _ | refine Row.drew ?_ | refine Row.step ?_ (by assumption) | refine Row.drewN ?_ _) | (with_reducible refine Row.set2' ?_ _ _; first | exact ⟨_, _, by assumption⟩ | exact ⟨_, _, Row.alloc (by assumption) _⟩) | (with_reducible refine Row.other ?_ (by first | omega | (simp; omega)) _)))
 have c_d_0_1 := R_d_1.cell 0 rfl
 have c_d_1_1 := R_d_1.cell 1 rfl
 have c_d_2_1 := R_d_1.cell 2 rfl
 have c_d_3_1 := R_d_1.cell 3 rfl
 have l_d_1 := R_d_1.lt
 have HB1 : Below w.heap.size w w1 := by (repeat' (first | (with_reducible first | exact Below.refl _ _ | assumption | exact Bw.out (by assumption) | refine bw_alloc ?_ _ | refine bw_step ?_ (by assumption) | refine Below.alloc ?_ ?_ _ | refine Below.drew ?_ | refine below_drewN ?_ _ | refine Below.setCell ?_ ?_ _ | refine below_step ?_ (by assumption) ?_ | exact Nat.le_refl _) | omega | (simp; omega) | (simp; done)))
 go_wp2_with fail
 refine (R14_small fr un nn pp _).mono ?_
 rintro e w2 ⟨⟨p, rfl⟩, hb2⟩
 have R_d_2 : Row w2 (w.heap.size) [.int .i64 (fr), .int .i64 (un), .int .i64 (nn), .int .i64 (pp)] := by (repeat' (first | (with_reducible assumption) | (with_reducible refine Row.new' _ _ _ (by first | rfl | (simp; done) | omega)) | (with_reducible first | refine Row.alloc ?_ _ | refine Row.drew ?_ | refine Row.step ?_ (by assumption) | refine Row.drewN ?_ _) | (with_reducible refine Row.set2' ?_ _ _; first | exact ⟨_, _, by assumption⟩ | exact ⟨_, _, Row.alloc (by assumption) _⟩) | (with_reducible refine Row.other ?_ (by first | omega | (simp; omega)) _)))
 have c_d_0_2 := R_d_2.cell 0 rfl
 have c_d_1_2 := R_d_2.cell 1 rfl
 have c_d_2_2 := R_d_2.cell 2 rfl
 have c_d_3_2 := R_d_2.cell 3 rfl
 have l_d_2 := R_d_2.lt
 have HB2 : Below w.heap.size w w2 := by (repeat' (first | (with_reducible first | exact Below.refl _ _ | assumption | exact Bw.out (by assumption) | refine bw_alloc ?_ _ | refine bw_step ?_ (by assumption) | refine Below.alloc ?_ ?_ _ | refine Below.drew ?_ | refine below_drewN ?_ _ | refine Below.setCell ?_ ?_ _ | refine below_step ?_ (by assumption) ?_ | exact Nat.le_refl _) | omega | (simp; omega) | (simp; done)))
 clear R_d_1 c_d_0_1 c_d_1_1 c_d_2_1 c_d_3_1 hb1 HB1
 cases p with
 | false =>
  go_wp2_with fail
  go_ret
  refine ⟨(by first | rfl | exact ret_bool (by first | rfl | (simp; done) | (simp; omega))), ?_⟩
  (repeat' (first | (with_reducible first | exact Below.refl _ _ | assumption | exact Bw.out (by assumption) | refine bw_alloc ?_ _ | refine bw_step ?_ (by assumption) | refine Below.alloc ?_ ?_ _ | refine Below.drew ?_ | refine below_drewN ?_ _ | refine Below.setCell ?_ ?_ _ | refine below_step ?_ (by assumption) ?_ | exact Nat.le_refl _) | omega | (simp; omega) | (simp; done)))
 | true =>
  go_wp2_with fail
  go_cut [6, 7, 8] from 14 to 25 (fun s6 s7 s8 wx => ∃ g : Nat, s6 = .pointer (some ⟨g, 0, none⟩) ∧ s7 = .bool false ∧ s8 = .int .i64 E ∧ Row wx g [.int .i64 0, .int .i64 0, .int .i64 0, .int .i64 0, .int .i64 0, .int .i64 0, .int .i64 0] ∧ Row wx (w.heap.size) [.int .i64 fr, .int .i64 un, .int .i64 nn, .int .i64 pp] ∧ Below w.heap.size w wx)
  case first =>
   refine AnyJ.beginP (fun w' : World => w'.cell? ⟨w.heap.size, 0, none⟩ = some (.int .i64 (fr)) ∧ w'.cell? ⟨w.heap.size, 1, none⟩ = some (.int .i64 (un)) ∧ w'.cell? ⟨w.heap.size, 2, none⟩ = some (.int .i64 (nn)) ∧ w'.cell? ⟨w.heap.size, 3, none⟩ = some (.int .i64 (pp))) (fun _ => true) (by kernel_rfl) ?_ (fun hS2 => ?_)
   ·
    exact (show ∀ (P S : World → Prop) (W : World), P W → (∀ w', P w' → S w') → S W from fun P S W h f => f W h) (fun w' : World => Row w' (w.heap.size) [.int .i64 (fr), .int .i64 (un), .int .i64 (nn), .int .i64 (pp)]) (fun w' : World => w'.cell? ⟨w.heap.size, 0, none⟩ = some (.int .i64 (fr)) ∧ w'.cell? ⟨w.heap.size, 1, none⟩ = some (.int .i64 (un)) ∧ w'.cell? ⟨w.heap.size, 2, none⟩ = some (.int .i64 (nn)) ∧ w'.cell? ⟨w.heap.size, 3, none⟩ = some (.int .i64 (pp))) _ (by (repeat' (first | (with_reducible assumption) | (with_reducible refine Row.new' _ _ _ (by first | rfl | (simp; done) | omega)) | (with_reducible first | refine Row.alloc ?_ _ | refine Row.drew ?_ | refine Row.step ?_ (by assumption) | refine Row.drewN ?_ _) | (with_reducible refine Row.set2' ?_ _ _; first | exact ⟨_, _, by assumption⟩ | exact ⟨_, _, Row.alloc (by assumption) _⟩) | (with_reducible refine Row.other ?_ (by first | omega | (simp; omega)) _)))) (fun w' hP0 => ⟨hP0.cell 0 rfl, hP0.cell 1 rfl, hP0.cell 2 rfl, hP0.cell 3 rfl⟩)
   obtain ⟨w3, hw3⟩ : ∃ x, World.drew w2 = x := ⟨_, rfl⟩
   rw [hw3] at hS2 ⊢
   have hb3 : Below w2.heap.size w2 w3 := by rw [← hw3]; exact (Below.refl _ _).drew
   have R_d_3 := R_d_2.step hb3
   have c_d_0_3 := R_d_3.cell 0 rfl
   have c_d_1_3 := R_d_3.cell 1 rfl
   have c_d_2_3 := R_d_3.cell 2 rfl
   have c_d_3_3 := R_d_3.cell 3 rfl
   have l_d_3 := R_d_3.lt
   have HB3 := HB2.trans (hb3.mono HB2.size)
   have hs3 := hb3.size
   have hz3 := HB3.size
   clear R_d_2 c_d_0_2 c_d_1_2 c_d_2_2 c_d_3_2 hb2 HB2
   refine AnyJ.takeD (i := 0) (d := some 15) (v := ?_) rfl (by kernel_rfl) (by kernel_rfl) (by kernel_rfl) (by kernel_rfl) (by kernel_rfl) (fun _ _ _ h => h) (Or.inl ⟨by kernel_rfl, ?_⟩) hS2 ?_
   rotate_left
   ·
    intro w' hS
    clear hS
    go_simp
    try with_reducible rfl
   refine AnyJ.takeD (i := 1) (d := some 16) (v := ?_) rfl (by kernel_rfl) (by kernel_rfl) (by kernel_rfl) (by kernel_rfl) (by kernel_rfl) (fun _ _ _ h => h) (Or.inl ⟨by kernel_rfl, ?_⟩) hS2 ?_
   rotate_left
   ·
    intro w' hS
    clear hS
    go_simp
    try with_reducible rfl
   refine AnyJ.takeD (i := 2) (d := some 17) (v := ?_) rfl (by kernel_rfl) (by kernel_rfl) (by kernel_rfl) (by kernel_rfl) (by kernel_rfl) (fun _ _ _ h => h) (Or.inl ⟨by kernel_rfl, ?_⟩) hS2 ?_
   rotate_left
   ·
    intro w' hS
    clear hS
    go_simp
    try with_reducible rfl
   refine AnyJ.takeD (i := 5) (d := some 20) (v := ?_) rfl (by kernel_rfl) (by kernel_rfl) (by kernel_rfl) (by kernel_rfl) (by kernel_rfl) (fun _ _ _ h => h) (Or.inl ⟨by kernel_rfl, ?_⟩) hS2 ?_
   rotate_left
   ·
    intro w' hS
    obtain ⟨sF0, sF1, sF2, sF3⟩ := hS
    go_simp
    try with_reducible rfl
   refine AnyJ.two (i := 3) (j := 11) (by kernel_rfl) rfl rfl (fun Kz hKz => ?_) (fun Kz hKz => ?_)
   ·
    go_simp
    refine (flat_l 3 c 1 60 _).mono ?_
    rintro e w4 ⟨b, rfl, hi, hb4⟩
    have R_d_4 := R_d_3.step hb4
    have c_d_0_4 := R_d_4.cell 0 rfl
    have c_d_1_4 := R_d_4.cell 1 rfl
    have c_d_2_4 := R_d_4.cell 2 rfl
    have c_d_3_4 := R_d_4.cell 3 rfl
    have l_d_4 := R_d_4.lt
    have HB4 := HB3.trans (hb4.mono HB3.size)
    have hs4 := hb4.size
    have hz4 := HB4.size
    have hS4 := And.intro c_d_0_4 (And.intro c_d_1_4 (And.intro c_d_2_4 (c_d_3_4)))
    refine hKz _ _ (fun _ => hS4) ?_
    clear hKz Kz hS2
    clear R_d_3 c_d_0_3 c_d_1_3 c_d_2_3 c_d_3_3 hb3 hw3
    refine AnyJ.two (i := 4) (j := 11) (by kernel_rfl) rfl rfl (fun Kz hKz => ?_) (fun Kz hKz => ?_)
    ·
     go_simp
     generalize hw5 : World.alloc w4 _ = w5
     have hb5 : Below w4.heap.size w4 w5 := by rw [← hw5]; exact (Below.refl _ _).alloc (Nat.le_refl _) _
     have R_d_5 := R_d_4.step hb5
     have c_d_0_5 := R_d_5.cell 0 rfl
     have c_d_1_5 := R_d_5.cell 1 rfl
     have c_d_2_5 := R_d_5.cell 2 rfl
     have c_d_3_5 := R_d_5.cell 3 rfl
     have l_d_5 := R_d_5.lt
     have R_r_5 : Row w5 (w4.heap.size) [.int .i64 3, .int .i64 0, .int .i64 1, .int .i64 0, .int .i64 366, .int .i64 1, .int .i64 60, .int .i64 127, .int .i64 0, .int .i64 1, .int .i64 12, .int .i64 0, .slice (some ⟨b, 0, none⟩) 2 2, .int .i64 2, .int .i64 c, .slice none 0 0] := by rw [← hw5]; exact Row.new' _ _ _ rfl
     have l_r_5 := R_r_5.lt
     replace hi := hi.step hb5
     have HB5 := HB4.trans (hb5.mono HB4.size)
     have hs5 := hb5.size
     have hz5 := HB5.size
     have hS5 := And.intro c_d_0_5 (And.intro c_d_1_5 (And.intro c_d_2_5 (c_d_3_5)))
     refine hKz _ _ (fun _ => hS5) ?_
     clear hKz Kz hS4
     clear R_d_4 c_d_0_4 c_d_1_4 c_d_2_4 c_d_3_4 hb4
     have hs : SlR w5 (some ⟨(w4.heap.size), 0, none⟩) 1 [flR 3 c 1 60 b] := slr_row R_r_5 [flR 3 c 1 60 b] rfl (fun x hx => by rw [List.mem_singleton] at hx; subst hx; exact hi) 1 rfl
     clear hi
     refine AnyJ.two (i := 6) (j := 11) (by kernel_rfl) rfl rfl (fun Kz hKz => ?_) (fun Kz hKz => ?_)
     ·
      go_simp
      refine (find_f hc0 hc1 HE.out hs).mono ?_
      rintro e w6 ⟨rfl, hb6⟩
      have R_d_6 := R_d_5.step hb6
      have c_d_0_6 := R_d_6.cell 0 rfl
      have c_d_1_6 := R_d_6.cell 1 rfl
      have c_d_2_6 := R_d_6.cell 2 rfl
      have c_d_3_6 := R_d_6.cell 3 rfl
      have l_d_6 := R_d_6.lt
      have R_r_6 := R_r_5.step hb6
      have l_r_6 := R_r_6.lt
      have HB6 := HB5.trans (hb6.mono HB5.size)
      have hs6 := hb6.size
      have hz6 := HB6.size
      have hS6 := And.intro c_d_0_6 (And.intro c_d_1_6 (And.intro c_d_2_6 (c_d_3_6)))
      refine hKz _ _ (fun _ => hS6) ?_
      clear hKz Kz hS5
      clear R_d_5 c_d_0_5 c_d_1_5 c_d_2_5 c_d_3_5 R_r_5 hb5 hw5
      refine AnyJ.takeD (i := 7) (d := some 14) (v := ?_) rfl (by kernel_rfl) (by kernel_rfl) (by kernel_rfl) (by kernel_rfl) (by kernel_rfl) (fun _ _ _ h => h) (Or.inl ⟨by kernel_rfl, ?_⟩) hS6 ?_
      rotate_left
      ·
       intro w' hS
       clear hS
       go_simp
       try with_reducible rfl
      refine AnyJ.takeD (i := 8) (d := some 22) (v := ?_) rfl (by kernel_rfl) (by kernel_rfl) (by kernel_rfl) (by kernel_rfl) (by kernel_rfl) (fun _ _ _ h => h) (Or.inl ⟨by kernel_rfl, ?_⟩) hS6 ?_
      rotate_left
      ·
       intro w' hS
       clear hS
       go_simp
       try with_reducible rfl
      refine AnyJ.takeD (i := 9) (d := some 23) (v := ?_) rfl (by kernel_rfl) (by kernel_rfl) (by kernel_rfl) (by kernel_rfl) (by kernel_rfl) (fun _ _ _ h => h) (Or.inl ⟨by kernel_rfl, ?_⟩) hS6 ?_
      rotate_left
      ·
       intro w' hS
       clear hS
       go_simp
       try with_reducible rfl
      refine AnyJ.takeD (i := 10) (d := some 24) (v := ?_) rfl (by kernel_rfl) (by kernel_rfl) (by kernel_rfl) (by kernel_rfl) (by kernel_rfl) (fun _ _ _ h => h) (Or.inl ⟨by kernel_rfl, ?_⟩) hS6 ?_
      rotate_left
      ·
       intro w' hS
       clear hS
       go_simp
       try with_reducible rfl
      refine AnyJ.one (i := 11) (by kernel_rfl) rfl (fun Kz hKz => ?_)
      go_simp
      generalize hw7 : World.alloc w6 _ = w7
      have hb7 : Below w6.heap.size w6 w7 := by rw [← hw7]; exact (Below.refl _ _).alloc (Nat.le_refl _) _
      have R_d_7 := R_d_6.step hb7
      have c_d_0_7 := R_d_7.cell 0 rfl
      have c_d_1_7 := R_d_7.cell 1 rfl
      have c_d_2_7 := R_d_7.cell 2 rfl
      have c_d_3_7 := R_d_7.cell 3 rfl
      have l_d_7 := R_d_7.lt
      have R_r_7 := R_r_6.step hb7
      have l_r_7 := R_r_7.lt
      have R_g_7 : Row w7 (w6.heap.size) [.int .i64 0, .int .i64 0, .int .i64 0, .int .i64 0, .int .i64 0, .int .i64 0, .int .i64 0] := by rw [← hw7]; exact Row.new' _ _ _ rfl
      have c_g_0_7 := R_g_7.cell 0 rfl
      have c_g_1_7 := R_g_7.cell 1 rfl
      have c_g_2_7 := R_g_7.cell 2 rfl
      have c_g_3_7 := R_g_7.cell 3 rfl
      have c_g_4_7 := R_g_7.cell 4 rfl
      have c_g_5_7 := R_g_7.cell 5 rfl
      have c_g_6_7 := R_g_7.cell 6 rfl
      have z_g_0_7 := R_g_7.frozen 0
      have z_g_1_7 := R_g_7.frozen 1
      have z_g_2_7 := R_g_7.frozen 2
      have z_g_3_7 := R_g_7.frozen 3
      have z_g_4_7 := R_g_7.frozen 4
      have z_g_5_7 := R_g_7.frozen 5
      have z_g_6_7 := R_g_7.frozen 6
      have l_g_7 := R_g_7.lt
      have HB7 := HB6.trans (hb7.mono HB6.size)
      have hs7 := hb7.size
      have hz7 := HB7.size
      have hS7 := And.intro c_d_0_7 (And.intro c_d_1_7 (And.intro c_d_2_7 (c_d_3_7)))
      refine hKz _ _ (fun _ => hS7) ?_
      clear hKz Kz hS6
      clear R_d_6 c_d_0_6 c_d_1_6 c_d_2_6 c_d_3_6 R_r_6 hb6
      refine AnyJ.one (i := 12) (by kernel_rfl) rfl (fun Kz hKz => ?_)
      go_simp
      have hP8 := put_all R_g_7 [.int .i64 0, .int .i64 0, .int .i64 0, .int .i64 0, .int .i64 0, .int .i64 0, .int .i64 0] rfl
      simp only [Go.Proofs.Ytcmodmchnokmgaa.puts, Nat.reduceAdd, Nat.zero_add] at hP8
      obtain ⟨w8, hw8⟩ : ∃ x, (World.setCell (World.setCell (World.setCell (World.setCell (World.setCell (World.setCell (World.setCell w7 ⟨w6.heap.size, 0, none⟩ (.int .i64 0)) ⟨w6.heap.size, 1, none⟩ (.int .i64 0)) ⟨w6.heap.size, 2, none⟩ (.int .i64 0)) ⟨w6.heap.size, 3, none⟩ (.int .i64 0)) ⟨w6.heap.size, 4, none⟩ (.int .i64 0)) ⟨w6.heap.size, 5, none⟩ (.int .i64 0)) ⟨w6.heap.size, 6, none⟩ (.int .i64 0)) = x := ⟨_, rfl⟩
      rw [hw8] at hP8 ⊢
      obtain ⟨hR8, hC8⟩ := hP8
      have R_d_8 := R_d_7.ch hC8 (by omega)
      have c_d_0_8 := R_d_8.cell 0 rfl
      have c_d_1_8 := R_d_8.cell 1 rfl
      have c_d_2_8 := R_d_8.cell 2 rfl
      have c_d_3_8 := R_d_8.cell 3 rfl
      have l_d_8 := R_d_8.lt
      have R_r_8 := R_r_7.ch hC8 (by omega)
      have l_r_8 := R_r_8.lt
      have R_g_8 := hR8
      have c_g_0_8 := R_g_8.cell 0 rfl
      have c_g_1_8 := R_g_8.cell 1 rfl
      have c_g_2_8 := R_g_8.cell 2 rfl
      have c_g_3_8 := R_g_8.cell 3 rfl
      have c_g_4_8 := R_g_8.cell 4 rfl
      have c_g_5_8 := R_g_8.cell 5 rfl
      have c_g_6_8 := R_g_8.cell 6 rfl
      have z_g_0_8 := R_g_8.frozen 0
      have z_g_1_8 := R_g_8.frozen 1
      have z_g_2_8 := R_g_8.frozen 2
      have z_g_3_8 := R_g_8.frozen 3
      have z_g_4_8 := R_g_8.frozen 4
      have z_g_5_8 := R_g_8.frozen 5
      have z_g_6_8 := R_g_8.frozen 6
      have l_g_8 := R_g_8.lt
      have HB8 : Below w.heap.size w w8 := hC8.below HB7 (fun k hk => by omega) HB7.size
      have hs8 := hC8.size
      have hz8 := HB8.size
      have hS8 := And.intro c_d_0_8 (And.intro c_d_1_8 (And.intro c_d_2_8 (c_d_3_8)))
      refine hKz _ _ (fun _ => hS8) ?_
      clear hKz Kz hS7
      clear R_d_7 c_d_0_7 c_d_1_7 c_d_2_7 c_d_3_7 R_r_7 R_g_7 c_g_0_7 c_g_1_7 c_g_2_7 c_g_3_7 c_g_4_7 c_g_5_7 c_g_6_7 z_g_0_7 z_g_1_7 z_g_2_7 z_g_3_7 z_g_4_7 z_g_5_7 z_g_6_7 hb7 hw7
      refine AnyJ.takeD (i := 13) (d := some 7) (v := ?_) rfl (by kernel_rfl) (by kernel_rfl) (by kernel_rfl) (by kernel_rfl) (by kernel_rfl) (fun _ _ _ h => h) (Or.inl ⟨by kernel_rfl, ?_⟩) hS8 ?_
      rotate_left
      ·
       intro w' hS
       clear hS
       go_simp
       try with_reducible rfl
      refine AnyJ.takeD (i := 14) (d := some 8) (v := ?_) rfl (by kernel_rfl) (by kernel_rfl) (by kernel_rfl) (by kernel_rfl) (by kernel_rfl) (fun _ _ _ h => h) (Or.inl ⟨by kernel_rfl, ?_⟩) hS8 ?_
      rotate_left
      ·
       intro w' hS
       clear hS
       go_simp
       try with_reducible rfl
      refine AnyJ.done (by kernel_rfl) ?_ _
      clear hS8
      try simp only [Act.put, List.setIfInBounds_toArray, List.set_cons_zero, List.set_cons_succ]
      go_wp2_with fail
      go_meet
      exact ⟨(w6.heap.size), rfl, rfl, rfl, R_g_8, R_d_8, HB8⟩
     ·
      go_simp
      generalize hw6 : World.alloc w5 _ = w6
      have hb6 : Below w5.heap.size w5 w6 := by rw [← hw6]; exact (Below.refl _ _).alloc (Nat.le_refl _) _
      have R_d_6 := R_d_5.step hb6
      have c_d_0_6 := R_d_6.cell 0 rfl
      have c_d_1_6 := R_d_6.cell 1 rfl
      have c_d_2_6 := R_d_6.cell 2 rfl
      have c_d_3_6 := R_d_6.cell 3 rfl
      have l_d_6 := R_d_6.lt
      have R_r_6 := R_r_5.step hb6
      have l_r_6 := R_r_6.lt
      have R_g_6 : Row w6 (w5.heap.size) [.int .i64 0, .int .i64 0, .int .i64 0, .int .i64 0, .int .i64 0, .int .i64 0, .int .i64 0] := by rw [← hw6]; exact Row.new' _ _ _ rfl
      have c_g_0_6 := R_g_6.cell 0 rfl
      have c_g_1_6 := R_g_6.cell 1 rfl
      have c_g_2_6 := R_g_6.cell 2 rfl
      have c_g_3_6 := R_g_6.cell 3 rfl
      have c_g_4_6 := R_g_6.cell 4 rfl
      have c_g_5_6 := R_g_6.cell 5 rfl
      have c_g_6_6 := R_g_6.cell 6 rfl
      have z_g_0_6 := R_g_6.frozen 0
      have z_g_1_6 := R_g_6.frozen 1
      have z_g_2_6 := R_g_6.frozen 2
      have z_g_3_6 := R_g_6.frozen 3
      have z_g_4_6 := R_g_6.frozen 4
      have z_g_5_6 := R_g_6.frozen 5
      have z_g_6_6 := R_g_6.frozen 6
      have l_g_6 := R_g_6.lt
      have HB6 := HB5.trans (hb6.mono HB5.size)
      have hs6 := hb6.size
      have hz6 := HB6.size
      have hS6 := And.intro c_d_0_6 (And.intro c_d_1_6 (And.intro c_d_2_6 (c_d_3_6)))
      refine hKz _ _ (fun _ => hS6) ?_
      clear hKz Kz hS5
      clear R_d_5 c_d_0_5 c_d_1_5 c_d_2_5 c_d_3_5 R_r_5 hb5 hw5
      replace hs := hs.step hb6
      refine AnyJ.one (i := 6) (by kernel_rfl) rfl (fun Kz hKz => ?_)
      go_simp
      refine (find_f hc0 hc1 HE.out hs).mono ?_
      rintro e w7 ⟨rfl, hb7⟩
      have R_d_7 := R_d_6.step hb7
      have c_d_0_7 := R_d_7.cell 0 rfl
      have c_d_1_7 := R_d_7.cell 1 rfl
      have c_d_2_7 := R_d_7.cell 2 rfl
      have c_d_3_7 := R_d_7.cell 3 rfl
      have l_d_7 := R_d_7.lt
      have R_r_7 := R_r_6.step hb7
      have l_r_7 := R_r_7.lt
      have R_g_7 := R_g_6.step hb7
      have c_g_0_7 := R_g_7.cell 0 rfl
      have c_g_1_7 := R_g_7.cell 1 rfl
      have c_g_2_7 := R_g_7.cell 2 rfl
      have c_g_3_7 := R_g_7.cell 3 rfl
      have c_g_4_7 := R_g_7.cell 4 rfl
      have c_g_5_7 := R_g_7.cell 5 rfl
      have c_g_6_7 := R_g_7.cell 6 rfl
      have z_g_0_7 := R_g_7.frozen 0
      have z_g_1_7 := R_g_7.frozen 1
      have z_g_2_7 := R_g_7.frozen 2
      have z_g_3_7 := R_g_7.frozen 3
      have z_g_4_7 := R_g_7.frozen 4
      have z_g_5_7 := R_g_7.frozen 5
      have z_g_6_7 := R_g_7.frozen 6
      have l_g_7 := R_g_7.lt
      have HB7 := HB6.trans (hb7.mono HB6.size)
      have hz7 := HB7.size
      have hS7 := And.intro c_d_0_7 (And.intro c_d_1_7 (And.intro c_d_2_7 (c_d_3_7)))
      refine hKz _ _ (fun _ => hS7) ?_
      clear hKz Kz hS6
      clear R_d_6 c_d_0_6 c_d_1_6 c_d_2_6 c_d_3_6 R_r_6 R_g_6 c_g_0_6 c_g_1_6 c_g_2_6 c_g_3_6 c_g_4_6 c_g_5_6 c_g_6_6 z_g_0_6 z_g_1_6 z_g_2_6 z_g_3_6 z_g_4_6 z_g_5_6 z_g_6_6 hb6 hw6
      refine AnyJ.takeD (i := 7) (d := some 14) (v := ?_) rfl (by kernel_rfl) (by kernel_rfl) (by kernel_rfl) (by kernel_rfl) (by kernel_rfl) (fun _ _ _ h => h) (Or.inl ⟨by kernel_rfl, ?_⟩) hS7 ?_
      rotate_left
      ·
       intro w' hS
       clear hS
       go_simp
       try with_reducible rfl
      refine AnyJ.takeD (i := 8) (d := some 22) (v := ?_) rfl (by kernel_rfl) (by kernel_rfl) (by kernel_rfl) (by kernel_rfl) (by kernel_rfl) (fun _ _ _ h => h) (Or.inl ⟨by kernel_rfl, ?_⟩) hS7 ?_
      rotate_left
      ·
       intro w' hS
       clear hS
       go_simp
       try with_reducible rfl
      refine AnyJ.takeD (i := 9) (d := some 23) (v := ?_) rfl (by kernel_rfl) (by kernel_rfl) (by kernel_rfl) (by kernel_rfl) (by kernel_rfl) (fun _ _ _ h => h) (Or.inl ⟨by kernel_rfl, ?_⟩) hS7 ?_
      rotate_left
      ·
       intro w' hS
       clear hS
       go_simp
       try with_reducible rfl
      refine AnyJ.takeD (i := 10) (d := some 24) (v := ?_) rfl (by kernel_rfl) (by kernel_rfl) (by kernel_rfl) (by kernel_rfl) (by kernel_rfl) (fun _ _ _ h => h) (Or.inl ⟨by kernel_rfl, ?_⟩) hS7 ?_
      rotate_left
      ·
       intro w' hS
       clear hS
       go_simp
       try with_reducible rfl
      refine AnyJ.one (i := 12) (by kernel_rfl) rfl (fun Kz hKz => ?_)
      go_simp
      have hP8 := put_all R_g_7 [.int .i64 0, .int .i64 0, .int .i64 0, .int .i64 0, .int .i64 0, .int .i64 0, .int .i64 0] rfl
      simp only [Go.Proofs.Ytcmodmchnokmgaa.puts, Nat.reduceAdd, Nat.zero_add] at hP8
      obtain ⟨w8, hw8⟩ : ∃ x, (World.setCell (World.setCell (World.setCell (World.setCell (World.setCell (World.setCell (World.setCell w7 ⟨w5.heap.size, 0, none⟩ (.int .i64 0)) ⟨w5.heap.size, 1, none⟩ (.int .i64 0)) ⟨w5.heap.size, 2, none⟩ (.int .i64 0)) ⟨w5.heap.size, 3, none⟩ (.int .i64 0)) ⟨w5.heap.size, 4, none⟩ (.int .i64 0)) ⟨w5.heap.size, 5, none⟩ (.int .i64 0)) ⟨w5.heap.size, 6, none⟩ (.int .i64 0)) = x := ⟨_, rfl⟩
      rw [hw8] at hP8 ⊢
      obtain ⟨hR8, hC8⟩ := hP8
      have R_d_8 := R_d_7.ch hC8 (by omega)
      have c_d_0_8 := R_d_8.cell 0 rfl
      have c_d_1_8 := R_d_8.cell 1 rfl
      have c_d_2_8 := R_d_8.cell 2 rfl
      have c_d_3_8 := R_d_8.cell 3 rfl
      have l_d_8 := R_d_8.lt
      have R_r_8 := R_r_7.ch hC8 (by omega)
      have l_r_8 := R_r_8.lt
      have R_g_8 := hR8
      have c_g_0_8 := R_g_8.cell 0 rfl
      have c_g_1_8 := R_g_8.cell 1 rfl
      have c_g_2_8 := R_g_8.cell 2 rfl
      have c_g_3_8 := R_g_8.cell 3 rfl
      have c_g_4_8 := R_g_8.cell 4 rfl
      have c_g_5_8 := R_g_8.cell 5 rfl
      have c_g_6_8 := R_g_8.cell 6 rfl
      have z_g_0_8 := R_g_8.frozen 0
      have z_g_1_8 := R_g_8.frozen 1
      have z_g_2_8 := R_g_8.frozen 2
      have z_g_3_8 := R_g_8.frozen 3
      have z_g_4_8 := R_g_8.frozen 4
      have z_g_5_8 := R_g_8.frozen 5
      have z_g_6_8 := R_g_8.frozen 6
      have l_g_8 := R_g_8.lt
      have HB8 : Below w.heap.size w w8 := hC8.below HB7 (fun k hk => by omega) HB7.size
      have hs8 := hC8.size
      have hz8 := HB8.size
      have hS8 := And.intro c_d_0_8 (And.intro c_d_1_8 (And.intro c_d_2_8 (c_d_3_8)))
      refine hKz _ _ (fun _ => hS8) ?_
      clear hKz Kz hS7
      clear R_d_7 c_d_0_7 c_d_1_7 c_d_2_7 c_d_3_7 R_r_7 R_g_7 c_g_0_7 c_g_1_7 c_g_2_7 c_g_3_7 c_g_4_7 c_g_5_7 c_g_6_7 z_g_0_7 z_g_1_7 z_g_2_7 z_g_3_7 z_g_4_7 z_g_5_7 z_g_6_7 hb7
      refine AnyJ.takeD (i := 13) (d := some 7) (v := ?_) rfl (by kernel_rfl) (by kernel_rfl) (by kernel_rfl) (by kernel_rfl) (by kernel_rfl) (fun _ _ _ h => h) (Or.inl ⟨by kernel_rfl, ?_⟩) hS8 ?_
      rotate_left
      ·
       intro w' hS
       clear hS
       go_simp
       try with_reducible rfl
      refine AnyJ.takeD (i := 14) (d := some 8) (v := ?_) rfl (by kernel_rfl) (by kernel_rfl) (by kernel_rfl) (by kernel_rfl) (by kernel_rfl) (fun _ _ _ h => h) (Or.inl ⟨by kernel_rfl, ?_⟩) hS8 ?_
      rotate_left
      ·
       intro w' hS
       clear hS
       go_simp
       try with_reducible rfl
      refine AnyJ.done (by kernel_rfl) ?_ _
      clear hS8
      try simp only [Act.put, List.setIfInBounds_toArray, List.set_cons_zero, List.set_cons_succ]
      go_wp2_with fail
      go_meet
      exact ⟨(w5.heap.size), rfl, rfl, rfl, R_g_8, R_d_8, HB8⟩
    ·
     go_simp
     generalize hw5 : World.alloc w4 _ = w5
     have hb5 : Below w4.heap.size w4 w5 := by rw [← hw5]; exact (Below.refl _ _).alloc (Nat.le_refl _) _
     have R_d_5 := R_d_4.step hb5
     have c_d_0_5 := R_d_5.cell 0 rfl
     have c_d_1_5 := R_d_5.cell 1 rfl
     have c_d_2_5 := R_d_5.cell 2 rfl
     have c_d_3_5 := R_d_5.cell 3 rfl
     have l_d_5 := R_d_5.lt
     have R_g_5 : Row w5 (w4.heap.size) [.int .i64 0, .int .i64 0, .int .i64 0, .int .i64 0, .int .i64 0, .int .i64 0, .int .i64 0] := by rw [← hw5]; exact Row.new' _ _ _ rfl
     have c_g_0_5 := R_g_5.cell 0 rfl
     have c_g_1_5 := R_g_5.cell 1 rfl
     have c_g_2_5 := R_g_5.cell 2 rfl
     have c_g_3_5 := R_g_5.cell 3 rfl
     have c_g_4_5 := R_g_5.cell 4 rfl
     have c_g_5_5 := R_g_5.cell 5 rfl
     have c_g_6_5 := R_g_5.cell 6 rfl
     have z_g_0_5 := R_g_5.frozen 0
     have z_g_1_5 := R_g_5.frozen 1
     have z_g_2_5 := R_g_5.frozen 2
     have z_g_3_5 := R_g_5.frozen 3
     have z_g_4_5 := R_g_5.frozen 4
     have z_g_5_5 := R_g_5.frozen 5
     have z_g_6_5 := R_g_5.frozen 6
     have l_g_5 := R_g_5.lt
     replace hi := hi.step hb5
     have HB5 := HB4.trans (hb5.mono HB4.size)
     have hs5 := hb5.size
     have hz5 := HB5.size
     have hS5 := And.intro c_d_0_5 (And.intro c_d_1_5 (And.intro c_d_2_5 (c_d_3_5)))
     refine hKz _ _ (fun _ => hS5) ?_
     clear hKz Kz hS4
     clear R_d_4 c_d_0_4 c_d_1_4 c_d_2_4 c_d_3_4 hb4
     refine AnyJ.one (i := 4) (by kernel_rfl) rfl (fun Kz hKz => ?_)
     go_simp
     generalize hw6 : World.alloc w5 _ = w6
     have hb6 : Below w5.heap.size w5 w6 := by rw [← hw6]; exact (Below.refl _ _).alloc (Nat.le_refl _) _
     have R_d_6 := R_d_5.step hb6
     have c_d_0_6 := R_d_6.cell 0 rfl
     have c_d_1_6 := R_d_6.cell 1 rfl
     have c_d_2_6 := R_d_6.cell 2 rfl
     have c_d_3_6 := R_d_6.cell 3 rfl
     have l_d_6 := R_d_6.lt
     have R_g_6 := R_g_5.step hb6
     have c_g_0_6 := R_g_6.cell 0 rfl
     have c_g_1_6 := R_g_6.cell 1 rfl
     have c_g_2_6 := R_g_6.cell 2 rfl
     have c_g_3_6 := R_g_6.cell 3 rfl
     have c_g_4_6 := R_g_6.cell 4 rfl
     have c_g_5_6 := R_g_6.cell 5 rfl
     have c_g_6_6 := R_g_6.cell 6 rfl
     have z_g_0_6 := R_g_6.frozen 0
     have z_g_1_6 := R_g_6.frozen 1
     have z_g_2_6 := R_g_6.frozen 2
     have z_g_3_6 := R_g_6.frozen 3
     have z_g_4_6 := R_g_6.frozen 4
     have z_g_5_6 := R_g_6.frozen 5
     have z_g_6_6 := R_g_6.frozen 6
     have l_g_6 := R_g_6.lt
     have R_r_6 : Row w6 (w5.heap.size) [.int .i64 3, .int .i64 0, .int .i64 1, .int .i64 0, .int .i64 366, .int .i64 1, .int .i64 60, .int .i64 127, .int .i64 0, .int .i64 1, .int .i64 12, .int .i64 0, .slice (some ⟨b, 0, none⟩) 2 2, .int .i64 2, .int .i64 c, .slice none 0 0] := by rw [← hw6]; exact Row.new' _ _ _ rfl
     have l_r_6 := R_r_6.lt
     replace hi := hi.step hb6
     have HB6 := HB5.trans (hb6.mono HB5.size)
     have hs6 := hb6.size
     have hz6 := HB6.size
     have hS6 := And.intro c_d_0_6 (And.intro c_d_1_6 (And.intro c_d_2_6 (c_d_3_6)))
     refine hKz _ _ (fun _ => hS6) ?_
     clear hKz Kz hS5
     clear R_d_5 c_d_0_5 c_d_1_5 c_d_2_5 c_d_3_5 R_g_5 c_g_0_5 c_g_1_5 c_g_2_5 c_g_3_5 c_g_4_5 c_g_5_5 c_g_6_5 z_g_0_5 z_g_1_5 z_g_2_5 z_g_3_5 z_g_4_5 z_g_5_5 z_g_6_5 hb5 hw5
     have hs : SlR w6 (some ⟨(w5.heap.size), 0, none⟩) 1 [flR 3 c 1 60 b] := slr_row R_r_6 [flR 3 c 1 60 b] rfl (fun x hx => by rw [List.mem_singleton] at hx; subst hx; exact hi) 1 rfl
     refine AnyJ.one (i := 6) (by kernel_rfl) rfl (fun Kz hKz => ?_)
     go_simp
     refine (find_f hc0 hc1 HE.out hs).mono ?_
     rintro e w7 ⟨rfl, hb7⟩
     have R_d_7 := R_d_6.step hb7
     have c_d_0_7 := R_d_7.cell 0 rfl
     have c_d_1_7 := R_d_7.cell 1 rfl
     have c_d_2_7 := R_d_7.cell 2 rfl
     have c_d_3_7 := R_d_7.cell 3 rfl
     have l_d_7 := R_d_7.lt
     have R_g_7 := R_g_6.step hb7
     have c_g_0_7 := R_g_7.cell 0 rfl
     have c_g_1_7 := R_g_7.cell 1 rfl
     have c_g_2_7 := R_g_7.cell 2 rfl
     have c_g_3_7 := R_g_7.cell 3 rfl
     have c_g_4_7 := R_g_7.cell 4 rfl
     have c_g_5_7 := R_g_7.cell 5 rfl
     have c_g_6_7 := R_g_7.cell 6 rfl
     have z_g_0_7 := R_g_7.frozen 0
     have z_g_1_7 := R_g_7.frozen 1
     have z_g_2_7 := R_g_7.frozen 2
     have z_g_3_7 := R_g_7.frozen 3
     have z_g_4_7 := R_g_7.frozen 4
     have z_g_5_7 := R_g_7.frozen 5
     have z_g_6_7 := R_g_7.frozen 6
     have l_g_7 := R_g_7.lt
     have R_r_7 := R_r_6.step hb7
     have l_r_7 := R_r_7.lt
     have HB7 := HB6.trans (hb7.mono HB6.size)
     have hz7 := HB7.size
     have hS7 := And.intro c_d_0_7 (And.intro c_d_1_7 (And.intro c_d_2_7 (c_d_3_7)))
     refine hKz _ _ (fun _ => hS7) ?_
     clear hKz Kz hS6
     clear R_d_6 c_d_0_6 c_d_1_6 c_d_2_6 c_d_3_6 R_g_6 c_g_0_6 c_g_1_6 c_g_2_6 c_g_3_6 c_g_4_6 c_g_5_6 c_g_6_6 z_g_0_6 z_g_1_6 z_g_2_6 z_g_3_6 z_g_4_6 z_g_5_6 z_g_6_6 R_r_6 hb6 hw6
     refine AnyJ.takeD (i := 7) (d := some 14) (v := ?_) rfl (by kernel_rfl) (by kernel_rfl) (by kernel_rfl) (by kernel_rfl) (by kernel_rfl) (fun _ _ _ h => h) (Or.inl ⟨by kernel_rfl, ?_⟩) hS7 ?_
     rotate_left
     ·
      intro w' hS
      clear hS
      go_simp
      try with_reducible rfl
     refine AnyJ.takeD (i := 8) (d := some 22) (v := ?_) rfl (by kernel_rfl) (by kernel_rfl) (by kernel_rfl) (by kernel_rfl) (by kernel_rfl) (fun _ _ _ h => h) (Or.inl ⟨by kernel_rfl, ?_⟩) hS7 ?_
     rotate_left
     ·
      intro w' hS
      clear hS
      go_simp
      try with_reducible rfl
     refine AnyJ.takeD (i := 9) (d := some 23) (v := ?_) rfl (by kernel_rfl) (by kernel_rfl) (by kernel_rfl) (by kernel_rfl) (by kernel_rfl) (fun _ _ _ h => h) (Or.inl ⟨by kernel_rfl, ?_⟩) hS7 ?_
     rotate_left
     ·
      intro w' hS
      clear hS
      go_simp
      try with_reducible rfl
     refine AnyJ.takeD (i := 10) (d := some 24) (v := ?_) rfl (by kernel_rfl) (by kernel_rfl) (by kernel_rfl) (by kernel_rfl) (by kernel_rfl) (fun _ _ _ h => h) (Or.inl ⟨by kernel_rfl, ?_⟩) hS7 ?_
     rotate_left
     ·
      intro w' hS
      clear hS
      go_simp
      try with_reducible rfl
     refine AnyJ.one (i := 12) (by kernel_rfl) rfl (fun Kz hKz => ?_)
     go_simp
     have hP8 := put_all R_g_7 [.int .i64 0, .int .i64 0, .int .i64 0, .int .i64 0, .int .i64 0, .int .i64 0, .int .i64 0] rfl
     simp only [Go.Proofs.Ytcmodmchnokmgaa.puts, Nat.reduceAdd, Nat.zero_add] at hP8
     obtain ⟨w8, hw8⟩ : ∃ x, (World.setCell (World.setCell (World.setCell (World.setCell (World.setCell (World.setCell (World.setCell w7 ⟨w4.heap.size, 0, none⟩ (.int .i64 0)) ⟨w4.heap.size, 1, none⟩ (.int .i64 0)) ⟨w4.heap.size, 2, none⟩ (.int .i64 0)) ⟨w4.heap.size, 3, none⟩ (.int .i64 0)) ⟨w4.heap.size, 4, none⟩ (.int .i64 0)) ⟨w4.heap.size, 5, none⟩ (.int .i64 0)) ⟨w4.heap.size, 6, none⟩ (.int .i64 0)) = x := ⟨_, rfl⟩
     rw [hw8] at hP8 ⊢
     obtain ⟨hR8, hC8⟩ := hP8
     have R_d_8 := R_d_7.ch hC8 (by omega)
     have c_d_0_8 := R_d_8.cell 0 rfl
     have c_d_1_8 := R_d_8.cell 1 rfl
     have c_d_2_8 := R_d_8.cell 2 rfl
     have c_d_3_8 := R_d_8.cell 3 rfl
     have l_d_8 := R_d_8.lt
     have R_g_8 := hR8
     have c_g_0_8 := R_g_8.cell 0 rfl
     have c_g_1_8 := R_g_8.cell 1 rfl
     have c_g_2_8 := R_g_8.cell 2 rfl
     have c_g_3_8 := R_g_8.cell 3 rfl
     have c_g_4_8 := R_g_8.cell 4 rfl
     have c_g_5_8 := R_g_8.cell 5 rfl
     have c_g_6_8 := R_g_8.cell 6 rfl
     have z_g_0_8 := R_g_8.frozen 0
     have z_g_1_8 := R_g_8.frozen 1
     have z_g_2_8 := R_g_8.frozen 2
     have z_g_3_8 := R_g_8.frozen 3
     have z_g_4_8 := R_g_8.frozen 4
     have z_g_5_8 := R_g_8.frozen 5
     have z_g_6_8 := R_g_8.frozen 6
     have l_g_8 := R_g_8.lt
     have R_r_8 := R_r_7.ch hC8 (by omega)
     have l_r_8 := R_r_8.lt
     have HB8 : Below w.heap.size w w8 := hC8.below HB7 (fun k hk => by omega) HB7.size
     have hs8 := hC8.size
     have hz8 := HB8.size
     have hS8 := And.intro c_d_0_8 (And.intro c_d_1_8 (And.intro c_d_2_8 (c_d_3_8)))
     refine hKz _ _ (fun _ => hS8) ?_
     clear hKz Kz hS7
     clear R_d_7 c_d_0_7 c_d_1_7 c_d_2_7 c_d_3_7 R_g_7 c_g_0_7 c_g_1_7 c_g_2_7 c_g_3_7 c_g_4_7 c_g_5_7 c_g_6_7 z_g_0_7 z_g_1_7 z_g_2_7 z_g_3_7 z_g_4_7 z_g_5_7 z_g_6_7 R_r_7 hb7
     refine AnyJ.takeD (i := 13) (d := some 7) (v := ?_) rfl (by kernel_rfl) (by kernel_rfl) (by kernel_rfl) (by kernel_rfl) (by kernel_rfl) (fun _ _ _ h => h) (Or.inl ⟨by kernel_rfl, ?_⟩) hS8 ?_
     rotate_left
     ·
      intro w' hS
      clear hS
      go_simp
      try with_reducible rfl
     refine AnyJ.takeD (i := 14) (d := some 8) (v := ?_) rfl (by kernel_rfl) (by kernel_rfl) (by kernel_rfl) (by kernel_rfl) (by kernel_rfl) (fun _ _ _ h => h) (Or.inl ⟨by kernel_rfl, ?_⟩) hS8 ?_
     rotate_left
     ·
      intro w' hS
      clear hS
      go_simp
      try with_reducible rfl
     refine AnyJ.done (by kernel_rfl) ?_ _
     clear hS8
     try simp only [Act.put, List.setIfInBounds_toArray, List.set_cons_zero, List.set_cons_succ]
     go_wp2_with fail
     go_meet
     exact ⟨(w4.heap.size), rfl, rfl, rfl, R_g_8, R_d_8, HB8⟩
   ·
    go_simp
    generalize hw4 : World.alloc w3 _ = w4
    have hb4 : Below w3.heap.size w3 w4 := by rw [← hw4]; exact (Below.refl _ _).alloc (Nat.le_refl _) _
    have R_d_4 := R_d_3.step hb4
    have c_d_0_4 := R_d_4.cell 0 rfl
    have c_d_1_4 := R_d_4.cell 1 rfl
    have c_d_2_4 := R_d_4.cell 2 rfl
    have c_d_3_4 := R_d_4.cell 3 rfl
    have l_d_4 := R_d_4.lt
    have R_g_4 : Row w4 (w3.heap.size) [.int .i64 0, .int .i64 0, .int .i64 0, .int .i64 0, .int .i64 0, .int .i64 0, .int .i64 0] := by rw [← hw4]; exact Row.new' _ _ _ rfl
    have c_g_0_4 := R_g_4.cell 0 rfl
    have c_g_1_4 := R_g_4.cell 1 rfl
    have c_g_2_4 := R_g_4.cell 2 rfl
    have c_g_3_4 := R_g_4.cell 3 rfl
    have c_g_4_4 := R_g_4.cell 4 rfl
    have c_g_5_4 := R_g_4.cell 5 rfl
    have c_g_6_4 := R_g_4.cell 6 rfl
    have z_g_0_4 := R_g_4.frozen 0
    have z_g_1_4 := R_g_4.frozen 1
    have z_g_2_4 := R_g_4.frozen 2
    have z_g_3_4 := R_g_4.frozen 3
    have z_g_4_4 := R_g_4.frozen 4
    have z_g_5_4 := R_g_4.frozen 5
    have z_g_6_4 := R_g_4.frozen 6
    have l_g_4 := R_g_4.lt
    have HB4 := HB3.trans (hb4.mono HB3.size)
    have hs4 := hb4.size
    have hz4 := HB4.size
    have hS4 := And.intro c_d_0_4 (And.intro c_d_1_4 (And.intro c_d_2_4 (c_d_3_4)))
    refine hKz _ _ (fun _ => hS4) ?_
    clear hKz Kz hS2
    clear R_d_3 c_d_0_3 c_d_1_3 c_d_2_3 c_d_3_3 hb3 hw3
    refine AnyJ.one (i := 3) (by kernel_rfl) rfl (fun Kz hKz => ?_)
    go_simp
    refine (flat_l 3 c 1 60 _).mono ?_
    rintro e w5 ⟨b, rfl, hi, hb5⟩
    have R_d_5 := R_d_4.step hb5
    have c_d_0_5 := R_d_5.cell 0 rfl
    have c_d_1_5 := R_d_5.cell 1 rfl
    have c_d_2_5 := R_d_5.cell 2 rfl
    have c_d_3_5 := R_d_5.cell 3 rfl
    have l_d_5 := R_d_5.lt
    have R_g_5 := R_g_4.step hb5
    have c_g_0_5 := R_g_5.cell 0 rfl
    have c_g_1_5 := R_g_5.cell 1 rfl
    have c_g_2_5 := R_g_5.cell 2 rfl
    have c_g_3_5 := R_g_5.cell 3 rfl
    have c_g_4_5 := R_g_5.cell 4 rfl
    have c_g_5_5 := R_g_5.cell 5 rfl
    have c_g_6_5 := R_g_5.cell 6 rfl
    have z_g_0_5 := R_g_5.frozen 0
    have z_g_1_5 := R_g_5.frozen 1
    have z_g_2_5 := R_g_5.frozen 2
    have z_g_3_5 := R_g_5.frozen 3
    have z_g_4_5 := R_g_5.frozen 4
    have z_g_5_5 := R_g_5.frozen 5
    have z_g_6_5 := R_g_5.frozen 6
    have l_g_5 := R_g_5.lt
    have HB5 := HB4.trans (hb5.mono HB4.size)
    have hz5 := HB5.size
    have hS5 := And.intro c_d_0_5 (And.intro c_d_1_5 (And.intro c_d_2_5 (c_d_3_5)))
    refine hKz _ _ (fun _ => hS5) ?_
    clear hKz Kz hS4
    clear R_d_4 c_d_0_4 c_d_1_4 c_d_2_4 c_d_3_4 R_g_4 c_g_0_4 c_g_1_4 c_g_2_4 c_g_3_4 c_g_4_4 c_g_5_4 c_g_6_4 z_g_0_4 z_g_1_4 z_g_2_4 z_g_3_4 z_g_4_4 z_g_5_4 z_g_6_4 hb4 hw4
    refine AnyJ.one (i := 4) (by kernel_rfl) rfl (fun Kz hKz => ?_)
    go_simp
    generalize hw6 : World.alloc w5 _ = w6
    have hb6 : Below w5.heap.size w5 w6 := by rw [← hw6]; exact (Below.refl _ _).alloc (Nat.le_refl _) _
    have R_d_6 := R_d_5.step hb6
    have c_d_0_6 := R_d_6.cell 0 rfl
    have c_d_1_6 := R_d_6.cell 1 rfl
    have c_d_2_6 := R_d_6.cell 2 rfl
    have c_d_3_6 := R_d_6.cell 3 rfl
    have l_d_6 := R_d_6.lt
    have R_g_6 := R_g_5.step hb6
    have c_g_0_6 := R_g_6.cell 0 rfl
    have c_g_1_6 := R_g_6.cell 1 rfl
    have c_g_2_6 := R_g_6.cell 2 rfl
    have c_g_3_6 := R_g_6.cell 3 rfl
    have c_g_4_6 := R_g_6.cell 4 rfl
    have c_g_5_6 := R_g_6.cell 5 rfl
    have c_g_6_6 := R_g_6.cell 6 rfl
    have z_g_0_6 := R_g_6.frozen 0
    have z_g_1_6 := R_g_6.frozen 1
    have z_g_2_6 := R_g_6.frozen 2
    have z_g_3_6 := R_g_6.frozen 3
    have z_g_4_6 := R_g_6.frozen 4
    have z_g_5_6 := R_g_6.frozen 5
    have z_g_6_6 := R_g_6.frozen 6
    have l_g_6 := R_g_6.lt
    have R_r_6 : Row w6 (w5.heap.size) [.int .i64 3, .int .i64 0, .int .i64 1, .int .i64 0, .int .i64 366, .int .i64 1, .int .i64 60, .int .i64 127, .int .i64 0, .int .i64 1, .int .i64 12, .int .i64 0, .slice (some ⟨b, 0, none⟩) 2 2, .int .i64 2, .int .i64 c, .slice none 0 0] := by rw [← hw6]; exact Row.new' _ _ _ rfl
    have l_r_6 := R_r_6.lt
    replace hi := hi.step hb6
    have HB6 := HB5.trans (hb6.mono HB5.size)
    have hs6 := hb6.size
    have hz6 := HB6.size
    have hS6 := And.intro c_d_0_6 (And.intro c_d_1_6 (And.intro c_d_2_6 (c_d_3_6)))
    refine hKz _ _ (fun _ => hS6) ?_
    clear hKz Kz hS5
    clear R_d_5 c_d_0_5 c_d_1_5 c_d_2_5 c_d_3_5 R_g_5 c_g_0_5 c_g_1_5 c_g_2_5 c_g_3_5 c_g_4_5 c_g_5_5 c_g_6_5 z_g_0_5 z_g_1_5 z_g_2_5 z_g_3_5 z_g_4_5 z_g_5_5 z_g_6_5 hb5
    have hs : SlR w6 (some ⟨(w5.heap.size), 0, none⟩) 1 [flR 3 c 1 60 b] := slr_row R_r_6 [flR 3 c 1 60 b] rfl (fun x hx => by rw [List.mem_singleton] at hx; subst hx; exact hi) 1 rfl
    refine AnyJ.one (i := 6) (by kernel_rfl) rfl (fun Kz hKz => ?_)
    go_simp
    refine (find_f hc0 hc1 HE.out hs).mono ?_
    rintro e w7 ⟨rfl, hb7⟩
    have R_d_7 := R_d_6.step hb7
    have c_d_0_7 := R_d_7.cell 0 rfl
    have c_d_1_7 := R_d_7.cell 1 rfl
    have c_d_2_7 := R_d_7.cell 2 rfl
    have c_d_3_7 := R_d_7.cell 3 rfl
    have l_d_7 := R_d_7.lt
    have R_g_7 := R_g_6.step hb7
    have c_g_0_7 := R_g_7.cell 0 rfl
    have c_g_1_7 := R_g_7.cell 1 rfl
    have c_g_2_7 := R_g_7.cell 2 rfl
    have c_g_3_7 := R_g_7.cell 3 rfl
    have c_g_4_7 := R_g_7.cell 4 rfl
    have c_g_5_7 := R_g_7.cell 5 rfl
    have c_g_6_7 := R_g_7.cell 6 rfl
    have z_g_0_7 := R_g_7.frozen 0
    have z_g_1_7 := R_g_7.frozen 1
    have z_g_2_7 := R_g_7.frozen 2
    have z_g_3_7 := R_g_7.frozen 3
    have z_g_4_7 := R_g_7.frozen 4
    have z_g_5_7 := R_g_7.frozen 5
    have z_g_6_7 := R_g_7.frozen 6
    have l_g_7 := R_g_7.lt
    have R_r_7 := R_r_6.step hb7
    have l_r_7 := R_r_7.lt
    have HB7 := HB6.trans (hb7.mono HB6.size)
    have hz7 := HB7.size
    have hS7 := And.intro c_d_0_7 (And.intro c_d_1_7 (And.intro c_d_2_7 (c_d_3_7)))
    refine hKz _ _ (fun _ => hS7) ?_
    clear hKz Kz hS6
    clear R_d_6 c_d_0_6 c_d_1_6 c_d_2_6 c_d_3_6 R_g_6 c_g_0_6 c_g_1_6 c_g_2_6 c_g_3_6 c_g_4_6 c_g_5_6 c_g_6_6 z_g_0_6 z_g_1_6 z_g_2_6 z_g_3_6 z_g_4_6 z_g_5_6 z_g_6_6 R_r_6 hb6 hw6
    refine AnyJ.takeD (i := 7) (d := some 14) (v := ?_) rfl (by kernel_rfl) (by kernel_rfl) (by kernel_rfl) (by kernel_rfl) (by kernel_rfl) (fun _ _ _ h => h) (Or.inl ⟨by kernel_rfl, ?_⟩) hS7 ?_
    rotate_left
    ·
     intro w' hS
     clear hS
     go_simp
     try with_reducible rfl
    refine AnyJ.takeD (i := 8) (d := some 22) (v := ?_) rfl (by kernel_rfl) (by kernel_rfl) (by kernel_rfl) (by kernel_rfl) (by kernel_rfl) (fun _ _ _ h => h) (Or.inl ⟨by kernel_rfl, ?_⟩) hS7 ?_
    rotate_left
    ·
     intro w' hS
     clear hS
     go_simp
     try with_reducible rfl
    refine AnyJ.takeD (i := 9) (d := some 23) (v := ?_) rfl (by kernel_rfl) (by kernel_rfl) (by kernel_rfl) (by kernel_rfl) (by kernel_rfl) (fun _ _ _ h => h) (Or.inl ⟨by kernel_rfl, ?_⟩) hS7 ?_
    rotate_left
    ·
     intro w' hS
     clear hS
     go_simp
     try with_reducible rfl
    refine AnyJ.takeD (i := 10) (d := some 24) (v := ?_) rfl (by kernel_rfl) (by kernel_rfl) (by kernel_rfl) (by kernel_rfl) (by kernel_rfl) (fun _ _ _ h => h) (Or.inl ⟨by kernel_rfl, ?_⟩) hS7 ?_
    rotate_left
    ·
     intro w' hS
     clear hS
     go_simp
     try with_reducible rfl
    refine AnyJ.one (i := 12) (by kernel_rfl) rfl (fun Kz hKz => ?_)
    go_simp
    have hP8 := put_all R_g_7 [.int .i64 0, .int .i64 0, .int .i64 0, .int .i64 0, .int .i64 0, .int .i64 0, .int .i64 0] rfl
    simp only [Go.Proofs.Ytcmodmchnokmgaa.puts, Nat.reduceAdd, Nat.zero_add] at hP8
    obtain ⟨w8, hw8⟩ : ∃ x, (World.setCell (World.setCell (World.setCell (World.setCell (World.setCell (World.setCell (World.setCell w7 ⟨w3.heap.size, 0, none⟩ (.int .i64 0)) ⟨w3.heap.size, 1, none⟩ (.int .i64 0)) ⟨w3.heap.size, 2, none⟩ (.int .i64 0)) ⟨w3.heap.size, 3, none⟩ (.int .i64 0)) ⟨w3.heap.size, 4, none⟩ (.int .i64 0)) ⟨w3.heap.size, 5, none⟩ (.int .i64 0)) ⟨w3.heap.size, 6, none⟩ (.int .i64 0)) = x := ⟨_, rfl⟩
    rw [hw8] at hP8 ⊢
    obtain ⟨hR8, hC8⟩ := hP8
    have R_d_8 := R_d_7.ch hC8 (by omega)
    have c_d_0_8 := R_d_8.cell 0 rfl
    have c_d_1_8 := R_d_8.cell 1 rfl
    have c_d_2_8 := R_d_8.cell 2 rfl
    have c_d_3_8 := R_d_8.cell 3 rfl
    have l_d_8 := R_d_8.lt
    have R_g_8 := hR8
    have c_g_0_8 := R_g_8.cell 0 rfl
    have c_g_1_8 := R_g_8.cell 1 rfl
    have c_g_2_8 := R_g_8.cell 2 rfl
    have c_g_3_8 := R_g_8.cell 3 rfl
    have c_g_4_8 := R_g_8.cell 4 rfl
    have c_g_5_8 := R_g_8.cell 5 rfl
    have c_g_6_8 := R_g_8.cell 6 rfl
    have z_g_0_8 := R_g_8.frozen 0
    have z_g_1_8 := R_g_8.frozen 1
    have z_g_2_8 := R_g_8.frozen 2
    have z_g_3_8 := R_g_8.frozen 3
    have z_g_4_8 := R_g_8.frozen 4
    have z_g_5_8 := R_g_8.frozen 5
    have z_g_6_8 := R_g_8.frozen 6
    have l_g_8 := R_g_8.lt
    have R_r_8 := R_r_7.ch hC8 (by omega)
    have l_r_8 := R_r_8.lt
    have HB8 : Below w.heap.size w w8 := hC8.below HB7 (fun k hk => by omega) HB7.size
    have hs8 := hC8.size
    have hz8 := HB8.size
    have hS8 := And.intro c_d_0_8 (And.intro c_d_1_8 (And.intro c_d_2_8 (c_d_3_8)))
    refine hKz _ _ (fun _ => hS8) ?_
    clear hKz Kz hS7
    clear R_d_7 c_d_0_7 c_d_1_7 c_d_2_7 c_d_3_7 R_g_7 c_g_0_7 c_g_1_7 c_g_2_7 c_g_3_7 c_g_4_7 c_g_5_7 c_g_6_7 z_g_0_7 z_g_1_7 z_g_2_7 z_g_3_7 z_g_4_7 z_g_5_7 z_g_6_7 R_r_7 hb7
    refine AnyJ.takeD (i := 13) (d := some 7) (v := ?_) rfl (by kernel_rfl) (by kernel_rfl) (by kernel_rfl) (by kernel_rfl) (by kernel_rfl) (fun _ _ _ h => h) (Or.inl ⟨by kernel_rfl, ?_⟩) hS8 ?_
    rotate_left
    ·
     intro w' hS
     clear hS
     go_simp
     try with_reducible rfl
    refine AnyJ.takeD (i := 14) (d := some 8) (v := ?_) rfl (by kernel_rfl) (by kernel_rfl) (by kernel_rfl) (by kernel_rfl) (by kernel_rfl) (fun _ _ _ h => h) (Or.inl ⟨by kernel_rfl, ?_⟩) hS8 ?_
    rotate_left
    ·
     intro w' hS
     clear hS
     go_simp
     try with_reducible rfl
    refine AnyJ.done (by kernel_rfl) ?_ _
    clear hS8
    try simp only [Act.put, List.setIfInBounds_toArray, List.set_cons_zero, List.set_cons_succ]
    go_wp2_with fail
    go_meet
    exact ⟨(w3.heap.size), rfl, rfl, rfl, R_g_8, R_d_8, HB8⟩
  case' rest =>
   obtain ⟨g, rfl, rfl, rfl, R_g_20, R_d_20, HB20⟩ := hcut
   obtain ⟨w20, hw20⟩ : ∃ wd, wd = wc := ⟨_, rfl⟩
   subst hw20
   clear hc HC
   obtain ⟨w21, hw21⟩ : ∃ x, w20 = x := ⟨_, rfl⟩
   rw [hw21]
   have hb21 : Below w20.heap.size w20 w21 := by rw [← hw21]; (repeat' (first | (with_reducible first | exact Below.refl _ _ | assumption | exact Bw.out (by assumption) | refine bw_alloc ?_ _ | refine bw_step ?_ (by assumption) | refine Below.alloc ?_ ?_ _ | refine Below.drew ?_ | refine below_drewN ?_ _ | refine Below.setCell ?_ ?_ _ | refine below_step ?_ (by assumption) ?_ | exact Nat.le_refl _) | omega | (simp; omega) | (simp; done)))
   have R_d_21 : Row w21 (w.heap.size) [.int .i64 (fr), .int .i64 (un), .int .i64 (nn), .int .i64 (pp)] := by rw [← hw21]; (repeat' (first | (with_reducible assumption) | (with_reducible refine Row.new' _ _ _ (by first | rfl | (simp; done) | omega)) | (with_reducible first | refine Row.alloc ?_ _ | refine Row.drew ?_ | refine Row.step ?_ (by assumption) | refine Row.drewN ?_ _) | (with_reducible refine Row.set2' ?_ _ _; first | exact ⟨_, _, by assumption⟩ | exact ⟨_, _, Row.alloc (by assumption) _⟩) | (with_reducible refine Row.other ?_ (by first | omega | (simp; omega)) _)))
   have c_d_0_21 := R_d_21.cell 0 rfl
   have c_d_1_21 := R_d_21.cell 1 rfl
   have c_d_2_21 := R_d_21.cell 2 rfl
   have c_d_3_21 := R_d_21.cell 3 rfl
   have l_d_21 := R_d_21.lt
   have R_g_21 : Row w21 (g) [.int .i64 (0), .int .i64 (0), .int .i64 (0), .int .i64 (0), .int .i64 (0), .int .i64 (0), .int .i64 (0)] := by rw [← hw21]; (repeat' (first | (with_reducible assumption) | (with_reducible refine Row.new' _ _ _ (by first | rfl | (simp; done) | omega)) | (with_reducible first | refine Row.alloc ?_ _ | refine Row.drew ?_ | refine Row.step ?_ (by assumption) | refine Row.drewN ?_ _) | (with_reducible refine Row.set2' ?_ _ _; first | exact ⟨_, _, by assumption⟩ | exact ⟨_, _, Row.alloc (by assumption) _⟩) | (with_reducible refine Row.other ?_ (by first | omega | (simp; omega)) _)))
   have c_g_0_21 := R_g_21.cell 0 rfl
   have c_g_1_21 := R_g_21.cell 1 rfl
   have c_g_2_21 := R_g_21.cell 2 rfl
   have c_g_3_21 := R_g_21.cell 3 rfl
   have c_g_4_21 := R_g_21.cell 4 rfl
   have c_g_5_21 := R_g_21.cell 5 rfl
   have c_g_6_21 := R_g_21.cell 6 rfl
   have l_g_21 := R_g_21.lt
   have HB21 := HB20.trans (hb21.mono HB20.size)
   have hs21 := hb21.size
   have hz21 := HB21.size
   cases D with
   | false =>
    obtain rfl : E = 1 := by rw [← HE.out, HD.out]; rfl
    go_wp2_with fail
    refine (R14_domain fr un nn pp _ HD.out _).mono ?_
    rintro e w22 ⟨rfl, hb22⟩
    have R_d_22 : Row w22 (w.heap.size) [.int .i64 (fr), .int .i64 (un), .int .i64 (nn), .int .i64 (pp)] := by (repeat' (first | (with_reducible assumption) | (with_reducible refine Row.new' _ _ _ (by first | rfl | (simp; done) | omega)) | (with_reducible first | refine Row.alloc ?_ _ | refine Row.drew ?_ | refine Row.step ?_ (by assumption) | refine Row.drewN ?_ _) | (with_reducible refine Row.set2' ?_ _ _; first | exact ⟨_, _, by assumption⟩ | exact ⟨_, _, Row.alloc (by assumption) _⟩) | (with_reducible refine Row.other ?_ (by first | omega | (simp; omega)) _)))
    have c_d_0_22 := R_d_22.cell 0 rfl
    have c_d_1_22 := R_d_22.cell 1 rfl
    have c_d_2_22 := R_d_22.cell 2 rfl
    have c_d_3_22 := R_d_22.cell 3 rfl
    have l_d_22 := R_d_22.lt
    have R_g_22 : Row w22 (g) [.int .i64 (0), .int .i64 (0), .int .i64 (0), .int .i64 (0), .int .i64 (0), .int .i64 (0), .int .i64 (0)] := by (repeat' (first | (with_reducible assumption) | (with_reducible refine Row.new' _ _ _ (by first | rfl | (simp; done) | omega)) | (with_reducible first | refine Row.alloc ?_ _ | refine Row.drew ?_ | refine Row.step ?_ (by assumption) | refine Row.drewN ?_ _) | (with_reducible refine Row.set2' ?_ _ _; first | exact ⟨_, _, by assumption⟩ | exact ⟨_, _, Row.alloc (by assumption) _⟩) | (with_reducible refine Row.other ?_ (by first | omega | (simp; omega)) _)))
    have c_g_0_22 := R_g_22.cell 0 rfl
    have c_g_1_22 := R_g_22.cell 1 rfl
    have c_g_2_22 := R_g_22.cell 2 rfl
    have c_g_3_22 := R_g_22.cell 3 rfl
    have c_g_4_22 := R_g_22.cell 4 rfl
    have c_g_5_22 := R_g_22.cell 5 rfl
    have c_g_6_22 := R_g_22.cell 6 rfl
    have l_g_22 := R_g_22.lt
    have HB22 : Below w.heap.size w w22 := by (repeat' (first | (with_reducible first | exact Below.refl _ _ | assumption | exact Bw.out (by assumption) | refine bw_alloc ?_ _ | refine bw_step ?_ (by assumption) | refine Below.alloc ?_ ?_ _ | refine Below.drew ?_ | refine below_drewN ?_ _ | refine Below.setCell ?_ ?_ _ | refine below_step ?_ (by assumption) ?_ | exact Nat.le_refl _) | omega | (simp; omega) | (simp; done)))
    clear R_d_21 c_d_0_21 c_d_1_21 c_d_2_21 c_d_3_21 R_g_21 c_g_0_21 c_g_1_21 c_g_2_21 c_g_3_21 c_g_4_21 c_g_5_21 c_g_6_21 hb21 hw21
    go_wp2_with fail
    go_ret
    refine ⟨(by first | rfl | exact ret_bool (by first | rfl | (simp; done) | (simp; omega))), ?_⟩
    (repeat' (first | (with_reducible first | exact Below.refl _ _ | assumption | exact Bw.out (by assumption) | refine bw_alloc ?_ _ | refine bw_step ?_ (by assumption) | refine Below.alloc ?_ ?_ _ | refine Below.drew ?_ | refine below_drewN ?_ _ | refine Below.setCell ?_ ?_ _ | refine below_step ?_ (by assumption) ?_ | exact Nat.le_refl _) | omega | (simp; omega) | (simp; done)))
   | true =>
    obtain rfl : E = 0 := by rw [← HE.out, HD.out]; rfl
    go_wp2_with fail
    refine (R14_domain fr un nn pp _ HD.out _).mono ?_
    rintro e w22 ⟨rfl, hb22⟩
    have R_d_22 : Row w22 (w.heap.size) [.int .i64 (fr), .int .i64 (un), .int .i64 (nn), .int .i64 (pp)] := by (repeat' (first | (with_reducible assumption) | (with_reducible refine Row.new' _ _ _ (by first | rfl | (simp; done) | omega)) | (with_reducible first | refine Row.alloc ?_ _ | refine Row.drew ?_ | refine Row.step ?_ (by assumption) | refine Row.drewN ?_ _) | (with_reducible refine Row.set2' ?_ _ _; first | exact ⟨_, _, by assumption⟩ | exact ⟨_, _, Row.alloc (by assumption) _⟩) | (with_reducible refine Row.other ?_ (by first | omega | (simp; omega)) _)))
    have c_d_0_22 := R_d_22.cell 0 rfl
    have c_d_1_22 := R_d_22.cell 1 rfl
    have c_d_2_22 := R_d_22.cell 2 rfl
    have c_d_3_22 := R_d_22.cell 3 rfl
    have l_d_22 := R_d_22.lt
    have R_g_22 : Row w22 (g) [.int .i64 (0), .int .i64 (0), .int .i64 (0), .int .i64 (0), .int .i64 (0), .int .i64 (0), .int .i64 (0)] := by (repeat' (first | (with_reducible assumption) | (with_reducible refine Row.new' _ _ _ (by first | rfl | (simp; done) | omega)) | (with_reducible first | refine Row.alloc ?_ _ | refine Row.drew ?_ | refine Row.step ?_ (by assumption) | refine Row.drewN ?_ _) | (with_reducible refine Row.set2' ?_ _ _; first | exact ⟨_, _, by assumption⟩ | exact ⟨_, _, Row.alloc (by assumption) _⟩) | (with_reducible refine Row.other ?_ (by first | omega | (simp; omega)) _)))
    have c_g_0_22 := R_g_22.cell 0 rfl
    have c_g_1_22 := R_g_22.cell 1 rfl
    have c_g_2_22 := R_g_22.cell 2 rfl
    have c_g_3_22 := R_g_22.cell 3 rfl
    have c_g_4_22 := R_g_22.cell 4 rfl
    have c_g_5_22 := R_g_22.cell 5 rfl
    have c_g_6_22 := R_g_22.cell 6 rfl
    have l_g_22 := R_g_22.lt
    have HB22 : Below w.heap.size w w22 := by (repeat' (first | (with_reducible first | exact Below.refl _ _ | assumption | exact Bw.out (by assumption) | refine bw_alloc ?_ _ | refine bw_step ?_ (by assumption) | refine Below.alloc ?_ ?_ _ | refine Below.drew ?_ | refine below_drewN ?_ _ | refine Below.setCell ?_ ?_ _ | refine below_step ?_ (by assumption) ?_ | exact Nat.le_refl _) | omega | (simp; omega) | (simp; done)))
    clear R_d_21 c_d_0_21 c_d_1_21 c_d_2_21 c_d_3_21 R_g_21 c_g_0_21 c_g_1_21 c_g_2_21 c_g_3_21 c_g_4_21 c_g_5_21 c_g_6_21 hb21 hw21
    go_wp2_with fail
    go_ret
    refine ⟨(by first | rfl | exact ret_bool (by first | rfl | (simp; done) | (simp; omega))), ?_⟩
    (repeat' (first | (with_reducible first | exact Below.refl _ _ | assumption | exact Bw.out (by assumption) | refine bw_alloc ?_ _ | refine bw_step ?_ (by assumption) | refine Below.alloc ?_ ?_ _ | refine Below.drew ?_ | refine below_drewN ?_ _ | refine Below.setCell ?_ ?_ _ | refine below_step ?_ (by assumption) ?_ | exact Nat.le_refl _) | omega | (simp; omega) | (simp; done)))
end Go.Proofs.Ytcmodmchnokmgaa
