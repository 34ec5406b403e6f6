/-
 The walks of package types: what operators make of the types of their kids.
-/
import Derived.Test.YtcmodmchnokmgaaTyP
import Derived.Test.YtcmodmchnokmgaaMapI
import Derived.Test.YtcmodmchnokmgaaFits
import Derived.Test.YtcmodmchnokmgaaMD
import Derived.Lib.Slices
namespace Go.Proofs.Ytcmodmchnokmgaa
set_option linter.unusedSimpArgs false
set_option linter.unusedVariables false
open Go.RowKit
/-- A type, or the panic of what has none. -/
def tyE (t : Int) : Ending := if t = 0 then .panicked [{ v := .iface 77 (.agg #[]), recovered := false }] else .returned (.int .i64 t)
theorem tyE_no : tyE 0 = .panicked [{ v := .iface 77 (.agg #[]), recovered := false }] := rfl
theorem tyE_yes {t : Int} (h : t ≠ 0) : tyE t = .returned (.int .i64 t) := by unfold tyE; rw [if_neg h]
theorem need_yes (w : World) : Calls Try.prog 70 #[.bool true] w fun e w' => e = .returned (.tuple #[]) ∧ Below w.heap.size w w' := by
 go_enter Try.func70, Try.ntmps70
 go_wp2_with fail
 go_end0
 exact ⟨rfl, Below.refl _ _⟩
theorem need_no (w : World) : Calls Try.prog 70 #[.bool false] w fun e w' => e = .panicked [{ v := .iface 77 (.agg #[]), recovered := false }] ∧ Below w.heap.size w w' := by
 go_enter Try.func70, Try.ntmps70
 go_wp2_with fail
 (try simp only [Exit.inBlock, Exit.then])
 exact ⟨rfl, rfl, Below.refl _ _⟩
theorem SlI.two {w : World} {ad : Option Addr} {a b : Int} (h : SlI w ad 2 [a, b]) : ∃ g off, ad = some ⟨g, off, none⟩ ∧ g < w.heap.size ∧ w.cell? ⟨g, off, none⟩ = some (.int .i64 a) ∧ w.cell? ⟨g, off + 1, none⟩ = some (.int .i64 b) := by
 obtain ⟨g, off, e, hl, hc⟩ := h.at (by omega)
 exact ⟨g, off, e, hl, by simpa using hc 0 (by omega), by simpa using hc 1 (by omega)⟩
theorem SlI.three {w : World} {ad : Option Addr} {a b c : Int} (h : SlI w ad 3 [a, b, c]) : ∃ g off, ad = some ⟨g, off, none⟩ ∧ g < w.heap.size ∧ w.cell? ⟨g, off, none⟩ = some (.int .i64 a) ∧ w.cell? ⟨g, off + 1, none⟩ = some (.int .i64 b) ∧ w.cell? ⟨g, off + 2, none⟩ = some (.int .i64 c) := by
 obtain ⟨g, off, e, hl, hc⟩ := h.at (by omega)
 exact ⟨g, off, e, hl, by simpa using hc 0 (by omega), by simpa using hc 1 (by omega), by simpa using hc 2 (by omega)⟩
set_option maxRecDepth 100000 in
set_option maxHeartbeats 1600000 in
theorem alike_any (a b : Int) (ad : Option Addr) (cap : Nat) (w : World) (K : SlI w ad 2 [a, b]) (h0 : a ≠ 0) :
  Calls Try.prog 66 #[.slice ad 2 cap] w fun e w' => e = tyE (if a = b ∧ a ≠ 3 then a else 0) ∧ Below w.heap.size w w' := by
 obtain ⟨g, off, rfl, hl, c0, c1⟩ := K.two
 have C0 : CellAt w g off (.int .i64 a) := c0
 have C1 : CellAt w g (off + 1) (.int .i64 b) := c1
 clear K
 by_cases h3 : a = 3
 ·
  subst h3
  rw [if_neg (by simp), tyE_no]
  go_enter Try.func66, Try.ntmps66
  go_wp2_with fail
  refine AnyJ.beginP (fun w' : World => w'.cell? ⟨g, off, none⟩ = some (.int .i64 3) ∧ w'.cell? ⟨g, off + 1, none⟩ = some (.int .i64 b)) (fun _ => true) (by kernel_rfl) ?_ (fun hS0 => ?_)
  ·
   exact (show ∀ (P S : World → Prop) (W : World), P W → (∀ w', P w' → S w') → S W from fun P S W h f => f W h) (fun w' : World => w'.cell? ⟨g, off, none⟩ = some (.int .i64 3) ∧ w'.cell? ⟨g, off + 1, none⟩ = some (.int .i64 b)) (fun w' : World => w'.cell? ⟨g, off, none⟩ = some (.int .i64 3) ∧ w'.cell? ⟨g, off + 1, none⟩ = some (.int .i64 b)) _ (⟨CellAt.out (by (repeat' (first | (with_reducible assumption) | (with_reducible refine CellAt.drew ?_) | (with_reducible refine CellAt.drewN ?_ _) | (with_reducible refine CellAt.alloc ?_ _) | (with_reducible refine CellAt.step ?_ (by with_reducible assumption))))), CellAt.out (by (repeat' (first | (with_reducible assumption) | (with_reducible refine CellAt.drew ?_) | (with_reducible refine CellAt.drewN ?_ _) | (with_reducible refine CellAt.alloc ?_ _) | (with_reducible refine CellAt.step ?_ (by with_reducible assumption)))))⟩) (fun w' ⟨hF0, hF1⟩ => ⟨hF0, hF1⟩)
  refine AnyJ.takeD (i := 0) (d := some 3) (v := ?_) rfl (by kernel_rfl) (by kernel_rfl) (by kernel_rfl) (by kernel_rfl) (by kernel_rfl) (fun _ _ _ h => h) (Or.inl ⟨by kernel_rfl, ?_⟩) hS0 ?_
  rotate_left
  ·
   intro w' hS
   clear hS
   go_simp
   try with_reducible rfl
  refine AnyJ.takeD (i := 1) (d := some 4) (v := ?_) rfl (by kernel_rfl) (by kernel_rfl) (by kernel_rfl) (by kernel_rfl) (by kernel_rfl) (fun _ _ _ h => h) (Or.inl ⟨by kernel_rfl, ?_⟩) hS0 ?_
  rotate_left
  ·
   intro w' hS
   clear hS
   go_simp
   try with_reducible rfl
  refine AnyJ.takeD (i := 2) (d := some 5) (v := ?_) rfl (by kernel_rfl) (by kernel_rfl) (by kernel_rfl) (by kernel_rfl) (by kernel_rfl) (fun _ _ _ h => h) (Or.inl ⟨by kernel_rfl, ?_⟩) hS0 ?_
  rotate_left
  ·
   intro w' hS
   obtain ⟨sF0, sF1⟩ := hS
   go_simp
   try with_reducible rfl
  refine AnyJ.takeD (i := 3) (d := some 6) (v := ?_) rfl (by kernel_rfl) (by kernel_rfl) (by kernel_rfl) (by kernel_rfl) (by kernel_rfl) (fun _ _ _ h => h) (Or.inl ⟨by kernel_rfl, ?_⟩) hS0 ?_
  rotate_left
  ·
   intro w' hS
   clear hS
   go_simp
   try with_reducible rfl
  refine AnyJ.takeD (i := 4) (d := some 7) (v := ?_) rfl (by kernel_rfl) (by kernel_rfl) (by kernel_rfl) (by kernel_rfl) (by kernel_rfl) (fun _ _ _ h => h) (Or.inl ⟨by kernel_rfl, ?_⟩) hS0 ?_
  rotate_left
  ·
   intro w' hS
   clear hS
   go_simp
   try with_reducible rfl
  refine AnyJ.takeD (i := 5) (d := some 8) (v := undef) rfl (by kernel_rfl) (by kernel_rfl) (by kernel_rfl) (by kernel_rfl) (by kernel_rfl) (fun _ _ _ h => h) (Or.inr ⟨by kernel_rfl, rfl⟩) hS0 ?_
  refine AnyJ.takeD (i := 6) (d := some 9) (v := undef) rfl (by kernel_rfl) (by kernel_rfl) (by kernel_rfl) (by kernel_rfl) (by kernel_rfl) (fun _ _ _ h => h) (Or.inr ⟨by kernel_rfl, rfl⟩) hS0 ?_
  refine AnyJ.takeD (i := 7) (d := some 10) (v := undef) rfl (by kernel_rfl) (by kernel_rfl) (by kernel_rfl) (by kernel_rfl) (by kernel_rfl) (fun _ _ _ h => h) (Or.inr ⟨by kernel_rfl, rfl⟩) hS0 ?_
  refine AnyJ.takeD (i := 8) (d := some 11) (v := undef) rfl (by kernel_rfl) (by kernel_rfl) (by kernel_rfl) (by kernel_rfl) (by kernel_rfl) (fun _ _ _ h => h) (Or.inr ⟨by kernel_rfl, rfl⟩) hS0 ?_
  refine AnyJ.takeD (i := 9) (d := some 12) (v := undef) rfl (by kernel_rfl) (by kernel_rfl) (by kernel_rfl) (by kernel_rfl) (by kernel_rfl) (fun _ _ _ h => h) (Or.inr ⟨by kernel_rfl, rfl⟩) hS0 ?_
  refine AnyJ.takeD (i := 10) (d := some 13) (v := undef) rfl (by kernel_rfl) (by kernel_rfl) (by kernel_rfl) (by kernel_rfl) (by kernel_rfl) (fun _ _ _ h => h) (Or.inr ⟨by kernel_rfl, rfl⟩) hS0 ?_
  refine AnyJ.takeD (i := 11) (d := some 14) (v := undef) rfl (by kernel_rfl) (by kernel_rfl) (by kernel_rfl) (by kernel_rfl) (by kernel_rfl) (fun _ _ _ h => h) (Or.inr ⟨by kernel_rfl, rfl⟩) hS0 ?_
  refine AnyJ.takeD (i := 12) (d := some 15) (v := ?_) rfl (by kernel_rfl) (by kernel_rfl) (by kernel_rfl) (by kernel_rfl) (by kernel_rfl) (fun _ _ _ h => h) (Or.inl ⟨by kernel_rfl, ?_⟩) hS0 ?_
  rotate_left
  ·
   intro w' hS
   clear hS
   go_simp
   try with_reducible rfl
  refine AnyJ.one (i := 13) (by kernel_rfl) rfl (fun Kz hKz => ?_)
  go_simp
  refine (need_no _).mono ?_
  rintro e w1 ⟨rfl, hb1⟩
  (try simp only [Exit.inBlock, Exit.then])
  exact ⟨rfl, rfl, by (repeat' (first | (with_reducible first | exact Below.refl _ _ | assumption | exact Bw.out (by assumption) | refine bw_alloc ?_ _ | refine bw_step ?_ (by assumption) | refine Below.alloc ?_ ?_ _ | refine Below.drew ?_ | refine below_drewN ?_ _ | refine Below.setCell ?_ ?_ _ | refine below_step ?_ (by assumption) ?_ | exact Nat.le_refl _) | omega | (simp; omega) | (simp; done)))⟩
 ·
  have h3' : (a != 3) = true := by simpa using h3
  by_cases hab : a = b
  ·
   subst hab
   rw [if_pos ⟨rfl, h3⟩, tyE_yes h0]
   go_enter Try.func66, Try.ntmps66
   go_wp2_with fail
   refine AnyJ.beginP (fun w' : World => w'.cell? ⟨g, off, none⟩ = some (.int .i64 a) ∧ w'.cell? ⟨g, off + 1, none⟩ = some (.int .i64 a)) (fun _ => true) (by kernel_rfl) ?_ (fun hS0 => ?_)
   ·
    exact (show ∀ (P S : World → Prop) (W : World), P W → (∀ w', P w' → S w') → S W from fun P S W h f => f W h) (fun w' : World => w'.cell? ⟨g, off, none⟩ = some (.int .i64 a) ∧ w'.cell? ⟨g, off + 1, none⟩ = some (.int .i64 a)) (fun w' : World => w'.cell? ⟨g, off, none⟩ = some (.int .i64 a) ∧ w'.cell? ⟨g, off + 1, none⟩ = some (.int .i64 a)) _ (⟨CellAt.out (by (repeat' (first | (with_reducible assumption) | (with_reducible refine CellAt.drew ?_) | (with_reducible refine CellAt.drewN ?_ _) | (with_reducible refine CellAt.alloc ?_ _) | (with_reducible refine CellAt.step ?_ (by with_reducible assumption))))), CellAt.out (by (repeat' (first | (with_reducible assumption) | (with_reducible refine CellAt.drew ?_) | (with_reducible refine CellAt.drewN ?_ _) | (with_reducible refine CellAt.alloc ?_ _) | (with_reducible refine CellAt.step ?_ (by with_reducible assumption)))))⟩) (fun w' ⟨hF0, hF1⟩ => ⟨hF0, hF1⟩)
   refine AnyJ.takeD (i := 0) (d := some 3) (v := ?_) rfl (by kernel_rfl) (by kernel_rfl) (by kernel_rfl) (by kernel_rfl) (by kernel_rfl) (fun _ _ _ h => h) (Or.inl ⟨by kernel_rfl, ?_⟩) hS0 ?_
   rotate_left
   ·
    intro w' hS
    clear hS
    go_simp
    try with_reducible rfl
   refine AnyJ.takeD (i := 1) (d := some 4) (v := ?_) rfl (by kernel_rfl) (by kernel_rfl) (by kernel_rfl) (by kernel_rfl) (by kernel_rfl) (fun _ _ _ h => h) (Or.inl ⟨by kernel_rfl, ?_⟩) hS0 ?_
   rotate_left
   ·
    intro w' hS
    clear hS
    go_simp
    try with_reducible rfl
   refine AnyJ.takeD (i := 2) (d := some 5) (v := ?_) rfl (by kernel_rfl) (by kernel_rfl) (by kernel_rfl) (by kernel_rfl) (by kernel_rfl) (fun _ _ _ h => h) (Or.inl ⟨by kernel_rfl, ?_⟩) hS0 ?_
   rotate_left
   ·
    intro w' hS
    obtain ⟨sF0, sF1⟩ := hS
    go_simp
    try with_reducible rfl
   refine AnyJ.takeD (i := 3) (d := some 6) (v := ?_) rfl (by kernel_rfl) (by kernel_rfl) (by kernel_rfl) (by kernel_rfl) (by kernel_rfl) (fun _ _ _ h => h) (Or.inl ⟨by kernel_rfl, ?_⟩) hS0 ?_
   rotate_left
   ·
    intro w' hS
    clear hS
    go_simp
    try with_reducible rfl
   refine AnyJ.takeD (i := 4) (d := some 7) (v := ?_) rfl (by kernel_rfl) (by kernel_rfl) (by kernel_rfl) (by kernel_rfl) (by kernel_rfl) (fun _ _ _ h => h) (Or.inl ⟨by kernel_rfl, ?_⟩) hS0 ?_
   rotate_left
   ·
    intro w' hS
    clear hS
    go_simp
    try with_reducible rfl
   refine AnyJ.takeD (i := 5) (d := some 8) (v := ?_) rfl (by kernel_rfl) (by kernel_rfl) (by kernel_rfl) (by kernel_rfl) (by kernel_rfl) (fun _ _ _ h => h) (Or.inl ⟨by kernel_rfl, ?_⟩) hS0 ?_
   rotate_left
   ·
    intro w' hS
    clear hS
    go_simp
    try with_reducible rfl
   refine AnyJ.takeD (i := 6) (d := some 9) (v := ?_) rfl (by kernel_rfl) (by kernel_rfl) (by kernel_rfl) (by kernel_rfl) (by kernel_rfl) (fun _ _ _ h => h) (Or.inl ⟨by kernel_rfl, ?_⟩) hS0 ?_
   rotate_left
   ·
    intro w' hS
    clear hS
    go_simp
    try with_reducible rfl
   refine AnyJ.takeD (i := 7) (d := some 10) (v := ?_) rfl (by kernel_rfl) (by kernel_rfl) (by kernel_rfl) (by kernel_rfl) (by kernel_rfl) (fun _ _ _ h => h) (Or.inl ⟨by kernel_rfl, ?_⟩) hS0 ?_
   rotate_left
   ·
    intro w' hS
    obtain ⟨sF0, sF1⟩ := hS
    go_simp
    try with_reducible rfl
   refine AnyJ.takeD (i := 8) (d := some 11) (v := ?_) rfl (by kernel_rfl) (by kernel_rfl) (by kernel_rfl) (by kernel_rfl) (by kernel_rfl) (fun _ _ _ h => h) (Or.inl ⟨by kernel_rfl, ?_⟩) hS0 ?_
   rotate_left
   ·
    intro w' hS
    clear hS
    go_simp
    try with_reducible rfl
   refine AnyJ.takeD (i := 9) (d := some 12) (v := ?_) rfl (by kernel_rfl) (by kernel_rfl) (by kernel_rfl) (by kernel_rfl) (by kernel_rfl) (fun _ _ _ h => h) (Or.inl ⟨by kernel_rfl, ?_⟩) hS0 ?_
   rotate_left
   ·
    intro w' hS
    clear hS
    go_simp
    try with_reducible rfl
   refine AnyJ.takeD (i := 10) (d := some 13) (v := ?_) rfl (by kernel_rfl) (by kernel_rfl) (by kernel_rfl) (by kernel_rfl) (by kernel_rfl) (fun _ _ _ h => h) (Or.inl ⟨by kernel_rfl, ?_⟩) hS0 ?_
   rotate_left
   ·
    intro w' hS
    obtain ⟨sF0, sF1⟩ := hS
    go_simp
    try with_reducible rfl
   refine AnyJ.takeD (i := 11) (d := some 14) (v := ?_) rfl (by kernel_rfl) (by kernel_rfl) (by kernel_rfl) (by kernel_rfl) (by kernel_rfl) (fun _ _ _ h => h) (Or.inl ⟨by kernel_rfl, ?_⟩) hS0 ?_
   rotate_left
   ·
    intro w' hS
    clear hS
    go_simp
    try with_reducible rfl
   refine AnyJ.takeD (i := 12) (d := some 15) (v := ?_) rfl (by kernel_rfl) (by kernel_rfl) (by kernel_rfl) (by kernel_rfl) (by kernel_rfl) (fun _ _ _ h => h) (Or.inl ⟨by kernel_rfl, ?_⟩) hS0 ?_
   rotate_left
   ·
    intro w' hS
    clear hS
    go_simp
    try with_reducible rfl
   refine AnyJ.one (i := 13) (by kernel_rfl) rfl (fun Kz hKz => ?_)
   go_simp
   refine (need_yes _).mono ?_
   rintro e w1 ⟨rfl, hb1⟩
   have HB1 : Below w.heap.size w w1 := by (repeat' (first | (with_reducible first | exact Below.refl _ _ | assumption | exact Bw.out (by assumption) | refine bw_alloc ?_ _ | refine bw_step ?_ (by assumption) | refine Below.alloc ?_ ?_ _ | refine Below.drew ?_ | refine below_drewN ?_ _ | refine Below.setCell ?_ ?_ _ | refine below_step ?_ (by assumption) ?_ | exact Nat.le_refl _) | omega | (simp; omega) | (simp; done)))
   have hz1 := HB1.size
   obtain ⟨sF0, sF1⟩ := hS0
   have hS1 : (fun w' : World => w'.cell? ⟨g, off, none⟩ = some (.int .i64 a) ∧ w'.cell? ⟨g, off + 1, none⟩ = some (.int .i64 a)) w1 := ⟨(by first | exact (CellAt.step sF0 (by (repeat' (first | (with_reducible first | exact Below.refl _ _ | assumption | exact Bw.out (by assumption) | refine bw_alloc ?_ _ | refine bw_step ?_ (by assumption) | refine Below.alloc ?_ ?_ _ | refine Below.drew ?_ | refine below_drewN ?_ _ | refine Below.setCell ?_ ?_ _ | refine below_step ?_ (by assumption) ?_ | exact Nat.le_refl _) | omega | (simp; omega) | (simp; done))))).out | exact SlC.step sF0 (by (repeat' (first | (with_reducible first | exact Below.refl _ _ | assumption | exact Bw.out (by assumption) | refine bw_alloc ?_ _ | refine bw_step ?_ (by assumption) | refine Below.alloc ?_ ?_ _ | refine Below.drew ?_ | refine below_drewN ?_ _ | refine Below.setCell ?_ ?_ _ | refine below_step ?_ (by assumption) ?_ | exact Nat.le_refl _) | omega | (simp; omega) | (simp; done))))), (by first | exact (CellAt.step sF1 (by (repeat' (first | (with_reducible first | exact Below.refl _ _ | assumption | exact Bw.out (by assumption) | refine bw_alloc ?_ _ | refine bw_step ?_ (by assumption) | refine Below.alloc ?_ ?_ _ | refine Below.drew ?_ | refine below_drewN ?_ _ | refine Below.setCell ?_ ?_ _ | refine below_step ?_ (by assumption) ?_ | exact Nat.le_refl _) | omega | (simp; omega) | (simp; done))))).out | exact SlC.step sF1 (by (repeat' (first | (with_reducible first | exact Below.refl _ _ | assumption | exact Bw.out (by assumption) | refine bw_alloc ?_ _ | refine bw_step ?_ (by assumption) | refine Below.alloc ?_ ?_ _ | refine Below.drew ?_ | refine below_drewN ?_ _ | refine Below.setCell ?_ ?_ _ | refine below_step ?_ (by assumption) ?_ | exact Nat.le_refl _) | omega | (simp; omega) | (simp; done)))))⟩
   clear sF0 sF1
   refine hKz _ _ (fun _ => hS1) ?_
   clear hKz Kz
   refine AnyJ.done (by kernel_rfl) ?_ _
   clear hS1
   try simp only [Act.put, List.setIfInBounds_toArray, List.set_cons_zero, List.set_cons_succ]
   have c9 := (C0.drew.step hb1).out
   go_wp2_with fail
   go_ret
   exact ⟨rfl, by (repeat' (first | (with_reducible first | exact Below.refl _ _ | assumption | exact Bw.out (by assumption) | refine bw_alloc ?_ _ | refine bw_step ?_ (by assumption) | refine Below.alloc ?_ ?_ _ | refine Below.drew ?_ | refine below_drewN ?_ _ | refine Below.setCell ?_ ?_ _ | refine below_step ?_ (by assumption) ?_ | exact Nat.le_refl _) | omega | (simp; omega) | (simp; done)))⟩
  ·
   have hab' : (a == b) = false := by simpa using hab
   rw [if_neg (by simp [hab]), tyE_no]
   clear h3 hab
   go_enter Try.func66, Try.ntmps66
   go_wp2_with fail
   refine AnyJ.beginP (fun w' : World => w'.cell? ⟨g, off, none⟩ = some (.int .i64 a) ∧ w'.cell? ⟨g, off + 1, none⟩ = some (.int .i64 b)) (fun _ => true) (by kernel_rfl) ?_ (fun hS0 => ?_)
   ·
    exact (show ∀ (P S : World → Prop) (W : World), P W → (∀ w', P w' → S w') → S W from fun P S W h f => f W h) (fun w' : World => w'.cell? ⟨g, off, none⟩ = some (.int .i64 a) ∧ w'.cell? ⟨g, off + 1, none⟩ = some (.int .i64 b)) (fun w' : World => w'.cell? ⟨g, off, none⟩ = some (.int .i64 a) ∧ w'.cell? ⟨g, off + 1, none⟩ = some (.int .i64 b)) _ (⟨CellAt.out (by (repeat' (first | (with_reducible assumption) | (with_reducible refine CellAt.drew ?_) | (with_reducible refine CellAt.drewN ?_ _) | (with_reducible refine CellAt.alloc ?_ _) | (with_reducible refine CellAt.step ?_ (by with_reducible assumption))))), CellAt.out (by (repeat' (first | (with_reducible assumption) | (with_reducible refine CellAt.drew ?_) | (with_reducible refine CellAt.drewN ?_ _) | (with_reducible refine CellAt.alloc ?_ _) | (with_reducible refine CellAt.step ?_ (by with_reducible assumption)))))⟩) (fun w' ⟨hF0, hF1⟩ => ⟨hF0, hF1⟩)
   refine AnyJ.takeD (i := 0) (d := some 3) (v := ?_) rfl (by kernel_rfl) (by kernel_rfl) (by kernel_rfl) (by kernel_rfl) (by kernel_rfl) (fun _ _ _ h => h) (Or.inl ⟨by kernel_rfl, ?_⟩) hS0 ?_
   rotate_left
   ·
    intro w' hS
    clear hS
    go_simp
    try with_reducible rfl
   refine AnyJ.takeD (i := 1) (d := some 4) (v := ?_) rfl (by kernel_rfl) (by kernel_rfl) (by kernel_rfl) (by kernel_rfl) (by kernel_rfl) (fun _ _ _ h => h) (Or.inl ⟨by kernel_rfl, ?_⟩) hS0 ?_
   rotate_left
   ·
    intro w' hS
    clear hS
    go_simp
    try with_reducible rfl
   refine AnyJ.takeD (i := 2) (d := some 5) (v := ?_) rfl (by kernel_rfl) (by kernel_rfl) (by kernel_rfl) (by kernel_rfl) (by kernel_rfl) (fun _ _ _ h => h) (Or.inl ⟨by kernel_rfl, ?_⟩) hS0 ?_
   rotate_left
   ·
    intro w' hS
    obtain ⟨sF0, sF1⟩ := hS
    go_simp
    try with_reducible rfl
   refine AnyJ.takeD (i := 3) (d := some 6) (v := ?_) rfl (by kernel_rfl) (by kernel_rfl) (by kernel_rfl) (by kernel_rfl) (by kernel_rfl) (fun _ _ _ h => h) (Or.inl ⟨by kernel_rfl, ?_⟩) hS0 ?_
   rotate_left
   ·
    intro w' hS
    clear hS
    go_simp
    try with_reducible rfl
   refine AnyJ.takeD (i := 4) (d := some 7) (v := ?_) rfl (by kernel_rfl) (by kernel_rfl) (by kernel_rfl) (by kernel_rfl) (by kernel_rfl) (fun _ _ _ h => h) (Or.inl ⟨by kernel_rfl, ?_⟩) hS0 ?_
   rotate_left
   ·
    intro w' hS
    clear hS
    go_simp
    try with_reducible rfl
   refine AnyJ.takeD (i := 5) (d := some 8) (v := ?_) rfl (by kernel_rfl) (by kernel_rfl) (by kernel_rfl) (by kernel_rfl) (by kernel_rfl) (fun _ _ _ h => h) (Or.inl ⟨by kernel_rfl, ?_⟩) hS0 ?_
   rotate_left
   ·
    intro w' hS
    clear hS
    go_simp
    try with_reducible rfl
   refine AnyJ.takeD (i := 6) (d := some 9) (v := ?_) rfl (by kernel_rfl) (by kernel_rfl) (by kernel_rfl) (by kernel_rfl) (by kernel_rfl) (fun _ _ _ h => h) (Or.inl ⟨by kernel_rfl, ?_⟩) hS0 ?_
   rotate_left
   ·
    intro w' hS
    clear hS
    go_simp
    try with_reducible rfl
   refine AnyJ.takeD (i := 7) (d := some 10) (v := ?_) rfl (by kernel_rfl) (by kernel_rfl) (by kernel_rfl) (by kernel_rfl) (by kernel_rfl) (fun _ _ _ h => h) (Or.inl ⟨by kernel_rfl, ?_⟩) hS0 ?_
   rotate_left
   ·
    intro w' hS
    obtain ⟨sF0, sF1⟩ := hS
    go_simp
    try with_reducible rfl
   refine AnyJ.takeD (i := 8) (d := some 11) (v := ?_) rfl (by kernel_rfl) (by kernel_rfl) (by kernel_rfl) (by kernel_rfl) (by kernel_rfl) (fun _ _ _ h => h) (Or.inl ⟨by kernel_rfl, ?_⟩) hS0 ?_
   rotate_left
   ·
    intro w' hS
    clear hS
    go_simp
    try with_reducible rfl
   refine AnyJ.takeD (i := 9) (d := some 12) (v := ?_) rfl (by kernel_rfl) (by kernel_rfl) (by kernel_rfl) (by kernel_rfl) (by kernel_rfl) (fun _ _ _ h => h) (Or.inl ⟨by kernel_rfl, ?_⟩) hS0 ?_
   rotate_left
   ·
    intro w' hS
    clear hS
    go_simp
    try with_reducible rfl
   refine AnyJ.takeD (i := 10) (d := some 13) (v := ?_) rfl (by kernel_rfl) (by kernel_rfl) (by kernel_rfl) (by kernel_rfl) (by kernel_rfl) (fun _ _ _ h => h) (Or.inl ⟨by kernel_rfl, ?_⟩) hS0 ?_
   rotate_left
   ·
    intro w' hS
    obtain ⟨sF0, sF1⟩ := hS
    go_simp
    try with_reducible rfl
   refine AnyJ.takeD (i := 11) (d := some 14) (v := ?_) rfl (by kernel_rfl) (by kernel_rfl) (by kernel_rfl) (by kernel_rfl) (by kernel_rfl) (fun _ _ _ h => h) (Or.inl ⟨by kernel_rfl, ?_⟩) hS0 ?_
   rotate_left
   ·
    intro w' hS
    clear hS
    go_simp
    try with_reducible rfl
   refine AnyJ.takeD (i := 12) (d := some 15) (v := ?_) rfl (by kernel_rfl) (by kernel_rfl) (by kernel_rfl) (by kernel_rfl) (by kernel_rfl) (fun _ _ _ h => h) (Or.inl ⟨by kernel_rfl, ?_⟩) hS0 ?_
   rotate_left
   ·
    intro w' hS
    clear hS
    go_simp
    try with_reducible rfl
   refine AnyJ.one (i := 13) (by kernel_rfl) rfl (fun Kz hKz => ?_)
   go_simp
   refine (need_no _).mono ?_
   rintro e w1 ⟨rfl, hb1⟩
   (try simp only [Exit.inBlock, Exit.then])
   exact ⟨rfl, rfl, by (repeat' (first | (with_reducible first | exact Below.refl _ _ | assumption | exact Bw.out (by assumption) | refine bw_alloc ?_ _ | refine bw_step ?_ (by assumption) | refine Below.alloc ?_ ?_ _ | refine Below.drew ?_ | refine below_drewN ?_ _ | refine Below.setCell ?_ ?_ _ | refine below_step ?_ (by assumption) ?_ | exact Nat.le_refl _) | omega | (simp; omega) | (simp; done)))⟩
set_option maxRecDepth 100000 in
set_option maxHeartbeats 1600000 in
theorem if_any (a b c : Int) (ad : Option Addr) (cap : Nat) (w : World) (K : SlI w ad 3 [a, b, c]) (h0 : b ≠ 0) :
  Calls Try.prog 73 #[.slice ad 3 cap] w fun e w' => e = tyE (if a = 3 ∧ b = c then b else 0) ∧ Below w.heap.size w w' := by
 obtain ⟨g, off, rfl, hl, c0, c1, c2⟩ := K.three
 have C0 : CellAt w g off (.int .i64 a) := c0
 have C1 : CellAt w g (off + 1) (.int .i64 b) := c1
 have C2 : CellAt w g (off + 2) (.int .i64 c) := c2
 clear K
 by_cases h3 : a = 3
 ·
  subst h3
  by_cases hab : b = c
  ·
   subst hab
   rw [if_pos ⟨rfl, rfl⟩, tyE_yes h0]
   go_enter Try.func73, Try.ntmps73
   go_wp2_with fail
   refine AnyJ.beginP (fun w' : World => w'.cell? ⟨g, off, none⟩ = some (.int .i64 3) ∧ w'.cell? ⟨g, off + 1, none⟩ = some (.int .i64 b) ∧ w'.cell? ⟨g, off + 2, none⟩ = some (.int .i64 b)) (fun _ => true) (by kernel_rfl) ?_ (fun hS0 => ?_)
   ·
    exact (show ∀ (P S : World → Prop) (W : World), P W → (∀ w', P w' → S w') → S W from fun P S W h f => f W h) (fun w' : World => w'.cell? ⟨g, off, none⟩ = some (.int .i64 3) ∧ w'.cell? ⟨g, off + 1, none⟩ = some (.int .i64 b) ∧ w'.cell? ⟨g, off + 2, none⟩ = some (.int .i64 b)) (fun w' : World => w'.cell? ⟨g, off, none⟩ = some (.int .i64 3) ∧ w'.cell? ⟨g, off + 1, none⟩ = some (.int .i64 b) ∧ w'.cell? ⟨g, off + 2, none⟩ = some (.int .i64 b)) _ (⟨CellAt.out (by (repeat' (first | (with_reducible assumption) | (with_reducible refine CellAt.drew ?_) | (with_reducible refine CellAt.drewN ?_ _) | (with_reducible refine CellAt.alloc ?_ _) | (with_reducible refine CellAt.step ?_ (by with_reducible assumption))))), CellAt.out (by (repeat' (first | (with_reducible assumption) | (with_reducible refine CellAt.drew ?_) | (with_reducible refine CellAt.drewN ?_ _) | (with_reducible refine CellAt.alloc ?_ _) | (with_reducible refine CellAt.step ?_ (by with_reducible assumption))))), CellAt.out (by (repeat' (first | (with_reducible assumption) | (with_reducible refine CellAt.drew ?_) | (with_reducible refine CellAt.drewN ?_ _) | (with_reducible refine CellAt.alloc ?_ _) | (with_reducible refine CellAt.step ?_ (by with_reducible assumption)))))⟩) (fun w' ⟨hF0, hF1, hF2⟩ => ⟨hF0, hF1, hF2⟩)
   refine AnyJ.takeD (i := 0) (d := some 3) (v := ?_) rfl (by kernel_rfl) (by kernel_rfl) (by kernel_rfl) (by kernel_rfl) (by kernel_rfl) (fun _ _ _ h => h) (Or.inl ⟨by kernel_rfl, ?_⟩) hS0 ?_
   rotate_left
   ·
    intro w' hS
    clear hS
    go_simp
    try with_reducible rfl
   refine AnyJ.takeD (i := 1) (d := some 4) (v := ?_) rfl (by kernel_rfl) (by kernel_rfl) (by kernel_rfl) (by kernel_rfl) (by kernel_rfl) (fun _ _ _ h => h) (Or.inl ⟨by kernel_rfl, ?_⟩) hS0 ?_
   rotate_left
   ·
    intro w' hS
    clear hS
    go_simp
    try with_reducible rfl
   refine AnyJ.takeD (i := 2) (d := some 5) (v := ?_) rfl (by kernel_rfl) (by kernel_rfl) (by kernel_rfl) (by kernel_rfl) (by kernel_rfl) (fun _ _ _ h => h) (Or.inl ⟨by kernel_rfl, ?_⟩) hS0 ?_
   rotate_left
   ·
    intro w' hS
    obtain ⟨sF0, sF1, sF2⟩ := hS
    go_simp
    try with_reducible rfl
   refine AnyJ.takeD (i := 3) (d := some 6) (v := ?_) rfl (by kernel_rfl) (by kernel_rfl) (by kernel_rfl) (by kernel_rfl) (by kernel_rfl) (fun _ _ _ h => h) (Or.inl ⟨by kernel_rfl, ?_⟩) hS0 ?_
   rotate_left
   ·
    intro w' hS
    clear hS
    go_simp
    try with_reducible rfl
   refine AnyJ.takeD (i := 4) (d := some 7) (v := ?_) rfl (by kernel_rfl) (by kernel_rfl) (by kernel_rfl) (by kernel_rfl) (by kernel_rfl) (fun _ _ _ h => h) (Or.inl ⟨by kernel_rfl, ?_⟩) hS0 ?_
   rotate_left
   ·
    intro w' hS
    clear hS
    go_simp
    try with_reducible rfl
   refine AnyJ.takeD (i := 5) (d := some 8) (v := ?_) rfl (by kernel_rfl) (by kernel_rfl) (by kernel_rfl) (by kernel_rfl) (by kernel_rfl) (fun _ _ _ h => h) (Or.inl ⟨by kernel_rfl, ?_⟩) hS0 ?_
   rotate_left
   ·
    intro w' hS
    clear hS
    go_simp
    try with_reducible rfl
   refine AnyJ.takeD (i := 6) (d := some 9) (v := ?_) rfl (by kernel_rfl) (by kernel_rfl) (by kernel_rfl) (by kernel_rfl) (by kernel_rfl) (fun _ _ _ h => h) (Or.inl ⟨by kernel_rfl, ?_⟩) hS0 ?_
   rotate_left
   ·
    intro w' hS
    clear hS
    go_simp
    try with_reducible rfl
   refine AnyJ.takeD (i := 7) (d := some 10) (v := ?_) rfl (by kernel_rfl) (by kernel_rfl) (by kernel_rfl) (by kernel_rfl) (by kernel_rfl) (fun _ _ _ h => h) (Or.inl ⟨by kernel_rfl, ?_⟩) hS0 ?_
   rotate_left
   ·
    intro w' hS
    obtain ⟨sF0, sF1, sF2⟩ := hS
    go_simp
    try with_reducible rfl
   refine AnyJ.takeD (i := 8) (d := some 11) (v := ?_) rfl (by kernel_rfl) (by kernel_rfl) (by kernel_rfl) (by kernel_rfl) (by kernel_rfl) (fun _ _ _ h => h) (Or.inl ⟨by kernel_rfl, ?_⟩) hS0 ?_
   rotate_left
   ·
    intro w' hS
    clear hS
    go_simp
    try with_reducible rfl
   refine AnyJ.takeD (i := 9) (d := some 12) (v := ?_) rfl (by kernel_rfl) (by kernel_rfl) (by kernel_rfl) (by kernel_rfl) (by kernel_rfl) (fun _ _ _ h => h) (Or.inl ⟨by kernel_rfl, ?_⟩) hS0 ?_
   rotate_left
   ·
    intro w' hS
    clear hS
    go_simp
    try with_reducible rfl
   refine AnyJ.takeD (i := 10) (d := some 13) (v := ?_) rfl (by kernel_rfl) (by kernel_rfl) (by kernel_rfl) (by kernel_rfl) (by kernel_rfl) (fun _ _ _ h => h) (Or.inl ⟨by kernel_rfl, ?_⟩) hS0 ?_
   rotate_left
   ·
    intro w' hS
    obtain ⟨sF0, sF1, sF2⟩ := hS
    go_simp
    try with_reducible rfl
   refine AnyJ.takeD (i := 11) (d := some 14) (v := ?_) rfl (by kernel_rfl) (by kernel_rfl) (by kernel_rfl) (by kernel_rfl) (by kernel_rfl) (fun _ _ _ h => h) (Or.inl ⟨by kernel_rfl, ?_⟩) hS0 ?_
   rotate_left
   ·
    intro w' hS
    clear hS
    go_simp
    try with_reducible rfl
   refine AnyJ.takeD (i := 12) (d := some 15) (v := ?_) rfl (by kernel_rfl) (by kernel_rfl) (by kernel_rfl) (by kernel_rfl) (by kernel_rfl) (fun _ _ _ h => h) (Or.inl ⟨by kernel_rfl, ?_⟩) hS0 ?_
   rotate_left
   ·
    intro w' hS
    clear hS
    go_simp
    try with_reducible rfl
   refine AnyJ.one (i := 13) (by kernel_rfl) rfl (fun Kz hKz => ?_)
   go_simp
   refine (need_yes _).mono ?_
   rintro e w1 ⟨rfl, hb1⟩
   have HB1 : Below w.heap.size w w1 := by (repeat' (first | (with_reducible first | exact Below.refl _ _ | assumption | exact Bw.out (by assumption) | refine bw_alloc ?_ _ | refine bw_step ?_ (by assumption) | refine Below.alloc ?_ ?_ _ | refine Below.drew ?_ | refine below_drewN ?_ _ | refine Below.setCell ?_ ?_ _ | refine below_step ?_ (by assumption) ?_ | exact Nat.le_refl _) | omega | (simp; omega) | (simp; done)))
   have hz1 := HB1.size
   obtain ⟨sF0, sF1, sF2⟩ := hS0
   have hS1 : (fun w' : World => w'.cell? ⟨g, off, none⟩ = some (.int .i64 3) ∧ w'.cell? ⟨g, off + 1, none⟩ = some (.int .i64 b) ∧ w'.cell? ⟨g, off + 2, none⟩ = some (.int .i64 b)) w1 := ⟨(by first | exact (CellAt.step sF0 (by (repeat' (first | (with_reducible first | exact Below.refl _ _ | assumption | exact Bw.out (by assumption) | refine bw_alloc ?_ _ | refine bw_step ?_ (by assumption) | refine Below.alloc ?_ ?_ _ | refine Below.drew ?_ | refine below_drewN ?_ _ | refine Below.setCell ?_ ?_ _ | refine below_step ?_ (by assumption) ?_ | exact Nat.le_refl _) | omega | (simp; omega) | (simp; done))))).out | exact SlC.step sF0 (by (repeat' (first | (with_reducible first | exact Below.refl _ _ | assumption | exact Bw.out (by assumption) | refine bw_alloc ?_ _ | refine bw_step ?_ (by assumption) | refine Below.alloc ?_ ?_ _ | refine Below.drew ?_ | refine below_drewN ?_ _ | refine Below.setCell ?_ ?_ _ | refine below_step ?_ (by assumption) ?_ | exact Nat.le_refl _) | omega | (simp; omega) | (simp; done))))), (by first | exact (CellAt.step sF1 (by (repeat' (first | (with_reducible first | exact Below.refl _ _ | assumption | exact Bw.out (by assumption) | refine bw_alloc ?_ _ | refine bw_step ?_ (by assumption) | refine Below.alloc ?_ ?_ _ | refine Below.drew ?_ | refine below_drewN ?_ _ | refine Below.setCell ?_ ?_ _ | refine below_step ?_ (by assumption) ?_ | exact Nat.le_refl _) | omega | (simp; omega) | (simp; done))))).out | exact SlC.step sF1 (by (repeat' (first | (with_reducible first | exact Below.refl _ _ | assumption | exact Bw.out (by assumption) | refine bw_alloc ?_ _ | refine bw_step ?_ (by assumption) | refine Below.alloc ?_ ?_ _ | refine Below.drew ?_ | refine below_drewN ?_ _ | refine Below.setCell ?_ ?_ _ | refine below_step ?_ (by assumption) ?_ | exact Nat.le_refl _) | omega | (simp; omega) | (simp; done))))), (by first | exact (CellAt.step sF2 (by (repeat' (first | (with_reducible first | exact Below.refl _ _ | assumption | exact Bw.out (by assumption) | refine bw_alloc ?_ _ | refine bw_step ?_ (by assumption) | refine Below.alloc ?_ ?_ _ | refine Below.drew ?_ | refine below_drewN ?_ _ | refine Below.setCell ?_ ?_ _ | refine below_step ?_ (by assumption) ?_ | exact Nat.le_refl _) | omega | (simp; omega) | (simp; done))))).out | exact SlC.step sF2 (by (repeat' (first | (with_reducible first | exact Below.refl _ _ | assumption | exact Bw.out (by assumption) | refine bw_alloc ?_ _ | refine bw_step ?_ (by assumption) | refine Below.alloc ?_ ?_ _ | refine Below.drew ?_ | refine below_drewN ?_ _ | refine Below.setCell ?_ ?_ _ | refine below_step ?_ (by assumption) ?_ | exact Nat.le_refl _) | omega | (simp; omega) | (simp; done)))))⟩
   clear sF0 sF1 sF2
   refine hKz _ _ (fun _ => hS1) ?_
   clear hKz Kz
   refine AnyJ.done (by kernel_rfl) ?_ _
   clear hS1
   try simp only [Act.put, List.setIfInBounds_toArray, List.set_cons_zero, List.set_cons_succ]
   have c9 := (C1.drew.step hb1).out
   go_wp2_with fail
   go_ret
   exact ⟨rfl, by (repeat' (first | (with_reducible first | exact Below.refl _ _ | assumption | exact Bw.out (by assumption) | refine bw_alloc ?_ _ | refine bw_step ?_ (by assumption) | refine Below.alloc ?_ ?_ _ | refine Below.drew ?_ | refine below_drewN ?_ _ | refine Below.setCell ?_ ?_ _ | refine below_step ?_ (by assumption) ?_ | exact Nat.le_refl _) | omega | (simp; omega) | (simp; done)))⟩
  ·
   have hab' : (b == c) = false := by simpa using hab
   rw [if_neg (by simp [hab]), tyE_no]
   clear hab
   go_enter Try.func73, Try.ntmps73
   go_wp2_with fail
   refine AnyJ.beginP (fun w' : World => w'.cell? ⟨g, off, none⟩ = some (.int .i64 3) ∧ w'.cell? ⟨g, off + 1, none⟩ = some (.int .i64 b) ∧ w'.cell? ⟨g, off + 2, none⟩ = some (.int .i64 c)) (fun _ => true) (by kernel_rfl) ?_ (fun hS0 => ?_)
   ·
    exact (show ∀ (P S : World → Prop) (W : World), P W → (∀ w', P w' → S w') → S W from fun P S W h f => f W h) (fun w' : World => w'.cell? ⟨g, off, none⟩ = some (.int .i64 3) ∧ w'.cell? ⟨g, off + 1, none⟩ = some (.int .i64 b) ∧ w'.cell? ⟨g, off + 2, none⟩ = some (.int .i64 c)) (fun w' : World => w'.cell? ⟨g, off, none⟩ = some (.int .i64 3) ∧ w'.cell? ⟨g, off + 1, none⟩ = some (.int .i64 b) ∧ w'.cell? ⟨g, off + 2, none⟩ = some (.int .i64 c)) _ (⟨CellAt.out (by (repeat' (first | (with_reducible assumption) | (with_reducible refine CellAt.drew ?_) | (with_reducible refine CellAt.drewN ?_ _) | (with_reducible refine CellAt.alloc ?_ _) | (with_reducible refine CellAt.step ?_ (by with_reducible assumption))))), CellAt.out (by (repeat' (first | (with_reducible assumption) | (with_reducible refine CellAt.drew ?_) | (with_reducible refine CellAt.drewN ?_ _) | (with_reducible refine CellAt.alloc ?_ _) | (with_reducible refine CellAt.step ?_ (by with_reducible assumption))))), CellAt.out (by (repeat' (first | (with_reducible assumption) | (with_reducible refine CellAt.drew ?_) | (with_reducible refine CellAt.drewN ?_ _) | (with_reducible refine CellAt.alloc ?_ _) | (with_reducible refine CellAt.step ?_ (by with_reducible assumption)))))⟩) (fun w' ⟨hF0, hF1, hF2⟩ => ⟨hF0, hF1, hF2⟩)
   refine AnyJ.takeD (i := 0) (d := some 3) (v := ?_) rfl (by kernel_rfl) (by kernel_rfl) (by kernel_rfl) (by kernel_rfl) (by kernel_rfl) (fun _ _ _ h => h) (Or.inl ⟨by kernel_rfl, ?_⟩) hS0 ?_
   rotate_left
   ·
    intro w' hS
    clear hS
    go_simp
    try with_reducible rfl
   refine AnyJ.takeD (i := 1) (d := some 4) (v := ?_) rfl (by kernel_rfl) (by kernel_rfl) (by kernel_rfl) (by kernel_rfl) (by kernel_rfl) (fun _ _ _ h => h) (Or.inl ⟨by kernel_rfl, ?_⟩) hS0 ?_
   rotate_left
   ·
    intro w' hS
    clear hS
    go_simp
    try with_reducible rfl
   refine AnyJ.takeD (i := 2) (d := some 5) (v := ?_) rfl (by kernel_rfl) (by kernel_rfl) (by kernel_rfl) (by kernel_rfl) (by kernel_rfl) (fun _ _ _ h => h) (Or.inl ⟨by kernel_rfl, ?_⟩) hS0 ?_
   rotate_left
   ·
    intro w' hS
    obtain ⟨sF0, sF1, sF2⟩ := hS
    go_simp
    try with_reducible rfl
   refine AnyJ.takeD (i := 3) (d := some 6) (v := ?_) rfl (by kernel_rfl) (by kernel_rfl) (by kernel_rfl) (by kernel_rfl) (by kernel_rfl) (fun _ _ _ h => h) (Or.inl ⟨by kernel_rfl, ?_⟩) hS0 ?_
   rotate_left
   ·
    intro w' hS
    clear hS
    go_simp
    try with_reducible rfl
   refine AnyJ.takeD (i := 4) (d := some 7) (v := ?_) rfl (by kernel_rfl) (by kernel_rfl) (by kernel_rfl) (by kernel_rfl) (by kernel_rfl) (fun _ _ _ h => h) (Or.inl ⟨by kernel_rfl, ?_⟩) hS0 ?_
   rotate_left
   ·
    intro w' hS
    clear hS
    go_simp
    try with_reducible rfl
   refine AnyJ.takeD (i := 5) (d := some 8) (v := ?_) rfl (by kernel_rfl) (by kernel_rfl) (by kernel_rfl) (by kernel_rfl) (by kernel_rfl) (fun _ _ _ h => h) (Or.inl ⟨by kernel_rfl, ?_⟩) hS0 ?_
   rotate_left
   ·
    intro w' hS
    clear hS
    go_simp
    try with_reducible rfl
   refine AnyJ.takeD (i := 6) (d := some 9) (v := ?_) rfl (by kernel_rfl) (by kernel_rfl) (by kernel_rfl) (by kernel_rfl) (by kernel_rfl) (fun _ _ _ h => h) (Or.inl ⟨by kernel_rfl, ?_⟩) hS0 ?_
   rotate_left
   ·
    intro w' hS
    clear hS
    go_simp
    try with_reducible rfl
   refine AnyJ.takeD (i := 7) (d := some 10) (v := ?_) rfl (by kernel_rfl) (by kernel_rfl) (by kernel_rfl) (by kernel_rfl) (by kernel_rfl) (fun _ _ _ h => h) (Or.inl ⟨by kernel_rfl, ?_⟩) hS0 ?_
   rotate_left
   ·
    intro w' hS
    obtain ⟨sF0, sF1, sF2⟩ := hS
    go_simp
    try with_reducible rfl
   refine AnyJ.takeD (i := 8) (d := some 11) (v := ?_) rfl (by kernel_rfl) (by kernel_rfl) (by kernel_rfl) (by kernel_rfl) (by kernel_rfl) (fun _ _ _ h => h) (Or.inl ⟨by kernel_rfl, ?_⟩) hS0 ?_
   rotate_left
   ·
    intro w' hS
    clear hS
    go_simp
    try with_reducible rfl
   refine AnyJ.takeD (i := 9) (d := some 12) (v := ?_) rfl (by kernel_rfl) (by kernel_rfl) (by kernel_rfl) (by kernel_rfl) (by kernel_rfl) (fun _ _ _ h => h) (Or.inl ⟨by kernel_rfl, ?_⟩) hS0 ?_
   rotate_left
   ·
    intro w' hS
    clear hS
    go_simp
    try with_reducible rfl
   refine AnyJ.takeD (i := 10) (d := some 13) (v := ?_) rfl (by kernel_rfl) (by kernel_rfl) (by kernel_rfl) (by kernel_rfl) (by kernel_rfl) (fun _ _ _ h => h) (Or.inl ⟨by kernel_rfl, ?_⟩) hS0 ?_
   rotate_left
   ·
    intro w' hS
    obtain ⟨sF0, sF1, sF2⟩ := hS
    go_simp
    try with_reducible rfl
   refine AnyJ.takeD (i := 11) (d := some 14) (v := ?_) rfl (by kernel_rfl) (by kernel_rfl) (by kernel_rfl) (by kernel_rfl) (by kernel_rfl) (fun _ _ _ h => h) (Or.inl ⟨by kernel_rfl, ?_⟩) hS0 ?_
   rotate_left
   ·
    intro w' hS
    clear hS
    go_simp
    try with_reducible rfl
   refine AnyJ.takeD (i := 12) (d := some 15) (v := ?_) rfl (by kernel_rfl) (by kernel_rfl) (by kernel_rfl) (by kernel_rfl) (by kernel_rfl) (fun _ _ _ h => h) (Or.inl ⟨by kernel_rfl, ?_⟩) hS0 ?_
   rotate_left
   ·
    intro w' hS
    clear hS
    go_simp
    try with_reducible rfl
   refine AnyJ.one (i := 13) (by kernel_rfl) rfl (fun Kz hKz => ?_)
   go_simp
   refine (need_no _).mono ?_
   rintro e w1 ⟨rfl, hb1⟩
   (try simp only [Exit.inBlock, Exit.then])
   exact ⟨rfl, rfl, by (repeat' (first | (with_reducible first | exact Below.refl _ _ | assumption | exact Bw.out (by assumption) | refine bw_alloc ?_ _ | refine bw_step ?_ (by assumption) | refine Below.alloc ?_ ?_ _ | refine Below.drew ?_ | refine below_drewN ?_ _ | refine Below.setCell ?_ ?_ _ | refine below_step ?_ (by assumption) ?_ | exact Nat.le_refl _) | omega | (simp; omega) | (simp; done)))⟩
 ·
  have h3' : (a == 3) = false := by simpa using h3
  rw [if_neg (by simp [h3]), tyE_no]
  clear h3
  go_enter Try.func73, Try.ntmps73
  go_wp2_with fail
  refine AnyJ.beginP (fun w' : World => w'.cell? ⟨g, off, none⟩ = some (.int .i64 a) ∧ w'.cell? ⟨g, off + 1, none⟩ = some (.int .i64 b)) (fun _ => true) (by kernel_rfl) ?_ (fun hS0 => ?_)
  ·
   exact (show ∀ (P S : World → Prop) (W : World), P W → (∀ w', P w' → S w') → S W from fun P S W h f => f W h) (fun w' : World => w'.cell? ⟨g, off, none⟩ = some (.int .i64 a) ∧ w'.cell? ⟨g, off + 1, none⟩ = some (.int .i64 b)) (fun w' : World => w'.cell? ⟨g, off, none⟩ = some (.int .i64 a) ∧ w'.cell? ⟨g, off + 1, none⟩ = some (.int .i64 b)) _ (⟨CellAt.out (by (repeat' (first | (with_reducible assumption) | (with_reducible refine CellAt.drew ?_) | (with_reducible refine CellAt.drewN ?_ _) | (with_reducible refine CellAt.alloc ?_ _) | (with_reducible refine CellAt.step ?_ (by with_reducible assumption))))), CellAt.out (by (repeat' (first | (with_reducible assumption) | (with_reducible refine CellAt.drew ?_) | (with_reducible refine CellAt.drewN ?_ _) | (with_reducible refine CellAt.alloc ?_ _) | (with_reducible refine CellAt.step ?_ (by with_reducible assumption)))))⟩) (fun w' ⟨hF0, hF1⟩ => ⟨hF0, hF1⟩)
  refine AnyJ.takeD (i := 0) (d := some 3) (v := ?_) rfl (by kernel_rfl) (by kernel_rfl) (by kernel_rfl) (by kernel_rfl) (by kernel_rfl) (fun _ _ _ h => h) (Or.inl ⟨by kernel_rfl, ?_⟩) hS0 ?_
  rotate_left
  ·
   intro w' hS
   clear hS
   go_simp
   try with_reducible rfl
  refine AnyJ.takeD (i := 1) (d := some 4) (v := ?_) rfl (by kernel_rfl) (by kernel_rfl) (by kernel_rfl) (by kernel_rfl) (by kernel_rfl) (fun _ _ _ h => h) (Or.inl ⟨by kernel_rfl, ?_⟩) hS0 ?_
  rotate_left
  ·
   intro w' hS
   clear hS
   go_simp
   try with_reducible rfl
  refine AnyJ.takeD (i := 2) (d := some 5) (v := ?_) rfl (by kernel_rfl) (by kernel_rfl) (by kernel_rfl) (by kernel_rfl) (by kernel_rfl) (fun _ _ _ h => h) (Or.inl ⟨by kernel_rfl, ?_⟩) hS0 ?_
  rotate_left
  ·
   intro w' hS
   obtain ⟨sF0, sF1⟩ := hS
   go_simp
   try with_reducible rfl
  refine AnyJ.takeD (i := 3) (d := some 6) (v := ?_) rfl (by kernel_rfl) (by kernel_rfl) (by kernel_rfl) (by kernel_rfl) (by kernel_rfl) (fun _ _ _ h => h) (Or.inl ⟨by kernel_rfl, ?_⟩) hS0 ?_
  rotate_left
  ·
   intro w' hS
   clear hS
   go_simp
   try with_reducible rfl
  refine AnyJ.takeD (i := 4) (d := some 7) (v := ?_) rfl (by kernel_rfl) (by kernel_rfl) (by kernel_rfl) (by kernel_rfl) (by kernel_rfl) (fun _ _ _ h => h) (Or.inl ⟨by kernel_rfl, ?_⟩) hS0 ?_
  rotate_left
  ·
   intro w' hS
   clear hS
   go_simp
   try with_reducible rfl
  refine AnyJ.takeD (i := 5) (d := some 8) (v := undef) rfl (by kernel_rfl) (by kernel_rfl) (by kernel_rfl) (by kernel_rfl) (by kernel_rfl) (fun _ _ _ h => h) (Or.inr ⟨by kernel_rfl, rfl⟩) hS0 ?_
  refine AnyJ.takeD (i := 6) (d := some 9) (v := undef) rfl (by kernel_rfl) (by kernel_rfl) (by kernel_rfl) (by kernel_rfl) (by kernel_rfl) (fun _ _ _ h => h) (Or.inr ⟨by kernel_rfl, rfl⟩) hS0 ?_
  refine AnyJ.takeD (i := 7) (d := some 10) (v := undef) rfl (by kernel_rfl) (by kernel_rfl) (by kernel_rfl) (by kernel_rfl) (by kernel_rfl) (fun _ _ _ h => h) (Or.inr ⟨by kernel_rfl, rfl⟩) hS0 ?_
  refine AnyJ.takeD (i := 8) (d := some 11) (v := undef) rfl (by kernel_rfl) (by kernel_rfl) (by kernel_rfl) (by kernel_rfl) (by kernel_rfl) (fun _ _ _ h => h) (Or.inr ⟨by kernel_rfl, rfl⟩) hS0 ?_
  refine AnyJ.takeD (i := 9) (d := some 12) (v := undef) rfl (by kernel_rfl) (by kernel_rfl) (by kernel_rfl) (by kernel_rfl) (by kernel_rfl) (fun _ _ _ h => h) (Or.inr ⟨by kernel_rfl, rfl⟩) hS0 ?_
  refine AnyJ.takeD (i := 10) (d := some 13) (v := undef) rfl (by kernel_rfl) (by kernel_rfl) (by kernel_rfl) (by kernel_rfl) (by kernel_rfl) (fun _ _ _ h => h) (Or.inr ⟨by kernel_rfl, rfl⟩) hS0 ?_
  refine AnyJ.takeD (i := 11) (d := some 14) (v := undef) rfl (by kernel_rfl) (by kernel_rfl) (by kernel_rfl) (by kernel_rfl) (by kernel_rfl) (fun _ _ _ h => h) (Or.inr ⟨by kernel_rfl, rfl⟩) hS0 ?_
  refine AnyJ.takeD (i := 12) (d := some 15) (v := ?_) rfl (by kernel_rfl) (by kernel_rfl) (by kernel_rfl) (by kernel_rfl) (by kernel_rfl) (fun _ _ _ h => h) (Or.inl ⟨by kernel_rfl, ?_⟩) hS0 ?_
  rotate_left
  ·
   intro w' hS
   clear hS
   go_simp
   try with_reducible rfl
  refine AnyJ.one (i := 13) (by kernel_rfl) rfl (fun Kz hKz => ?_)
  go_simp
  refine (need_no _).mono ?_
  rintro e w1 ⟨rfl, hb1⟩
  (try simp only [Exit.inBlock, Exit.then])
  exact ⟨rfl, rfl, by (repeat' (first | (with_reducible first | exact Below.refl _ _ | assumption | exact Bw.out (by assumption) | refine bw_alloc ?_ _ | refine bw_step ?_ (by assumption) | refine Below.alloc ?_ ?_ _ | refine Below.drew ?_ | refine below_drewN ?_ _ | refine Below.setCell ?_ ?_ _ | refine below_step ?_ (by assumption) ?_ | exact Nat.le_refl _) | omega | (simp; omega) | (simp; done)))⟩
set_option maxHeartbeats 1600000 in
theorem div_any (a b : Int) (ad : Option Addr) (cap : Nat) (w : World) (K : SlI w ad 2 [a, b]) (h0 : a ≠ 0) :
  Calls Try.prog 72 #[.slice ad 2 cap] w fun e w' => e = tyE (if b = 1 ∧ a ≠ 3 then a else 0) ∧ Below w.heap.size w w' := by
 obtain ⟨g, off, rfl, hl, c0, c1⟩ := K.two
 have C0 : CellAt w g off (.int .i64 a) := c0
 clear K
 by_cases h3 : a = 3
 ·
  subst h3
  rw [if_neg (by simp), tyE_no]
  go_enter Try.func72, Try.ntmps72
  go_wp2_with fail
  refine (need_no _).mono ?_
  rintro e w1 ⟨rfl, hb1⟩
  (try simp only [Exit.inBlock, Exit.then])
  exact ⟨rfl, rfl, by (repeat' (first | (with_reducible first | exact Below.refl _ _ | assumption | exact Bw.out (by assumption) | refine bw_alloc ?_ _ | refine bw_step ?_ (by assumption) | refine Below.alloc ?_ ?_ _ | refine Below.drew ?_ | refine below_drewN ?_ _ | refine Below.setCell ?_ ?_ _ | refine below_step ?_ (by assumption) ?_ | exact Nat.le_refl _) | omega | (simp; omega) | (simp; done)))⟩
 ·
  have h3' : (a != 3) = true := by simpa using h3
  by_cases hb : b = 1
  ·
   subst hb
   rw [if_pos ⟨rfl, h3⟩, tyE_yes h0]
   clear h3
   go_enter Try.func72, Try.ntmps72
   go_wp2_with fail
   refine (need_yes _).mono ?_
   rintro e w1 ⟨rfl, hb1⟩
   have c9 := (C0.step hb1).out
   go_wp2_with fail
   go_ret
   exact ⟨rfl, by (repeat' (first | (with_reducible first | exact Below.refl _ _ | assumption | exact Bw.out (by assumption) | refine bw_alloc ?_ _ | refine bw_step ?_ (by assumption) | refine Below.alloc ?_ ?_ _ | refine Below.drew ?_ | refine below_drewN ?_ _ | refine Below.setCell ?_ ?_ _ | refine below_step ?_ (by assumption) ?_ | exact Nat.le_refl _) | omega | (simp; omega) | (simp; done)))⟩
  ·
   have hb' : (b == 1) = false := by simpa using hb
   rw [if_neg (by simp [hb]), tyE_no]
   clear h3 hb
   go_enter Try.func72, Try.ntmps72
   go_wp2_with fail
   refine (need_no _).mono ?_
   rintro e w1 ⟨rfl, hb1⟩
   (try simp only [Exit.inBlock, Exit.then])
   exact ⟨rfl, rfl, by (repeat' (first | (with_reducible first | exact Below.refl _ _ | assumption | exact Bw.out (by assumption) | refine bw_alloc ?_ _ | refine bw_step ?_ (by assumption) | refine Below.alloc ?_ ?_ _ | refine Below.drew ?_ | refine below_drewN ?_ _ | refine Below.setCell ?_ ?_ _ | refine below_step ?_ (by assumption) ?_ | exact Nat.le_refl _) | omega | (simp; omega) | (simp; done)))⟩
set_option maxHeartbeats 1600000 in
theorem compare_any (a b : Int) (ad : Option Addr) (cap : Nat) (w : World) (K : SlI w ad 2 [a, b]) (h0 : a ≠ 0) :
  Calls Try.prog 65 #[.slice ad 2 cap] w fun e w' => e = tyE (if a = b ∧ a ≠ 3 then 3 else 0) ∧ Below w.heap.size w w' := by
 by_cases h : a = b ∧ a ≠ 3
 ·
  rw [if_pos h, tyE_yes (by decide)]
  have HC : Hid (tyE (if a = b ∧ a ≠ 3 then a else 0) = .returned (.int .i64 a)) := by show _ = _; rw [if_pos h, tyE_yes h0]
  clear h
  go_enter Try.func65, Try.ntmps65
  go_wp2_with fail
  refine (alike_any a b ad cap _ K h0).mono ?_
  rintro e w1 ⟨rfl, hb1⟩
  rw [HC.out]
  go_wp2_with fail
  go_ret
  exact ⟨rfl, by (repeat' (first | (with_reducible first | exact Below.refl _ _ | assumption | exact Bw.out (by assumption) | refine bw_alloc ?_ _ | refine bw_step ?_ (by assumption) | refine Below.alloc ?_ ?_ _ | refine Below.drew ?_ | refine below_drewN ?_ _ | refine Below.setCell ?_ ?_ _ | refine below_step ?_ (by assumption) ?_ | exact Nat.le_refl _) | omega | (simp; omega) | (simp; done)))⟩
 ·
  rw [if_neg h, tyE_no]
  have HC : Hid (tyE (if a = b ∧ a ≠ 3 then a else 0) = tyE 0) := by show _ = _; rw [if_neg h]
  clear h
  go_enter Try.func65, Try.ntmps65
  go_wp2_with fail
  refine (alike_any a b ad cap _ K h0).mono ?_
  rintro e w1 ⟨rfl, hb1⟩
  rw [HC.out, tyE_no]
  (try simp only [Exit.inBlock, Exit.then])
  exact ⟨rfl, rfl, by (repeat' (first | (with_reducible first | exact Below.refl _ _ | assumption | exact Bw.out (by assumption) | refine bw_alloc ?_ _ | refine bw_step ?_ (by assumption) | refine Below.alloc ?_ ?_ _ | refine Below.drew ?_ | refine below_drewN ?_ _ | refine Below.setCell ?_ ?_ _ | refine below_step ?_ (by assumption) ?_ | exact Nat.le_refl _) | omega | (simp; omega) | (simp; done)))⟩
set_option maxHeartbeats 1600000 in
theorem truths_any (ts : List Int) (ad : Option Addr) (n cap : Nat) (w : World) (K : SlI w ad n ts) (hn : n ≤ 1000) :
  Calls Try.prog 68 #[.slice ad n cap] w fun e w' => e = tyE (if ts.all (fun t => decide (t = 3)) = true then 3 else 0) ∧ Below w.heap.size w w' := by
 obtain ⟨R, hR⟩ : ∃ R, (if ts.all (fun t => decide (t = 3)) = true then (3 : Int) else 0) = R := ⟨_, rfl⟩
 rw [hR]
 have HR := Lib.hid hR
 have HK := Lib.hid K
 have HL := Lib.hid K.1
 clear hR K
 go_enter Try.func68, Try.ntmps68
 go_wp2_with fail
 go_loopw [4, 7] (fun _ i wr => ∃ k : Nat, k ≤ n ∧ i = .int .i64 k ∧ Hid (R = if (ts.drop k).all (fun t => decide (t = 3)) = true then (3 : Int) else 0) ∧ Hid (Below w.heap.size w wr)) (fun _ i _ => n - (intOf i).toNat)
 case atStart => exact ⟨0, Nat.zero_le _, rfl, HR.out.symm, Below.refl _ _⟩
 case round =>
  obtain ⟨k, hk, rfl, hrk, hB⟩ := hrel
  have hB' := hB.out
  by_cases hlt : k < n
  ·
   obtain ⟨b, off, z, rfl, hb, c0, _, hd, _⟩ := (HK.out.below hB').get hlt
   by_cases hz : z = 3
   ·
    subst hz
    go_wp2_with fail
    refine (need_yes _).mono ?_
    rintro e w1 ⟨rfl, hb1⟩
    have hB2 : Below w.heap.size w w1 := by (repeat' (first | (with_reducible first | exact Below.refl _ _ | assumption | exact Bw.out (by assumption) | refine bw_alloc ?_ _ | refine bw_step ?_ (by assumption) | refine Below.alloc ?_ ?_ _ | refine Below.drew ?_ | refine below_drewN ?_ _ | refine Below.setCell ?_ ?_ _ | refine below_step ?_ (by assumption) ?_ | exact Nat.le_refl _) | omega | (simp; omega) | (simp; done)))
    go_wp2_with fail
    go_roundw
    case rel => exact ⟨k + 1, by omega, by go_num, by show R = _; rw [hrk.out, hd.out]; simp, hB2⟩
    case measure => simp [intOf]; omega
   ·
    have hz' : (z == 3) = false := by simpa using hz
    have hr : R = 0 := by rw [hrk.out, hd.out]; simp [hz]
    subst hr
    clear hz
    go_wp2_with fail
    refine (need_no _).mono ?_
    rintro e w1 ⟨rfl, hb1⟩
    (try simp only [Exit.inBlock, Exit.then])
    exact ⟨rfl, rfl, by (repeat' (first | (with_reducible first | exact Below.refl _ _ | assumption | exact Bw.out (by assumption) | refine bw_alloc ?_ _ | refine bw_step ?_ (by assumption) | refine Below.alloc ?_ ?_ _ | refine Below.drew ?_ | refine below_drewN ?_ _ | refine Below.setCell ?_ ?_ _ | refine below_step ?_ (by assumption) ?_ | exact Nat.le_refl _) | omega | (simp; omega) | (simp; done)))⟩
  ·
   obtain rfl : k = n := by omega
   have hr : R = 3 := by rw [hrk.out, List.drop_of_length_le (by have := HL.out; omega)]; rfl
   subst hr
   go_wp2_with fail
   go_ret
   exact ⟨rfl, hB'⟩
set_option maxHeartbeats 1600000 in
theorem index_int (zs : List Int) (x : Int) (ad : Option Addr) (n cap : Nat) (w : World) (K : SlI w ad n zs) (hn : n ≤ 1000) :
  Calls Try.prog 93 #[.slice ad n cap, .int .i64 x] w fun e w' => e = .returned (.int .i64 (Lib.idxOf zs x)) ∧ w = w' := by
 have HK := Lib.hid K
 have HL := Lib.hid K.1
 obtain ⟨R, hR⟩ : ∃ R, Lib.idxOf zs x = R := ⟨_, rfl⟩
 rw [hR]
 have HR := Lib.hid hR
 clear hR K
 go_enter Try.func93, Try.ntmps93
 go_wp2_with fail
 go_loop [5, 8] (fun _ i => ∃ k : Nat, k ≤ n ∧ i = .int .i64 k ∧ Hid (∀ j, j < k → zs.getD j 0 ≠ x)) (fun _ i => n - (intOf i).toNat)
 case atStart => exact ⟨0, Nat.zero_le _, rfl, fun j hj => absurd hj (Nat.not_lt_zero _)⟩
 case round =>
  obtain ⟨k, hk, rfl, hne⟩ := hrel
  by_cases hlt : k < n
  ·
   obtain ⟨b, off, z, rfl, hb, c0, hg, _, _⟩ := HK.out.get hlt
   by_cases hz : x = z
   ·
    subst hz
    have hr : R = (k : Int) := by
     rw [← HR.out]
     have := Lib.idxOf_hit zs n k x hlt (by have := HL.out; omega) hg.out hne.out
     rwa [List.take_of_length_le (by have := HL.out; omega)] at this
    subst hr
    go_wp2_with fail
    go_ret
    exact ⟨rfl, rfl⟩
   ·
    have hz' : (x == z) = false := by simpa using hz
    have HZ := Lib.hid hz
    clear hz
    go_wp2_with fail
    go_round
    case rel => exact ⟨k + 1, by omega, by go_num, fun j hj => by
     by_cases e : j = k
     ·
      subst e; rw [hg.out]; exact fun e => HZ.out e.symm
     ·
      exact hne.out j (by omega)⟩
    case measure => simp [intOf]; omega
  ·
   obtain rfl : k = n := by omega
   have hr : R = -1 := by
    rw [← HR.out]
    have := Lib.idxOf_miss zs k x hne.out
    rwa [List.take_of_length_le (by have := HL.out; omega)] at this
   subst hr
   go_wp2_with fail
   go_ret
   exact ⟨rfl, rfl⟩
set_option maxHeartbeats 1600000 in
theorem contains_int (zs : List Int) (x : Int) (ad : Option Addr) (n cap : Nat) (w : World) (K : SlI w ad n zs) (hn : n ≤ 1000) :
  Calls Try.prog 71 #[.slice ad n cap, .int .i64 x] w fun e w' => e = .returned (.bool (zs.contains x)) ∧ w = w' := by
 have hb : zs.contains x = decide (0 ≤ Lib.idxOf zs x) := by
  rw [Bool.eq_iff_iff, decide_eq_true_eq, Lib.idxOf_nonneg_iff]
 rw [hb]
 clear hb
 go_enter Try.func71, Try.ntmps71
 go_wp2_with (go_at_call 93; refine (index_int zs x ad n cap _ K hn).mono ?_; rintro e w' ⟨rfl, rfl⟩)
 go_ret
 exact ⟨rfl, rfl⟩
def mulT (a b : Int) : Int := if a = 1 ∧ b = 1 then 1 else if a = 2 ∧ b = 1 ∨ a = 1 ∧ b = 2 then 2 else 0
set_option maxHeartbeats 1600000 in
theorem mul_any (a b : Int) (ad : Option Addr) (cap : Nat) (w : World) (K : SlI w ad 2 [a, b]) (ha : 1 ≤ a ∧ a ≤ 3) (hb : 1 ≤ b ∧ b ≤ 3) :
  Calls Try.prog 69 #[.slice ad 2 cap] w fun e w' => e = tyE (mulT a b) ∧ Below w.heap.size w w' := by
 cases h3 : [a, b].contains 3 with
 | true =>
  have hz : mulT a b = 0 := by
   unfold mulT
   simp at h3
   rw [if_neg (by omega), if_neg (by omega)]
  rw [hz, tyE_no]
  have H3 := Lib.hid h3
  clear h3 hz
  cases h1 : [a, b].contains 1 with
  | true =>
   have H1 := Lib.hid h1
   clear h1
   go_enter Try.func69, Try.ntmps69
   go_wp2_with (go_at_call 71; refine (contains_int [a, b] _ _ _ _ _ K (by omega)).mono ?_; rintro e w' ⟨rfl, rfl⟩; first | rw [H3.out] | rw [H1.out])
   refine (need_no _).mono ?_
   rintro e w1 ⟨rfl, hb1⟩
   (try simp only [Exit.inBlock, Exit.then])
   exact ⟨rfl, rfl, by (repeat' (first | (with_reducible first | exact Below.refl _ _ | assumption | exact Bw.out (by assumption) | refine bw_alloc ?_ _ | refine bw_step ?_ (by assumption) | refine Below.alloc ?_ ?_ _ | refine Below.drew ?_ | refine below_drewN ?_ _ | refine Below.setCell ?_ ?_ _ | refine below_step ?_ (by assumption) ?_ | exact Nat.le_refl _) | omega | (simp; omega) | (simp; done)))⟩
  | false =>
   have H1 := Lib.hid h1
   clear h1
   go_enter Try.func69, Try.ntmps69
   go_wp2_with (go_at_call 71; refine (contains_int [a, b] _ _ _ _ _ K (by omega)).mono ?_; rintro e w' ⟨rfl, rfl⟩; first | rw [H3.out] | rw [H1.out])
   refine (need_no _).mono ?_
   rintro e w1 ⟨rfl, hb1⟩
   (try simp only [Exit.inBlock, Exit.then])
   exact ⟨rfl, rfl, by (repeat' (first | (with_reducible first | exact Below.refl _ _ | assumption | exact Bw.out (by assumption) | refine bw_alloc ?_ _ | refine bw_step ?_ (by assumption) | refine Below.alloc ?_ ?_ _ | refine Below.drew ?_ | refine below_drewN ?_ _ | refine Below.setCell ?_ ?_ _ | refine below_step ?_ (by assumption) ?_ | exact Nat.le_refl _) | omega | (simp; omega) | (simp; done)))⟩
 | false =>
  have H3 := Lib.hid h3
  cases h1 : [a, b].contains 1 with
  | false =>
   have hz : mulT a b = 0 := by
    unfold mulT
    simp at h1
    rw [if_neg (by omega), if_neg (by omega)]
   rw [hz, tyE_no]
   have H1 := Lib.hid h1
   clear h1 h3 hz
   go_enter Try.func69, Try.ntmps69
   go_wp2_with (go_at_call 71; refine (contains_int [a, b] _ _ _ _ _ K (by omega)).mono ?_; rintro e w' ⟨rfl, rfl⟩; first | rw [H3.out] | rw [H1.out])
   refine (need_no _).mono ?_
   rintro e w1 ⟨rfl, hb1⟩
   (try simp only [Exit.inBlock, Exit.then])
   exact ⟨rfl, rfl, by (repeat' (first | (with_reducible first | exact Below.refl _ _ | assumption | exact Bw.out (by assumption) | refine bw_alloc ?_ _ | refine bw_step ?_ (by assumption) | refine Below.alloc ?_ ?_ _ | refine Below.drew ?_ | refine below_drewN ?_ _ | refine Below.setCell ?_ ?_ _ | refine below_step ?_ (by assumption) ?_ | exact Nat.le_refl _) | omega | (simp; omega) | (simp; done)))⟩
  | true =>
   have H1 := Lib.hid h1
   have hab : (a = 1 ∧ b = 1) ∨ (a = 1 ∧ b = 2) ∨ (a = 2 ∧ b = 1) := by
    simp at h1 h3
    omega
   clear h1 h3
   rcases hab with ⟨rfl, rfl⟩ | ⟨rfl, rfl⟩ | ⟨rfl, rfl⟩
   ·
    rw [show mulT 1 1 = 1 by decide, tyE_yes (by decide)]
    obtain ⟨g, off, rfl, hl, c0, c1⟩ := K.two
    have C0 : CellAt w g off (.int .i64 1) := c0
    have C1 : CellAt w g (off + 1) (.int .i64 1) := c1
    go_enter Try.func69, Try.ntmps69
    go_wp2_with (go_at_call 71; refine (contains_int [1, 1] _ _ _ _ _ K (by omega)).mono ?_; rintro e w' ⟨rfl, rfl⟩; first | rw [H3.out] | rw [H1.out])
    refine (need_yes _).mono ?_
    rintro e w1 ⟨rfl, hb1⟩
    have c9 := (C0.step hb1).out
    have d9 := (C1.step hb1).out
    go_wp2_with fail
    go_quiet (fail)
    go_wp2_with fail
    go_ret
    exact ⟨rfl, by (repeat' (first | (with_reducible first | exact Below.refl _ _ | assumption | exact Bw.out (by assumption) | refine bw_alloc ?_ _ | refine bw_step ?_ (by assumption) | refine Below.alloc ?_ ?_ _ | refine Below.drew ?_ | refine below_drewN ?_ _ | refine Below.setCell ?_ ?_ _ | refine below_step ?_ (by assumption) ?_ | exact Nat.le_refl _) | omega | (simp; omega) | (simp; done)))⟩
   ·
    rw [show mulT 1 2 = 2 by decide, tyE_yes (by decide)]
    obtain ⟨g, off, rfl, hl, c0, c1⟩ := K.two
    have C0 : CellAt w g off (.int .i64 1) := c0
    have C1 : CellAt w g (off + 1) (.int .i64 2) := c1
    go_enter Try.func69, Try.ntmps69
    go_wp2_with (go_at_call 71; refine (contains_int [1, 2] _ _ _ _ _ K (by omega)).mono ?_; rintro e w' ⟨rfl, rfl⟩; first | rw [H3.out] | rw [H1.out])
    refine (need_yes _).mono ?_
    rintro e w1 ⟨rfl, hb1⟩
    have c9 := (C0.step hb1).out
    have d9 := (C1.step hb1).out
    go_wp2_with fail
    go_quiet (fail)
    go_wp2_with fail
    go_ret
    exact ⟨rfl, by (repeat' (first | (with_reducible first | exact Below.refl _ _ | assumption | exact Bw.out (by assumption) | refine bw_alloc ?_ _ | refine bw_step ?_ (by assumption) | refine Below.alloc ?_ ?_ _ | refine Below.drew ?_ | refine below_drewN ?_ _ | refine Below.setCell ?_ ?_ _ | refine below_step ?_ (by assumption) ?_ | exact Nat.le_refl _) | omega | (simp; omega) | (simp; done)))⟩
   ·
    rw [show mulT 2 1 = 2 by decide, tyE_yes (by decide)]
    obtain ⟨g, off, rfl, hl, c0, c1⟩ := K.two
    have C0 : CellAt w g off (.int .i64 2) := c0
    have C1 : CellAt w g (off + 1) (.int .i64 1) := c1
    go_enter Try.func69, Try.ntmps69
    go_wp2_with (go_at_call 71; refine (contains_int [2, 1] _ _ _ _ _ K (by omega)).mono ?_; rintro e w' ⟨rfl, rfl⟩; first | rw [H3.out] | rw [H1.out])
    refine (need_yes _).mono ?_
    rintro e w1 ⟨rfl, hb1⟩
    have c9 := (C0.step hb1).out
    have d9 := (C1.step hb1).out
    go_wp2_with fail
    go_quiet (fail)
    go_wp2_with fail
    go_ret
    exact ⟨rfl, by (repeat' (first | (with_reducible first | exact Below.refl _ _ | assumption | exact Bw.out (by assumption) | refine bw_alloc ?_ _ | refine bw_step ?_ (by assumption) | refine Below.alloc ?_ ?_ _ | refine Below.drew ?_ | refine below_drewN ?_ _ | refine Below.setCell ?_ ?_ _ | refine below_step ?_ (by assumption) ?_ | exact Nat.le_refl _) | omega | (simp; omega) | (simp; done)))⟩
end Go.Proofs.Ytcmodmchnokmgaa
