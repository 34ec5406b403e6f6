/-
 The walks of packages span and rooms: which spans, which rooms are well-formed.
-/
import Derived.Test.YtlmajlfhjbhdpaaGreatZB
import Derived.Test.YtlmajlfhjbhdpaaGreatBase2
namespace Go.Proofs.YtlmajlfhjbhdpaaGreat
set_option linter.unusedSimpArgs false
set_option linter.unusedVariables false
open Go.RowKit
set_option maxHeartbeats 800000 in
theorem rwithin_p (n lo hi : Int) (p : Bool) (hp : inZ n lo hi = p) (w : World) :
  Calls Tryz.prog 60 #[.int .i64 n, .int .i64 lo, .int .i64 hi] w fun e w' => e = .returned (.bool p) ∧ Below w.heap.size w w' := by
 subst hp
 by_cases h : lo ≤ n
 ·
  have e : inZ n lo hi = decide (n ≤ hi) := by unfold inZ; simp [h]
  rw [e]
  go_enter Tryz.func60, Tryz.ntmps60
  go_wp2_with fail
  go_ret
  exact ⟨rfl, Below.refl _ _⟩
 ·
  have e : inZ n lo hi = false := by unfold inZ; simp [h]
  rw [e]
  go_enter Tryz.func60, Tryz.ntmps60
  go_wp2_with fail
  go_ret
  exact ⟨rfl, Below.refl _ _⟩
set_option maxHeartbeats 800000 in
theorem swithin_p (n lo hi : Int) (p : Bool) (hp : inZ n lo hi = p) (w : World) :
  Calls Tryz.prog 56 #[.int .i64 n, .int .i64 lo, .int .i64 hi] w fun e w' => e = .returned (.bool p) ∧ Below w.heap.size w w' := by
 subst hp
 by_cases h : lo ≤ n
 ·
  have e : inZ n lo hi = decide (n ≤ hi) := by unfold inZ; simp [h]
  rw [e]
  go_enter Tryz.func56, Tryz.ntmps56
  go_wp2_with fail
  go_ret
  exact ⟨rfl, Below.refl _ _⟩
 ·
  have e : inZ n lo hi = false := by unfold inZ; simp [h]
  rw [e]
  go_enter Tryz.func56, Tryz.ntmps56
  go_wp2_with fail
  go_ret
  exact ⟨rfl, Below.refl _ _⟩
set_option maxHeartbeats 800000 in
theorem spwrong_p (f u : Int) (p : Bool) (hp : spanB (f, u) = p) (w : World) :
  Calls Tryz.prog 74 #[.agg #[.int .i64 f, .int .i64 u]] w fun e w' => e = .returned (.bool (!p)) ∧ Below w.heap.size w w' := by
 subst hp
 by_cases h1 : f < 0
 ·
  have e : spanB (f, u) = false := by unfold spanB; simp; omega
  rw [e]
  go_enter Tryz.func74, Tryz.ntmps74
  go_wp2_with fail
  go_ret
  refine ⟨(by first | rfl | exact ret_bool (by first | rfl | (simp; done) | (simp; omega))), ?_⟩
  (repeat' (first | (with_reducible first | exact Below.refl _ _ | assumption | exact Bw.out (by assumption) | refine bw_alloc ?_ _ | refine bw_step ?_ (by assumption) | refine Below.alloc ?_ ?_ _ | refine Below.drew ?_ | refine below_drewN ?_ _ | refine Below.setCell ?_ ?_ _ | refine below_step ?_ (by assumption) ?_ | exact Nat.le_refl _) | omega | (simp; omega) | (simp; done)))
 by_cases h2 : u ≤ f
 ·
  have e : spanB (f, u) = false := by unfold spanB; simp; omega
  rw [e]
  go_enter Tryz.func74, Tryz.ntmps74
  go_wp2_with fail
  go_ret
  refine ⟨(by first | rfl | exact ret_bool (by first | rfl | (simp; done) | (simp; omega))), ?_⟩
  (repeat' (first | (with_reducible first | exact Below.refl _ _ | assumption | exact Bw.out (by assumption) | refine bw_alloc ?_ _ | refine bw_step ?_ (by assumption) | refine Below.alloc ?_ ?_ _ | refine Below.drew ?_ | refine below_drewN ?_ _ | refine Below.setCell ?_ ?_ _ | refine below_step ?_ (by assumption) ?_ | exact Nat.le_refl _) | omega | (simp; omega) | (simp; done)))
 by_cases h3 : 1000000000 < u
 ·
  have e : spanB (f, u) = false := by unfold spanB; simp [h3]
  rw [e]
  go_enter Tryz.func74, Tryz.ntmps74
  go_wp2_with fail
  go_ret
  refine ⟨(by first | rfl | exact ret_bool (by first | rfl | (simp; done) | (simp; omega))), ?_⟩
  (repeat' (first | (with_reducible first | exact Below.refl _ _ | assumption | exact Bw.out (by assumption) | refine bw_alloc ?_ _ | refine bw_step ?_ (by assumption) | refine Below.alloc ?_ ?_ _ | refine Below.drew ?_ | refine below_drewN ?_ _ | refine Below.setCell ?_ ?_ _ | refine below_step ?_ (by assumption) ?_ | exact Nat.le_refl _) | omega | (simp; omega) | (simp; done)))
 ·
  have e : spanB (f, u) = true := by unfold spanB; simp; omega
  rw [e]
  go_enter Tryz.func74, Tryz.ntmps74
  go_wp2_with fail
  go_ret
  refine ⟨(by first | rfl | exact ret_bool (by first | rfl | (simp; done) | (simp; omega))), ?_⟩
  (repeat' (first | (with_reducible first | exact Below.refl _ _ | assumption | exact Bw.out (by assumption) | refine bw_alloc ?_ _ | refine bw_step ?_ (by assumption) | refine Below.alloc ?_ ?_ _ | refine Below.drew ?_ | refine below_drewN ?_ _ | refine Below.setCell ?_ ?_ _ | refine below_step ?_ (by assumption) ?_ | exact Nat.le_refl _) | omega | (simp; omega) | (simp; done)))
/-- A set of spans, from one of them on. -/
theorem spansB_step {l : List (Int × Int)} {k : Nat} {f u la : Int} (h : l[k]? = some (f, u)) : spansB la (l.drop k) = ((spanB (f, u) && decide (la < f)) && spansB u (l.drop (k + 1))) := by
 obtain ⟨hk, e⟩ := List.getElem?_eq_some_iff.1 h
 rw [List.drop_eq_getElem_cons hk, e]
 rfl
set_option maxRecDepth 100000 in
set_option maxHeartbeats 1600000 in
theorem spValid_any (a : Option Addr) (n cap : Nat) (l : List (Int × Int)) (w : World) (hm : n ≤ 9223372036854775807) (hs : SlG spE w a n l) (R : Bool) (hR : validS l = R) :
  Calls Tryz.prog 61 #[.slice a n cap] w fun e w' => e = .returned (.bool R) ∧ Below w.heap.size w w' := by
 have HS := Lib.hid hs
 have HL := Lib.hid hs.1
 have HR := Lib.hid hR
 clear hs hR
 go_enter Tryz.func61, Tryz.ntmps61
 go_wp2_with fail
 go_loopw [3, 5, 8] (fun vl _ i wr => ∃ (k : Nat) (la : Int), k ≤ n ∧ i = .int .i64 k ∧ vl = .int .i64 la ∧ Hid (spansB (-1) l = spansB la (l.drop k)) ∧ Hid (Below w.heap.size w wr)) (fun _ _ i _ => n - (intOf i).toNat)
 case atStart => exact ⟨0, -1, Nat.zero_le _, rfl, rfl, rfl, Below.refl _ _⟩
 case round =>
  obtain ⟨k, la, hk, rfl, rfl, hT, hB⟩ := hrel
  by_cases hkn : k < n
  ·
   obtain ⟨f, u, b, off, hx, rfl, hlb, x0, x1⟩ := slS_get (HS.out.step hB.out) hkn
   have HX := Lib.hid (spansB_step (la := la) hx.out)
   obtain ⟨p, hp⟩ : ∃ p, spanB (f, u) = p := ⟨_, rfl⟩
   have HP := Lib.hid hp
   clear hp
   go_wp2_with fail
   have hal : Below wr.heap.size wr (wr.alloc (.cells #[.int .i64 f, .int .i64 u] 83)) := (Below.refl _ _).alloc (Nat.le_refl _) _
   have RR : Row (wr.alloc (.cells #[.int .i64 f, .int .i64 u] 83)) wr.heap.size [.int .i64 f, .int .i64 u] := Row.new' _ _ _ rfl
   refine (spwrong_p f u p HP.out _).mono ?_
   rintro e w2 ⟨rfl, hb2⟩
   have R2 := RR.step hb2
   have hb3 := hal.trans (hb2.mono hal.size)
   have HB2 : Hid (Below w.heap.size w w2) := hB.out.trans (hb3.mono hB.out.size)
   clear hb2 hb3 hal RR x0 x1
   have c0 := R2.cell 0 rfl
   have c1 := R2.cell 1 rfl
   have cl := R2.lt
   by_cases hok : p = true ∧ la < f
   ·
    obtain ⟨rfl, hlf⟩ := hok
    have HT2 : Hid (spansB (-1) l = spansB u (l.drop (k + 1))) := by show _ = _; rw [hT.out, HX.out, HP.out, decide_eq_true hlf]; rfl
    go_wp2_with fail
    go_roundw
    case rel => exact ⟨k + 1, u, by omega, by go_num, rfl, HT2, HB2⟩
    case measure => simp [intOf]; omega
   ·
    have hr : R = false := by
     rw [← HR.out]
     unfold validS
     rw [hT.out, HX.out, HP.out]
     cases p with
     | false => rfl
     | true => rw [decide_eq_false (fun h => hok ⟨rfl, h⟩)]; rfl
    subst hr
    clear HR
    cases p with
    | false =>
     clear hok
     go_wp2_with fail
     go_ret
     exact ⟨rfl, HB2.out⟩
    | true =>
     have hlf : f ≤ la := by have : ¬ la < f := fun h => hok ⟨rfl, h⟩; omega
     clear hok
     go_wp2_with fail
     go_ret
     exact ⟨rfl, HB2.out⟩
  ·
   obtain rfl : k = n := by omega
   have hr : R = decide ((k : Int) ≤ 1000) := by
    rw [← HR.out]
    unfold validS
    rw [hT.out, List.drop_of_length_le (by rw [HL.out]; omega), HL.out]
    simp [spansB]
    omega
   subst hr
   clear HR
   go_wp2_with fail
   go_ret
   refine ⟨?_, hB.out⟩
   first | rfl | simp
end Go.Proofs.YtlmajlfhjbhdpaaGreat
