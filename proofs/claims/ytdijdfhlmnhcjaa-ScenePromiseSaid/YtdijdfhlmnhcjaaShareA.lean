/-
  The walks of package share, first part: within, areShares, right, Valid.
-/
import Derived.Test.YtdijdfhlmnhcjaaRows
import Derived.Test.YtdijdfhlmnhcjaaSlice
import Derived.Deep.LoopGhost
namespace Go.Proofs.Ytdijdfhlmnhcjaa
set_option linter.unusedSimpArgs false
set_option linter.unusedVariables false
open Go.RowKit

/-- Not from 0 to most. -/
def outB (most n : Int) : Bool := decide (n < 0) || decide (most < n)
theorem outB_true {most n : Int} (h : ¬ (0 ≤ n ∧ n ≤ most)) : outB most n = true := by simp [outB]; omega
theorem outB_false {most n : Int} (h : 0 ≤ n ∧ n ≤ most) : outB most n = false := by simp [outB]; omega

set_option maxHeartbeats 400000 in
theorem within1_any (n most : Int) (B : Nat) (w : World) (hc : w.cell? ⟨B, 0, none⟩ = some (.int .i64 most)) :
    Calls Try.prog 61 #[.int .i64 n, .pointer (some ⟨B, 0, none⟩)] w fun e w' => e = .returned (.bool (outB most n)) ∧ w = w' := by
  by_cases h1 : n < 0
  · rw [outB_true (by omega)]
    go_enter Try.func61, Try.ntmps61
    go_wp2
    go_ret
    exact ⟨rfl, rfl⟩
  · by_cases h2 : most < n
    · rw [outB_true (by omega)]
      go_enter Try.func61, Try.ntmps61
      go_wp2
      go_ret
      exact ⟨by first | rfl | (simp [h2]; done) | (simp; omega), rfl⟩
    · rw [outB_false (by omega)]
      go_enter Try.func61, Try.ntmps61
      go_wp2
      go_ret
      exact ⟨by first | rfl | (simp; done) | (simp; omega), rfl⟩

/-- Where the first one lies for which p holds. -/
def idxB (p : Int → Bool) : List Int → Nat → Int
  | [], _ => -1
  | z :: r, k => if p z then (k : Int) else idxB p r (k + 1)
theorem idxB_none {p : Int → Bool} : ∀ {l : List Int} {k : Nat}, l.any p = false → idxB p l k = -1
  | [], _, _ => rfl
  | z :: r, k, h => by
    simp only [List.any_cons, Bool.or_eq_false_iff] at h
    simp [idxB, h.1, idxB_none h.2]
theorem idxB_some {p : Int → Bool} : ∀ {l : List Int} {k : Nat}, l.any p = true → 0 ≤ idxB p l k
  | [], _, h => by simp at h
  | z :: r, k, h => by
    by_cases hz : p z = true
    · simp [idxB, hz]
    · have h2 : r.any p = true := by simpa [hz] using h
      simp [idxB, hz]
      exact idxB_some h2

set_option maxHeartbeats 800000 in
theorem index_within (a : Option Addr) (n cap : Nat) (zs : List Int) (most : Int) (B : Nat) (w : World) (hm : n ≤ 9223372036854775807)
    (hs : SlI w a n zs) (hc : w.cell? ⟨B, 0, none⟩ = some (.int .i64 most)) :
    Calls Try.prog 59 #[.slice a n cap, .func (.func 61) #[] #[.pointer (some ⟨B, 0, none⟩)]] w
      fun e w' => e = .returned (.int .i64 (idxB (outB most) zs 0)) ∧ w = w' := by
  obtain ⟨R, hR⟩ : ∃ R, R = idxB (outB most) zs 0 := ⟨_, rfl⟩
  rw [← hR]
  have HR := Lib.hid hR
  have hl := hs.1
  have HS := Lib.hid hs
  clear hR hs
  go_enter Try.func59, Try.ntmps59
  go_wp2_with fail
  go_loop [8] (fun i => ∃ k : Nat, k ≤ n ∧ i = .int .i64 k ∧ Hid (R = idxB (outB most) (zs.drop k) k)) (fun i => n - (intOf i).toNat)
  case atStart => exact ⟨0, Nat.zero_le _, rfl, HR⟩
  case round =>
    obtain ⟨k, hk, rfl, hrk⟩ := hrel
    by_cases hlt : k < n
    · obtain ⟨b, off, z, rfl, hb, hck, hz, hd, _⟩ := HS.out.get hlt
      cases hp : outB most z with
      | true =>
        go_wp2_with (go_at_call 61; refine (within1_any _ _ _ _ hc).mono ?_; rintro e w' ⟨rfl, rfl⟩)
        go_ret
        exact ⟨ret_int (by rw [hrk.out, hd.out]; simp [idxB, hp]), rfl⟩
      | false =>
        go_wp2_with (go_at_call 61; refine (within1_any _ _ _ _ hc).mono ?_; rintro e w' ⟨rfl, rfl⟩)
        go_round
        case rel => exact ⟨k + 1, by omega, by go_num, by show R = _; rw [hrk.out, hd.out]; simp [idxB, hp]⟩
        case measure => simp [intOf]; omega
    · obtain rfl : k = n := by omega
      go_wp2_with fail
      go_ret
      exact ⟨ret_int (by rw [hrk.out, List.drop_of_length_le (by omega)]; rfl), rfl⟩

set_option maxHeartbeats 400000 in
theorem contains_within (a : Option Addr) (n cap : Nat) (zs : List Int) (most : Int) (B : Nat) (w : World) (hm : n ≤ 9223372036854775807)
    (hs : SlI w a n zs) (hc : w.cell? ⟨B, 0, none⟩ = some (.int .i64 most)) :
    Calls Try.prog 37 #[.slice a n cap, .func (.func 61) #[] #[.pointer (some ⟨B, 0, none⟩)]] w
      fun e w' => e = .returned (.bool (zs.any (outB most))) ∧ w = w' := by
  cases hy : zs.any (outB most) with
  | true =>
    have h0 := idxB_some (k := 0) hy
    have HS := Lib.hid hs
    clear hs hy
    go_enter Try.func37, Try.ntmps37
    go_wp2_with (go_at_call 59; refine (index_within _ _ _ zs most B _ hm HS.out hc).mono ?_; rintro e w' ⟨rfl, rfl⟩)
    go_ret
    exact ⟨ret_bool (by simp), rfl⟩
  | false =>
    have h0 := Lib.hid (idxB_none (k := 0) hy)
    have HS := Lib.hid hs
    clear hs hy
    go_enter Try.func37, Try.ntmps37
    go_wp2_with (go_at_call 59; refine (index_within _ _ _ zs most B _ hm HS.out hc).mono ?_; rintro e w' ⟨rfl, rfl⟩; rw [h0.out])
    go_ret
    exact ⟨rfl, rfl⟩

set_option maxHeartbeats 400000 in
theorem within_any (a : Option Addr) (n cap : Nat) (zs : List Int) (most : Int) (w : World) (hm : n ≤ 9223372036854775807) (hs : SlI w a n zs) :
    Calls Try.prog 43 #[.int .i64 most, .slice a n cap] w
      fun e w' => e = .returned (.bool (!zs.any (outB most))) ∧ Below w.heap.size w w' := by
  have HS := Lib.hid (hs.below ((Below.refl _ w).alloc (Nat.le_refl _) (.cells #[.int .i64 most] 3)))
  clear hs
  go_enter Try.func43, Try.ntmps43
  go_wp2_with (go_at_call 37; refine (contains_within _ _ _ zs most _ _ hm HS.out (by simp)).mono ?_; rintro e w' ⟨rfl, rfl⟩)
  go_ret
  refine ⟨rfl, ?_⟩
  (repeat' (first | (with_reducible exact Below.refl _ _) | (with_reducible assumption) | (with_reducible exact Bw.out (by with_reducible assumption)) | (with_reducible refine bw_alloc ?_ _) | (with_reducible refine bw_step ?_ (by with_reducible assumption)) | (with_reducible refine Below.alloc ?_ ?_ _) | (with_reducible refine Below.drew ?_) | (with_reducible refine below_drewN ?_ _) | (with_reducible refine Below.setCell ?_ ?_ _) | (with_reducible refine below_step ?_ (by with_reducible assumption) ?_) | (with_reducible exact Nat.le_refl _) | omega | (simp; omega) | (simp; done)))

/-- Are the shares what they must be? -/
def sharesB (zs : List Int) : Bool := decide (zs.length ≤ 30) && !zs.any (outB 400)
def nightB (rooms sold : Int) (zs : List Int) : Bool := sharesB zs && !outB 400 rooms && !outB 1000 sold

set_option maxHeartbeats 400000 in
theorem areShares_any (a : Option Addr) (n cap : Nat) (zs : List Int) (w : World) (hm : n ≤ 9223372036854775807) (hs : SlI w a n zs) :
    Calls Try.prog 42 #[.slice a n cap] w
      fun e w' => e = .returned (.bool (sharesB zs)) ∧ Below w.heap.size w w' := by
  have hl := hs.1
  have HS := Lib.hid hs
  clear hs
  by_cases h : n ≤ 30
  · have e : sharesB zs = !zs.any (outB 400) := by unfold sharesB; simp [hl, h]
    rw [e]
    clear e
    go_enter Try.func42, Try.ntmps42
    go_wp2_with (go_at_call 43; refine (within_any _ _ _ zs 400 _ hm HS.out).mono ?_; rintro e w1 ⟨rfl, hb1⟩)
    go_ret
    refine ⟨rfl, ?_⟩
    (repeat' (first | (with_reducible exact Below.refl _ _) | (with_reducible assumption) | (with_reducible exact Bw.out (by with_reducible assumption)) | (with_reducible refine bw_alloc ?_ _) | (with_reducible refine bw_step ?_ (by with_reducible assumption)) | (with_reducible refine Below.alloc ?_ ?_ _) | (with_reducible refine Below.drew ?_) | (with_reducible refine below_drewN ?_ _) | (with_reducible refine Below.setCell ?_ ?_ _) | (with_reducible refine below_step ?_ (by with_reducible assumption) ?_) | (with_reducible exact Nat.le_refl _) | omega | (simp; omega) | (simp; done)))
  · have e : sharesB zs = false := by unfold sharesB; simp [hl, h]
    rw [e]
    clear e
    go_enter Try.func42, Try.ntmps42
    go_wp2_with fail
    go_ret
    refine ⟨rfl, ?_⟩
    (repeat' (first | (with_reducible exact Below.refl _ _) | (with_reducible assumption) | (with_reducible exact Bw.out (by with_reducible assumption)) | (with_reducible refine bw_alloc ?_ _) | (with_reducible refine bw_step ?_ (by with_reducible assumption)) | (with_reducible refine Below.alloc ?_ ?_ _) | (with_reducible refine Below.drew ?_) | (with_reducible refine below_drewN ?_ _) | (with_reducible refine Below.setCell ?_ ?_ _) | (with_reducible refine below_step ?_ (by with_reducible assumption) ?_) | (with_reducible exact Nat.le_refl _) | omega | (simp; omega) | (simp; done)))

theorem within_one (most n : Int) (B : Nat) (w : World) (h : Row w B [.int .i64 n]) :
    Calls Try.prog 43 #[.int .i64 most, .slice (some ⟨B, 0, none⟩) 1 1] w
      fun e w' => e = .returned (.bool (!outB most n)) ∧ Below w.heap.size w w' := by
  have k := within_any (some ⟨B, 0, none⟩) 1 1 [n] most w (by omega) (SlI.row (rest := []) (by simpa using h) rfl)
  simpa using k

set_option maxHeartbeats 800000 in
theorem right_any (rooms sold : Int) (a : Option Addr) (n cap : Nat) (zs : List Int) (w : World) (hm : n ≤ 9223372036854775807) (hs : SlI w a n zs) :
    Calls Try.prog 57 #[.agg #[.int .i64 rooms, .int .i64 sold, .slice a n cap]] w
      fun e w' => e = .returned (.bool (nightB rooms sold zs)) ∧ Below w.heap.size w w' := by
  have HS := Lib.hid (hs.below ((Below.refl _ w).alloc (Nat.le_refl _) (.cells #[.int .i64 rooms, .int .i64 sold, .slice a n cap] 89)))
  clear hs
  unfold nightB
  go_enter Try.func57, Try.ntmps57
  go_wp2_with fail
  refine (areShares_any _ _ _ zs _ hm HS.out).mono ?_
  rintro e w1 ⟨rfl, hb1⟩
  have R1 : Row w1 w.heap.size [.int .i64 rooms, .int .i64 sold, .slice a n cap] := by (repeat' (first | (with_reducible assumption) | (with_reducible refine Row.new' _ _ _ (by first | rfl | (simp; done) | omega)) | (with_reducible refine Row.alloc ?_ _) | (with_reducible refine Row.drew ?_) | (with_reducible refine Row.drewN ?_ _) | (with_reducible refine Row.step ?_ (by with_reducible assumption))))
  have c0 := R1.cell 0 rfl
  have c1 := R1.cell 1 rfl
  have l1 := R1.lt
  cases h1 : sharesB zs with
  | false =>
    go_wp2_with fail
    go_ret
    refine ⟨ret_bool (by simp [h1]), ?_⟩
    (repeat' (first | (with_reducible exact Below.refl _ _) | (with_reducible assumption) | (with_reducible exact Bw.out (by with_reducible assumption)) | (with_reducible refine bw_alloc ?_ _) | (with_reducible refine bw_step ?_ (by with_reducible assumption)) | (with_reducible refine Below.alloc ?_ ?_ _) | (with_reducible refine Below.drew ?_) | (with_reducible refine below_drewN ?_ _) | (with_reducible refine Below.setCell ?_ ?_ _) | (with_reducible refine below_step ?_ (by with_reducible assumption) ?_) | (with_reducible exact Nat.le_refl _) | omega | (simp; omega) | (simp; done)))
  | true =>
    go_wp2_with fail
    refine (within_one 400 rooms _ _ (by (repeat' (first | (with_reducible assumption) | (with_reducible refine Row.new' _ _ _ (by first | rfl | (simp; done) | omega)) | (with_reducible refine Row.alloc ?_ _) | (with_reducible refine Row.drew ?_) | (with_reducible refine Row.drewN ?_ _) | (with_reducible refine Row.step ?_ (by with_reducible assumption)))))).mono ?_
    rintro e w2 ⟨rfl, hb2⟩
    have R2 : Row w2 w.heap.size [.int .i64 rooms, .int .i64 sold, .slice a n cap] := by (repeat' (first | (with_reducible assumption) | (with_reducible refine Row.new' _ _ _ (by first | rfl | (simp; done) | omega)) | (with_reducible refine Row.alloc ?_ _) | (with_reducible refine Row.drew ?_) | (with_reducible refine Row.drewN ?_ _) | (with_reducible refine Row.step ?_ (by with_reducible assumption))))
    have c3 := R2.cell 1 rfl
    have l2 := R2.lt
    cases h2 : outB 400 rooms with
    | true =>
      go_wp2_with fail
      go_ret
      refine ⟨ret_bool (by simp [h2]), ?_⟩
      (repeat' (first | (with_reducible exact Below.refl _ _) | (with_reducible assumption) | (with_reducible exact Bw.out (by with_reducible assumption)) | (with_reducible refine bw_alloc ?_ _) | (with_reducible refine bw_step ?_ (by with_reducible assumption)) | (with_reducible refine Below.alloc ?_ ?_ _) | (with_reducible refine Below.drew ?_) | (with_reducible refine below_drewN ?_ _) | (with_reducible refine Below.setCell ?_ ?_ _) | (with_reducible refine below_step ?_ (by with_reducible assumption) ?_) | (with_reducible exact Nat.le_refl _) | omega | (simp; omega) | (simp; done)))
    | false =>
      go_wp2_with fail
      refine (within_one 1000 sold _ _ (by (repeat' (first | (with_reducible assumption) | (with_reducible refine Row.new' _ _ _ (by first | rfl | (simp; done) | omega)) | (with_reducible refine Row.alloc ?_ _) | (with_reducible refine Row.drew ?_) | (with_reducible refine Row.drewN ?_ _) | (with_reducible refine Row.step ?_ (by with_reducible assumption)))))).mono ?_
      rintro e w3 ⟨rfl, hb3⟩
      go_wp2_with fail
      go_ret
      refine ⟨ret_bool (by simp [h1, h2]), ?_⟩
      (repeat' (first | (with_reducible exact Below.refl _ _) | (with_reducible assumption) | (with_reducible exact Bw.out (by with_reducible assumption)) | (with_reducible refine bw_alloc ?_ _) | (with_reducible refine bw_step ?_ (by with_reducible assumption)) | (with_reducible refine Below.alloc ?_ ?_ _) | (with_reducible refine Below.drew ?_) | (with_reducible refine below_drewN ?_ _) | (with_reducible refine Below.setCell ?_ ?_ _) | (with_reducible refine below_step ?_ (by with_reducible assumption) ?_) | (with_reducible exact Nat.le_refl _) | omega | (simp; omega) | (simp; done)))

end Go.Proofs.Ytdijdfhlmnhcjaa
