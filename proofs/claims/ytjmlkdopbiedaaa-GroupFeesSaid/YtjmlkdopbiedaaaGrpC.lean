/-
  The walk of group.Valid.
-/
import Derived.Test.YtjmlkdopbiedaaaGrpB
import Derived.Test.YtjmlkdopbiedaaaCell
import Derived.Test.YtjmlkdopbiedaaaHeldQ
import Derived.Deep.RegionHeld3
import Derived.Deep.DeepCutAuto
namespace Go.Proofs.Ytjmlkdopbiedaaa
set_option linter.unusedSimpArgs false
set_option linter.unusedVariables false
open Go.RowKit

set_option maxHeartbeats 400000 in
theorem g_valid1 (z rooms : Int) (P : Nat) (w : World) (hc : w.cell? ⟨P, 2, none⟩ = some (.int .i64 rooms)) :
    Calls Try.prog 33 #[.int .i64 z, .pointer (some ⟨P, 0, none⟩)] w fun e w' => e = .returned (.bool (!inR z 0 rooms)) ∧ w = w' := by
  go_enter Try.func33, Try.ntmps33
  go_wp2_with fail
  refine (g_within _ _ _ _).mono ?_
  rintro e w' ⟨rfl, rfl⟩
  go_wp2_with fail
  go_ret
  exact ⟨rfl, rfl⟩

def outR (rooms z : Int) : Bool := !inR z 0 rooms
/-- Where the first one lies for which p holds. -/
def idxB (p : Int → Bool) : List Int → Nat → Int
  | [], _ => -1
  | z :: r, k => if p z then (k : Int) else idxB p r (k + 1)
theorem idxB_none {p : Int → Bool} : ∀ {l : List Int} {k : Nat}, l.any p = false → idxB p l k = -1
  | [], _, _ => rfl
  | z :: r, k, h => by
    simp only [List.any_cons, Bool.or_eq_false_iff] at h
    simp [idxB, h.1, idxB_none h.2]
theorem idxB_some {p : Int → Bool} : ∀ {l : List Int} {k : Nat}, l.any p = true → 0 ≤ idxB p l k
  | [], _, h => by simp at h
  | z :: r, k, h => by
    by_cases hz : p z = true
    · simp [idxB, hz]
    · have h2 : r.any p = true := by simpa [hz] using h
      simp [idxB, hz]
      exact idxB_some h2

set_option maxHeartbeats 800000 in
theorem g_index (a : Option Addr) (n cap : Nat) (zs : List Int) (rooms : Int) (P : Nat) (w : World) (hm : n ≤ 9223372036854775807)
    (hs : SlI w a n zs) (hc : w.cell? ⟨P, 2, none⟩ = some (.int .i64 rooms)) :
    Calls Try.prog 40 #[.slice a n cap, .func (.func 33) #[] #[.pointer (some ⟨P, 0, none⟩)]] w
      fun e w' => e = .returned (.int .i64 (idxB (outR rooms) zs 0)) ∧ w = w' := by
  obtain ⟨R, hR⟩ : ∃ R, R = idxB (outR rooms) zs 0 := ⟨_, rfl⟩
  rw [← hR]
  have HR := Lib.hid hR
  have hl := hs.1
  have HS := Lib.hid hs
  clear hR hs
  go_enter Try.func40, Try.ntmps40
  go_wp2_with fail
  go_loop [8] (fun i => ∃ k : Nat, k ≤ n ∧ i = .int .i64 k ∧ Hid (R = idxB (outR rooms) (zs.drop k) k)) (fun i => n - (intOf i).toNat)
  case atStart => exact ⟨0, Nat.zero_le _, rfl, HR⟩
  case round =>
    obtain ⟨k, hk, rfl, hrk⟩ := hrel
    by_cases hlt : k < n
    · obtain ⟨b, off, z, rfl, hb, hck, hz, hd, _⟩ := HS.out.get hlt
      cases hp : inR z 0 rooms with
      | false =>
        go_wp2_with (go_at_call 33; refine (g_valid1 _ _ _ _ hc).mono ?_; rintro e w' ⟨rfl, rfl⟩)
        go_ret
        exact ⟨ret_int (by rw [hrk.out, hd.out]; simp [idxB, outR, hp]), rfl⟩
      | true =>
        go_wp2_with (go_at_call 33; refine (g_valid1 _ _ _ _ hc).mono ?_; rintro e w' ⟨rfl, rfl⟩)
        go_round
        case rel => exact ⟨k + 1, by omega, by go_num, by show R = _; rw [hrk.out, hd.out]; simp [idxB, outR, hp]⟩
        case measure => simp [intOf]; omega
    · obtain rfl : k = n := by omega
      go_wp2_with fail
      go_ret
      exact ⟨ret_int (by rw [hrk.out, List.drop_of_length_le (by omega)]; rfl), rfl⟩

theorem picksB_any (rooms : Int) (zs : List Int) : picksB rooms zs = !zs.any (outR rooms) := by
  unfold picksB outR
  induction zs with
  | nil => rfl
  | cons z r ih => simp [ih]

set_option maxHeartbeats 400000 in
theorem g_contains (a : Option Addr) (n cap : Nat) (zs : List Int) (rooms : Int) (P : Nat) (w : World) (hm : n ≤ 9223372036854775807)
    (hs : SlI w a n zs) (hc : w.cell? ⟨P, 2, none⟩ = some (.int .i64 rooms)) :
    Calls Try.prog 32 #[.slice a n cap, .func (.func 33) #[] #[.pointer (some ⟨P, 0, none⟩)]] w
      fun e w' => e = .returned (.bool (!picksB rooms zs)) ∧ w = w' := by
  rw [picksB_any, Bool.not_not]
  cases hy : zs.any (outR rooms) with
  | true =>
    have h0 := idxB_some (k := 0) hy
    have HS := Lib.hid hs
    clear hs hy
    go_enter Try.func32, Try.ntmps32
    go_wp2_with (go_at_call 40; refine (g_index _ _ _ zs rooms P _ hm HS.out hc).mono ?_; rintro e w' ⟨rfl, rfl⟩)
    go_ret
    exact ⟨ret_bool (by simp), rfl⟩
  | false =>
    have h0 := Lib.hid (idxB_none (k := 0) hy)
    have HS := Lib.hid hs
    clear hs hy
    go_enter Try.func32, Try.ntmps32
    go_wp2_with (go_at_call 40; refine (g_index _ _ _ zs rooms P _ hm HS.out hc).mono ?_; rintro e w' ⟨rfl, rfl⟩; rw [h0.out])
    go_ret
    exact ⟨rfl, rfl⟩

theorem g_isDay_c (n : Int) (b : Bool) (w : World) (h : inR n 0 366 = b) :
    Calls Try.prog 25 #[.int .i64 n] w fun e w' => e = .returned (.bool b) ∧ Below w.heap.size w w' :=
  (g_isDay n w).mono fun e w' ⟨he, hw⟩ => by subst hw; rw [h] at he; exact ⟨he, Below.refl _ _⟩
theorem g_isDay_q (n : Int) (b : Bool) (w : World) (h : inR n 0 366 = b) :
    Calls Try.prog 25 #[.int .i64 n] w fun e w' => e = .returned (.bool b) ∧ w = w' :=
  (g_isDay n w).mono fun e w' ⟨he, hw⟩ => by rw [h] at he; exact ⟨he, hw⟩
theorem g_isPart_c (n d : Int) (b : Bool) (w : World) (h : partB n d = b) :
    Calls Try.prog 31 #[.agg #[.int .i64 n, .int .i64 d]] w fun e w' => e = .returned (.bool b) ∧ Below w.heap.size w w' :=
  (g_isPart n d w).mono fun e w' ⟨he, hw⟩ => by rw [h] at he; exact ⟨he, hw⟩

theorem cutB_0 {l : List CutV} {d kn kd : Int} (h : l.getD 0 cut0 = (d, kn, kd)) : cutB l 0 = (inR d 0 366 && partB kn kd) := by
  unfold cutB; rw [h]; simp
theorem cutB_s {l : List CutV} {j : Nat} {p pn pd d kn kd : Int} (h : l.getD j cut0 = (p, pn, pd)) (h2 : l.getD (j + 1) cut0 = (d, kn, kd)) : cutB l (j + 1) = (inR d 0 366 && partB kn kd && decide (p < d)) := by
  unfold cutB; rw [h2, show j + 1 - 1 = j by omega, h]; simp
theorem cutB_f {l : List CutV} {k : Nat} {d kn kd : Int} (h : l.getD k cut0 = (d, kn, kd)) (h2 : (inR d 0 366 && partB kn kd) = false) : cutB l k = false := by
  unfold cutB; rw [h, h2]; simp

set_option maxRecDepth 100000 in
set_option maxHeartbeats 6400000 in
theorem g_valid_any (B : Blk) (ca : Option Addr) (cn cc : Nat) (pa : Option Addr) (pm pc : Nat) (w : World) (hin : BlkIn w B ca cn cc pa pm pc) (R : Bool) (hR : blkB B = R) :
    Calls Try.prog 13 #[.agg #[.int .i64 B.id, .int .i64 B.kind, .int .i64 B.rooms, .int .i64 B.fr, .int .i64 B.un, .slice ca cn cc, .int .i64 B.pn, .int .i64 B.pd, .int .i64 B.fee, .slice pa pm pc]] w fun e w' => e = .returned (.bool R) ∧ Below w.heap.size w w' := by
  have HR := Lib.hid hR
  have HC := Lib.hid hin.cuts
  have HP := Lib.hid hin.picked
  have HLC : Hid (B.cuts.length = cn) := hin.cuts.1
  have HLP : Hid (B.picked.length = pm) := hin.picked.1
  obtain ⟨hc1, hc2⟩ := hin.ccap
  obtain ⟨hp1, hp2⟩ := hin.pcap
  clear hR hin
  go_enter Try.func13, Try.ntmps13
  go_wp2_with fail
  refine (g_within B.id 1 1000000 _).mono ?_
  rintro e w' ⟨rfl, rfl⟩
  cases h1 : inR B.id 1 1000000 with
  | false =>
    obtain rfl : R = false := by rw [← HR.out]; simp [blkB, headB, h1]
    go_wp2_with fail
    go_ret
    refine ⟨(by first | rfl | exact ret_bool (by first | rfl | (simp; done) | (simp; omega))), ?_⟩
    (repeat' (first | (with_reducible exact Below.refl _ _) | (with_reducible assumption) | (with_reducible exact Bw.out (by with_reducible assumption)) | (with_reducible refine bw_alloc ?_ _) | (with_reducible refine bw_step ?_ (by with_reducible assumption)) | (with_reducible refine Below.alloc ?_ ?_ _) | (with_reducible refine Below.drew ?_) | (with_reducible refine below_drewN ?_ _) | (with_reducible refine Below.setCell ?_ ?_ _) | (with_reducible refine below_step ?_ (by with_reducible assumption) ?_) | (with_reducible exact Nat.le_refl _) | omega | (simp; omega) | (simp; done)))
  | true =>
    go_wp2_with fail
    refine (g_within B.kind 1 20 _).mono ?_
    rintro e w' ⟨rfl, rfl⟩
    cases h2 : inR B.kind 1 20 with
    | false =>
      obtain rfl : R = false := by rw [← HR.out]; simp [blkB, headB, h2]
      go_wp2_with fail
      go_ret
      refine ⟨(by first | rfl | exact ret_bool (by first | rfl | (simp; done) | (simp; omega))), ?_⟩
      (repeat' (first | (with_reducible exact Below.refl _ _) | (with_reducible assumption) | (with_reducible exact Bw.out (by with_reducible assumption)) | (with_reducible refine bw_alloc ?_ _) | (with_reducible refine bw_step ?_ (by with_reducible assumption)) | (with_reducible refine Below.alloc ?_ ?_ _) | (with_reducible refine Below.drew ?_) | (with_reducible refine below_drewN ?_ _) | (with_reducible refine Below.setCell ?_ ?_ _) | (with_reducible refine below_step ?_ (by with_reducible assumption) ?_) | (with_reducible exact Nat.le_refl _) | omega | (simp; omega) | (simp; done)))
    | true =>
      go_wp2_with fail
      refine (g_within B.rooms 1 400 _).mono ?_
      rintro e w' ⟨rfl, rfl⟩
      cases h3 : inR B.rooms 1 400 with
      | false =>
        obtain rfl : R = false := by rw [← HR.out]; simp [blkB, headB, h3]
        go_wp2_with fail
        go_ret
        refine ⟨(by first | rfl | exact ret_bool (by first | rfl | (simp; done) | (simp; omega))), ?_⟩
        (repeat' (first | (with_reducible exact Below.refl _ _) | (with_reducible assumption) | (with_reducible exact Bw.out (by with_reducible assumption)) | (with_reducible refine bw_alloc ?_ _) | (with_reducible refine bw_step ?_ (by with_reducible assumption)) | (with_reducible refine Below.alloc ?_ ?_ _) | (with_reducible refine Below.drew ?_) | (with_reducible refine below_drewN ?_ _) | (with_reducible refine Below.setCell ?_ ?_ _) | (with_reducible refine below_step ?_ (by with_reducible assumption) ?_) | (with_reducible exact Nat.le_refl _) | omega | (simp; omega) | (simp; done)))
      | true =>
        go_wp2_with fail
        refine (g_within B.fee 0 1000000000 _).mono ?_
        rintro e w' ⟨rfl, rfl⟩
        cases h4 : inR B.fee 0 1000000000 with
        | false =>
          obtain rfl : R = false := by rw [← HR.out]; simp [blkB, headB, h4]
          go_wp2_with fail
          go_ret
          refine ⟨(by first | rfl | exact ret_bool (by first | rfl | (simp; done) | (simp; omega))), ?_⟩
          (repeat' (first | (with_reducible exact Below.refl _ _) | (with_reducible assumption) | (with_reducible exact Bw.out (by with_reducible assumption)) | (with_reducible refine bw_alloc ?_ _) | (with_reducible refine bw_step ?_ (by with_reducible assumption)) | (with_reducible refine Below.alloc ?_ ?_ _) | (with_reducible refine Below.drew ?_) | (with_reducible refine below_drewN ?_ _) | (with_reducible refine Below.setCell ?_ ?_ _) | (with_reducible refine below_step ?_ (by with_reducible assumption) ?_) | (with_reducible exact Nat.le_refl _) | omega | (simp; omega) | (simp; done)))
        | true =>
          go_wp2_with fail
          refine (g_isPart B.pn B.pd _).mono ?_
          rintro e w1 ⟨rfl, hb1⟩
          have R_b_1 : Row w1 (w.heap.size) [.int .i64 B.id, .int .i64 B.kind, .int .i64 B.rooms, .int .i64 B.fr, .int .i64 B.un, .slice ca cn cc, .int .i64 B.pn, .int .i64 B.pd, .int .i64 B.fee, .slice pa pm pc] := by (repeat' (first | (with_reducible assumption) | (with_reducible refine Row.new' _ _ _ (by first | rfl | (simp; done) | omega)) | (with_reducible refine Row.alloc ?_ _) | (with_reducible refine Row.drew ?_) | (with_reducible refine Row.drewN ?_ _) | (with_reducible refine Row.step ?_ (by with_reducible assumption)) | (with_reducible refine Row.set2' ?_ _ _; first | exact ⟨_, _, by with_reducible assumption⟩ | exact ⟨_, _, Row.alloc (by with_reducible assumption) _⟩ | exact ⟨_, _, Row.alloc (Row.alloc (by with_reducible assumption) _) _⟩) | (with_reducible refine Row.other ?_ (by first | omega | (simp; done) | (simp; omega)) _)))
          have c_b_0_1 := R_b_1.cell 0 rfl
          have c_b_1_1 := R_b_1.cell 1 rfl
          have c_b_2_1 := R_b_1.cell 2 rfl
          have c_b_3_1 := R_b_1.cell 3 rfl
          have c_b_4_1 := R_b_1.cell 4 rfl
          have c_b_5_1 := R_b_1.cell 5 rfl
          have c_b_6_1 := R_b_1.cell 6 rfl
          have c_b_7_1 := R_b_1.cell 7 rfl
          have c_b_8_1 := R_b_1.cell 8 rfl
          have c_b_9_1 := R_b_1.cell 9 rfl
          have l_b_1 := R_b_1.lt
          have R_s_1 : Row w1 (w.heap.size + 1) [.int .i64 B.fr, .int .i64 B.un] := by (repeat' (first | (with_reducible assumption) | (with_reducible refine Row.new' _ _ _ (by first | rfl | (simp; done) | omega)) | (with_reducible refine Row.alloc ?_ _) | (with_reducible refine Row.drew ?_) | (with_reducible refine Row.drewN ?_ _) | (with_reducible refine Row.step ?_ (by with_reducible assumption)) | (with_reducible refine Row.set2' ?_ _ _; first | exact ⟨_, _, by with_reducible assumption⟩ | exact ⟨_, _, Row.alloc (by with_reducible assumption) _⟩ | exact ⟨_, _, Row.alloc (Row.alloc (by with_reducible assumption) _) _⟩) | (with_reducible refine Row.other ?_ (by first | omega | (simp; done) | (simp; omega)) _)))
          have c_s_0_1 := R_s_1.cell 0 rfl
          have c_s_1_1 := R_s_1.cell 1 rfl
          have l_s_1 := R_s_1.lt
          have HB1 : Below w.heap.size w w1 := by (repeat' (first | (with_reducible exact Below.refl _ _) | (with_reducible assumption) | (with_reducible exact Bw.out (by with_reducible assumption)) | (with_reducible refine bw_alloc ?_ _) | (with_reducible refine bw_step ?_ (by with_reducible assumption)) | (with_reducible refine Below.alloc ?_ ?_ _) | (with_reducible refine Below.drew ?_) | (with_reducible refine below_drewN ?_ _) | (with_reducible refine Below.setCell ?_ ?_ _) | (with_reducible refine below_step ?_ (by with_reducible assumption) ?_) | (with_reducible exact Nat.le_refl _) | omega | (simp; omega) | (simp; done)))
          cases h5 : partB B.pn B.pd with
          | false =>
            obtain rfl : R = false := by rw [← HR.out]; simp [blkB, headB, h5]
            go_wp2_with fail
            go_ret
            refine ⟨(by first | rfl | exact ret_bool (by first | rfl | (simp; done) | (simp; omega))), ?_⟩
            (repeat' (first | (with_reducible exact Below.refl _ _) | (with_reducible assumption) | (with_reducible exact Bw.out (by with_reducible assumption)) | (with_reducible refine bw_alloc ?_ _) | (with_reducible refine bw_step ?_ (by with_reducible assumption)) | (with_reducible refine Below.alloc ?_ ?_ _) | (with_reducible refine Below.drew ?_) | (with_reducible refine below_drewN ?_ _) | (with_reducible refine Below.setCell ?_ ?_ _) | (with_reducible refine below_step ?_ (by with_reducible assumption) ?_) | (with_reducible exact Nat.le_refl _) | omega | (simp; omega) | (simp; done)))
          | true =>
            have HH : Hid (headB B = true) := by show _ = _; simp [headB, h1, h2, h3, h4, h5]
            clear h1 h2 h3 h4 h5
            cases hsp : spanB B with
            | false =>
              have hq : B.fr < 0 ∨ (0 ≤ B.fr ∧ B.un ≤ B.fr) ∨ (0 ≤ B.fr ∧ B.fr < B.un ∧ 366 < B.un) ∨ (0 ≤ B.fr ∧ B.fr < B.un ∧ B.un ≤ 366 ∧ (pm : Int) ≠ B.un - B.fr) ∨ (0 ≤ B.fr ∧ B.fr < B.un ∧ B.un ≤ 366 ∧ (pm : Int) = B.un - B.fr ∧ 20 < cn) := by
                have h := mt (spanB_iff (B := B)).2 (by simp [hsp])
                rw [HLC.out, HLP.out] at h
                omega
              obtain rfl : R = false := by rw [← HR.out]; simp [blkB, hsp]
              clear hsp
              rcases hq with hq | ⟨hq, hq2⟩ | ⟨hq, hq2, hq3⟩ | ⟨hq, hq2, hq3, hq4⟩ | ⟨hq, hq2, hq3, hq4, hq5⟩
              ·
                go_wp2_with fail
                go_ret
                refine ⟨(by first | rfl | exact ret_bool (by first | rfl | (simp; done) | (simp; omega))), ?_⟩
                (repeat' (first | (with_reducible exact Below.refl _ _) | (with_reducible assumption) | (with_reducible exact Bw.out (by with_reducible assumption)) | (with_reducible refine bw_alloc ?_ _) | (with_reducible refine bw_step ?_ (by with_reducible assumption)) | (with_reducible refine Below.alloc ?_ ?_ _) | (with_reducible refine Below.drew ?_) | (with_reducible refine below_drewN ?_ _) | (with_reducible refine Below.setCell ?_ ?_ _) | (with_reducible refine below_step ?_ (by with_reducible assumption) ?_) | (with_reducible exact Nat.le_refl _) | omega | (simp; omega) | (simp; done)))
              ·
                go_wp2_with fail
                go_ret
                refine ⟨(by first | rfl | exact ret_bool (by first | rfl | (simp; done) | (simp; omega))), ?_⟩
                (repeat' (first | (with_reducible exact Below.refl _ _) | (with_reducible assumption) | (with_reducible exact Bw.out (by with_reducible assumption)) | (with_reducible refine bw_alloc ?_ _) | (with_reducible refine bw_step ?_ (by with_reducible assumption)) | (with_reducible refine Below.alloc ?_ ?_ _) | (with_reducible refine Below.drew ?_) | (with_reducible refine below_drewN ?_ _) | (with_reducible refine Below.setCell ?_ ?_ _) | (with_reducible refine below_step ?_ (by with_reducible assumption) ?_) | (with_reducible exact Nat.le_refl _) | omega | (simp; omega) | (simp; done)))
              ·
                go_wp2_with fail
                go_ret
                refine ⟨(by first | rfl | exact ret_bool (by first | rfl | (simp; done) | (simp; omega))), ?_⟩
                (repeat' (first | (with_reducible exact Below.refl _ _) | (with_reducible assumption) | (with_reducible exact Bw.out (by with_reducible assumption)) | (with_reducible refine bw_alloc ?_ _) | (with_reducible refine bw_step ?_ (by with_reducible assumption)) | (with_reducible refine Below.alloc ?_ ?_ _) | (with_reducible refine Below.drew ?_) | (with_reducible refine below_drewN ?_ _) | (with_reducible refine Below.setCell ?_ ?_ _) | (with_reducible refine below_step ?_ (by with_reducible assumption) ?_) | (with_reducible exact Nat.le_refl _) | omega | (simp; omega) | (simp; done)))
              ·
                have hx : ((pm : Int) != B.un - B.fr) = true := by simpa using hq4
                clear hq4
                go_wp2_with fail
                go_ret
                refine ⟨(by first | rfl | exact ret_bool (by first | rfl | (simp; done) | (simp; omega))), ?_⟩
                (repeat' (first | (with_reducible exact Below.refl _ _) | (with_reducible assumption) | (with_reducible exact Bw.out (by with_reducible assumption)) | (with_reducible refine bw_alloc ?_ _) | (with_reducible refine bw_step ?_ (by with_reducible assumption)) | (with_reducible refine Below.alloc ?_ ?_ _) | (with_reducible refine Below.drew ?_) | (with_reducible refine below_drewN ?_ _) | (with_reducible refine Below.setCell ?_ ?_ _) | (with_reducible refine below_step ?_ (by with_reducible assumption) ?_) | (with_reducible exact Nat.le_refl _) | omega | (simp; omega) | (simp; done)))
              ·
                have hx : ((pm : Int) != B.un - B.fr) = false := by simpa using hq4
                clear hq4
                go_wp2_with fail
                go_ret
                refine ⟨(by first | rfl | exact ret_bool (by first | rfl | (simp; done) | (simp; omega))), ?_⟩
                (repeat' (first | (with_reducible exact Below.refl _ _) | (with_reducible assumption) | (with_reducible exact Bw.out (by with_reducible assumption)) | (with_reducible refine bw_alloc ?_ _) | (with_reducible refine bw_step ?_ (by with_reducible assumption)) | (with_reducible refine Below.alloc ?_ ?_ _) | (with_reducible refine Below.drew ?_) | (with_reducible refine below_drewN ?_ _) | (with_reducible refine Below.setCell ?_ ?_ _) | (with_reducible refine below_step ?_ (by with_reducible assumption) ?_) | (with_reducible exact Nat.le_refl _) | omega | (simp; omega) | (simp; done)))
            | true =>
              obtain ⟨q1, q2, q3, q4, q5⟩ := spanB_iff.1 hsp
              have HSP := Lib.hid hsp
              rw [HLC.out] at q5
              have hx : ((pm : Int) != B.un - B.fr) = false := by rw [HLP.out] at q4; simpa using q4
              clear hsp q4
              go_wp2_with fail
              go_loopw [71] (fun i wr => ∃ k : Nat, k ≤ cn ∧ i = .int .i64 k ∧ Hid (∀ j, j < k → cutB B.cuts j = true) ∧ Hid (Row wr w.heap.size [.int .i64 B.id, .int .i64 B.kind, .int .i64 B.rooms, .int .i64 B.fr, .int .i64 B.un, .slice ca cn cc, .int .i64 B.pn, .int .i64 B.pd, .int .i64 B.fee, .slice pa pm pc]) ∧ Bw w.heap.size w wr) (fun i _ => cn - (intOf i).toNat)
              case atStart => exact ⟨0, Nat.zero_le _, rfl, fun j hj => by omega, R_b_1, HB1⟩
              case round =>
                obtain ⟨k, hk, rfl, hT, hRb, hB⟩ := hrel
                obtain ⟨w2, hw2⟩ : ∃ wd : World, wd = wr := ⟨_, rfl⟩
                subst hw2
                have HB2 := hB.out
                have R_b_2 := hRb.out
                have c_b_5_2 := R_b_2.cell 5 rfl
                have c_b_9_2 := R_b_2.cell 9 rfl
                have l_b_2 := R_b_2.lt
                clear hRb hB R_b_1 c_b_0_1 c_b_1_1 c_b_2_1 c_b_3_1 c_b_4_1 c_b_5_1 c_b_6_1 c_b_7_1 c_b_8_1 c_b_9_1 R_s_1 c_s_0_1 c_s_1_1 l_b_1 l_s_1 hb1 HB1
                by_cases hlt : k < cn
                · obtain ⟨d, kn, kd, b, off, g1, gd, gx, rfl, hbl, cd, ckn, ckd⟩ := (HC.out.below HB2).get hlt
                  have i1 : (0 : Int) ≤ (k : Int) := by omega
                  have i2 : (k : Int) < (cn : Int) := by omega
                  have CELL0 : CellAt w2 b (off + k * 3) (.int .i64 d) := cd
                  go_wp2_with fail
                  go_wp2_with fail
                  cases hd : inR d 0 366 with
                  | false =>
                    have HC2 : Hid (cutB B.cuts k = false) := cutB_f g1.out (by rw [hd]; rfl)
                    refine AnyJ.beginP (fun w' : World => w'.cell? ⟨w.heap.size, 0, none⟩ = some (.int .i64 B.id) ∧ w'.cell? ⟨w.heap.size, 1, none⟩ = some (.int .i64 B.kind) ∧ w'.cell? ⟨w.heap.size, 2, none⟩ = some (.int .i64 B.rooms) ∧ w'.cell? ⟨w.heap.size, 3, none⟩ = some (.int .i64 B.fr) ∧ w'.cell? ⟨w.heap.size, 4, none⟩ = some (.int .i64 B.un) ∧ w'.cell? ⟨w.heap.size, 5, none⟩ = some (.slice (some ⟨b, off, none⟩) cn cc) ∧ w'.cell? ⟨w.heap.size, 6, none⟩ = some (.int .i64 B.pn) ∧ w'.cell? ⟨w.heap.size, 7, none⟩ = some (.int .i64 B.pd) ∧ w'.cell? ⟨w.heap.size, 8, none⟩ = some (.int .i64 B.fee) ∧ w'.cell? ⟨w.heap.size, 9, none⟩ = some (.slice pa pm pc) ∧ w'.cell? ⟨w2.heap.size, 0, none⟩ = some (.int .i64 (d)) ∧ w'.cell? ⟨w2.heap.size, 1, none⟩ = some (.int .i64 (kn)) ∧ w'.cell? ⟨w2.heap.size, 2, none⟩ = some (.int .i64 (kd))) (fun _ => true) (by kernel_rfl) ?_ (fun hS2 => ?_)
                    · exact (show ∀ (P S : World → Prop) (W : World), P W → (∀ w', P w' → S w') → S W from fun P S W h f => f W h) (fun w' : World => Row w' (w.heap.size) [.int .i64 B.id, .int .i64 B.kind, .int .i64 B.rooms, .int .i64 B.fr, .int .i64 B.un, .slice (some ⟨b, off, none⟩) cn cc, .int .i64 B.pn, .int .i64 B.pd, .int .i64 B.fee, .slice pa pm pc] ∧ Row w' (w2.heap.size) [.int .i64 (d), .int .i64 (kn), .int .i64 (kd)]) (fun w' : World => w'.cell? ⟨w.heap.size, 0, none⟩ = some (.int .i64 B.id) ∧ w'.cell? ⟨w.heap.size, 1, none⟩ = some (.int .i64 B.kind) ∧ w'.cell? ⟨w.heap.size, 2, none⟩ = some (.int .i64 B.rooms) ∧ w'.cell? ⟨w.heap.size, 3, none⟩ = some (.int .i64 B.fr) ∧ w'.cell? ⟨w.heap.size, 4, none⟩ = some (.int .i64 B.un) ∧ w'.cell? ⟨w.heap.size, 5, none⟩ = some (.slice (some ⟨b, off, none⟩) cn cc) ∧ w'.cell? ⟨w.heap.size, 6, none⟩ = some (.int .i64 B.pn) ∧ w'.cell? ⟨w.heap.size, 7, none⟩ = some (.int .i64 B.pd) ∧ w'.cell? ⟨w.heap.size, 8, none⟩ = some (.int .i64 B.fee) ∧ w'.cell? ⟨w.heap.size, 9, none⟩ = some (.slice pa pm pc) ∧ w'.cell? ⟨w2.heap.size, 0, none⟩ = some (.int .i64 (d)) ∧ w'.cell? ⟨w2.heap.size, 1, none⟩ = some (.int .i64 (kn)) ∧ w'.cell? ⟨w2.heap.size, 2, none⟩ = some (.int .i64 (kd))) _ (⟨by (repeat' (first | (with_reducible assumption) | (with_reducible refine Row.new' _ _ _ (by first | rfl | (simp; done) | omega)) | (with_reducible refine Row.alloc ?_ _) | (with_reducible refine Row.drew ?_) | (with_reducible refine Row.drewN ?_ _) | (with_reducible refine Row.step ?_ (by with_reducible assumption)) | (with_reducible refine Row.set2' ?_ _ _; first | exact ⟨_, _, by with_reducible assumption⟩ | exact ⟨_, _, Row.alloc (by with_reducible assumption) _⟩ | exact ⟨_, _, Row.alloc (Row.alloc (by with_reducible assumption) _) _⟩) | (with_reducible refine Row.other ?_ (by first | omega | (simp; done) | (simp; omega)) _))), by (repeat' (first | (with_reducible assumption) | (with_reducible refine Row.new' _ _ _ (by first | rfl | (simp; done) | omega)) | (with_reducible refine Row.alloc ?_ _) | (with_reducible refine Row.drew ?_) | (with_reducible refine Row.drewN ?_ _) | (with_reducible refine Row.step ?_ (by with_reducible assumption)) | (with_reducible refine Row.set2' ?_ _ _; first | exact ⟨_, _, by with_reducible assumption⟩ | exact ⟨_, _, Row.alloc (by with_reducible assumption) _⟩ | exact ⟨_, _, Row.alloc (Row.alloc (by with_reducible assumption) _) _⟩) | (with_reducible refine Row.other ?_ (by first | omega | (simp; done) | (simp; omega)) _)))⟩) (fun w' ⟨hP0, hP1⟩ => ⟨hP0.cell 0 rfl, hP0.cell 1 rfl, hP0.cell 2 rfl, hP0.cell 3 rfl, hP0.cell 4 rfl, hP0.cell 5 rfl, hP0.cell 6 rfl, hP0.cell 7 rfl, hP0.cell 8 rfl, hP0.cell 9 rfl, hP1.cell 0 rfl, hP1.cell 1 rfl, hP1.cell 2 rfl⟩)
                    refine AnyJ.takeD (i := 0) (d := some 76) (v := ?_) rfl (by kernel_rfl) (by kernel_rfl) (by kernel_rfl) (by kernel_rfl) (by kernel_rfl) (fun _ _ _ h => h) (Or.inl ⟨by kernel_rfl, ?_⟩) hS2 ?_
                    rotate_left
                    · intro w' hS
                      clear hS
                      go_simp
                      try with_reducible rfl
                    refine AnyJ.takeD (i := 1) (d := some 77) (v := ?_) rfl (by kernel_rfl) (by kernel_rfl) (by kernel_rfl) (by kernel_rfl) (by kernel_rfl) (fun _ _ _ h => h) (Or.inl ⟨by kernel_rfl, ?_⟩) hS2 ?_
                    rotate_left
                    · intro w' hS
                      obtain ⟨sF0, sF1, sF2, sF3, sF4, sF5, sF6, sF7, sF8, sF9, sF10, sF11, sF12⟩ := hS
                      go_simp
                      try with_reducible rfl
                    refine AnyJ.one (i := 2) (by kernel_rfl) rfl (fun Kz hKz => ?_)
                    go_simp
                    refine (g_isDay_c d false _ hd).mono ?_
                    rintro e w3 ⟨rfl, hb3⟩
                    have R_b_3 : Row w3 (w.heap.size) [.int .i64 B.id, .int .i64 B.kind, .int .i64 B.rooms, .int .i64 B.fr, .int .i64 B.un, .slice (some ⟨b, off, none⟩) cn cc, .int .i64 B.pn, .int .i64 B.pd, .int .i64 B.fee, .slice pa pm pc] := by (repeat' (first | (with_reducible assumption) | (with_reducible refine Row.new' _ _ _ (by first | rfl | (simp; done) | omega)) | (with_reducible refine Row.alloc ?_ _) | (with_reducible refine Row.drew ?_) | (with_reducible refine Row.drewN ?_ _) | (with_reducible refine Row.step ?_ (by with_reducible assumption)) | (with_reducible refine Row.set2' ?_ _ _; first | exact ⟨_, _, by with_reducible assumption⟩ | exact ⟨_, _, Row.alloc (by with_reducible assumption) _⟩ | exact ⟨_, _, Row.alloc (Row.alloc (by with_reducible assumption) _) _⟩) | (with_reducible refine Row.other ?_ (by first | omega | (simp; done) | (simp; omega)) _)))
                    have c_b_0_3 := R_b_3.cell 0 rfl
                    have c_b_1_3 := R_b_3.cell 1 rfl
                    have c_b_2_3 := R_b_3.cell 2 rfl
                    have c_b_3_3 := R_b_3.cell 3 rfl
                    have c_b_4_3 := R_b_3.cell 4 rfl
                    have c_b_5_3 := R_b_3.cell 5 rfl
                    have c_b_6_3 := R_b_3.cell 6 rfl
                    have c_b_7_3 := R_b_3.cell 7 rfl
                    have c_b_8_3 := R_b_3.cell 8 rfl
                    have c_b_9_3 := R_b_3.cell 9 rfl
                    have l_b_3 := R_b_3.lt
                    have R_x_3 : Row w3 (w2.heap.size) [.int .i64 (d), .int .i64 (kn), .int .i64 (kd)] := by (repeat' (first | (with_reducible assumption) | (with_reducible refine Row.new' _ _ _ (by first | rfl | (simp; done) | omega)) | (with_reducible refine Row.alloc ?_ _) | (with_reducible refine Row.drew ?_) | (with_reducible refine Row.drewN ?_ _) | (with_reducible refine Row.step ?_ (by with_reducible assumption)) | (with_reducible refine Row.set2' ?_ _ _; first | exact ⟨_, _, by with_reducible assumption⟩ | exact ⟨_, _, Row.alloc (by with_reducible assumption) _⟩ | exact ⟨_, _, Row.alloc (Row.alloc (by with_reducible assumption) _) _⟩) | (with_reducible refine Row.other ?_ (by first | omega | (simp; done) | (simp; omega)) _)))
                    have c_x_0_3 := R_x_3.cell 0 rfl
                    have c_x_1_3 := R_x_3.cell 1 rfl
                    have c_x_2_3 := R_x_3.cell 2 rfl
                    have l_x_3 := R_x_3.lt
                    have HB3 : Below w.heap.size w w3 := by (repeat' (first | (with_reducible exact Below.refl _ _) | (with_reducible assumption) | (with_reducible exact Bw.out (by with_reducible assumption)) | (with_reducible refine bw_alloc ?_ _) | (with_reducible refine bw_step ?_ (by with_reducible assumption)) | (with_reducible refine Below.alloc ?_ ?_ _) | (with_reducible refine Below.drew ?_) | (with_reducible refine below_drewN ?_ _) | (with_reducible refine Below.setCell ?_ ?_ _) | (with_reducible refine below_step ?_ (by with_reducible assumption) ?_) | (with_reducible exact Nat.le_refl _) | omega | (simp; omega) | (simp; done)))
                    have hS3 : (fun w' : World => w'.cell? ⟨w.heap.size, 0, none⟩ = some (.int .i64 B.id) ∧ w'.cell? ⟨w.heap.size, 1, none⟩ = some (.int .i64 B.kind) ∧ w'.cell? ⟨w.heap.size, 2, none⟩ = some (.int .i64 B.rooms) ∧ w'.cell? ⟨w.heap.size, 3, none⟩ = some (.int .i64 B.fr) ∧ w'.cell? ⟨w.heap.size, 4, none⟩ = some (.int .i64 B.un) ∧ w'.cell? ⟨w.heap.size, 5, none⟩ = some (.slice (some ⟨b, off, none⟩) cn cc) ∧ w'.cell? ⟨w.heap.size, 6, none⟩ = some (.int .i64 B.pn) ∧ w'.cell? ⟨w.heap.size, 7, none⟩ = some (.int .i64 B.pd) ∧ w'.cell? ⟨w.heap.size, 8, none⟩ = some (.int .i64 B.fee) ∧ w'.cell? ⟨w.heap.size, 9, none⟩ = some (.slice pa pm pc) ∧ w'.cell? ⟨w2.heap.size, 0, none⟩ = some (.int .i64 (d)) ∧ w'.cell? ⟨w2.heap.size, 1, none⟩ = some (.int .i64 (kn)) ∧ w'.cell? ⟨w2.heap.size, 2, none⟩ = some (.int .i64 (kd))) w3 := ⟨c_b_0_3, c_b_1_3, c_b_2_3, c_b_3_3, c_b_4_3, c_b_5_3, c_b_6_3, c_b_7_3, c_b_8_3, c_b_9_3, c_x_0_3, c_x_1_3, c_x_2_3⟩
                    refine hKz _ _ (fun _ => hS3) ?_
                    clear hKz Kz hS2
                    refine AnyJ.takeD (i := 3) (d := some 79) (v := ?_) rfl (by kernel_rfl) (by kernel_rfl) (by kernel_rfl) (by kernel_rfl) (by kernel_rfl) (fun _ _ _ h => h) (Or.inl ⟨by kernel_rfl, ?_⟩) hS3 ?_
                    rotate_left
                    · intro w' hS
                      clear hS
                      go_simp
                      try with_reducible rfl
                    refine AnyJ.takeD (i := 4) (d := some 80) (v := ?_) rfl (by kernel_rfl) (by kernel_rfl) (by kernel_rfl) (by kernel_rfl) (by kernel_rfl) (fun _ _ _ h => h) (Or.inl ⟨by kernel_rfl, ?_⟩) hS3 ?_
                    rotate_left
                    · intro w' hS
                      clear hS
                      go_simp
                      try with_reducible rfl
                    refine AnyJ.takeD (i := 5) (d := some 81) (v := undef) rfl (by kernel_rfl) (by kernel_rfl) (by kernel_rfl) (by kernel_rfl) (by kernel_rfl) (fun _ _ _ h => h) (Or.inr ⟨by kernel_rfl, rfl⟩) hS3 ?_
                    refine AnyJ.takeD (i := 6) (d := some 82) (v := undef) rfl (by kernel_rfl) (by kernel_rfl) (by kernel_rfl) (by kernel_rfl) (by kernel_rfl) (fun _ _ _ h => h) (Or.inr ⟨by kernel_rfl, rfl⟩) hS3 ?_
                    refine AnyJ.takeD (i := 7) (d := some 83) (v := undef) rfl (by kernel_rfl) (by kernel_rfl) (by kernel_rfl) (by kernel_rfl) (by kernel_rfl) (fun _ _ _ h => h) (Or.inr ⟨by kernel_rfl, rfl⟩) hS3 ?_
                    refine AnyJ.takeD (i := 8) (d := some 84) (v := undef) rfl (by kernel_rfl) (by kernel_rfl) (by kernel_rfl) (by kernel_rfl) (by kernel_rfl) (fun _ _ _ h => h) (Or.inr ⟨by kernel_rfl, rfl⟩) hS3 ?_
                    refine AnyJ.takeD (i := 9) (d := some 85) (v := ?_) rfl (by kernel_rfl) (by kernel_rfl) (by kernel_rfl) (by kernel_rfl) (by kernel_rfl) (fun _ _ _ h => h) (Or.inl ⟨by kernel_rfl, ?_⟩) hS3 ?_
                    rotate_left
                    · intro w' hS
                      clear hS
                      go_simp
                      try with_reducible rfl
                    refine AnyJ.takeD (i := 10) (d := some 86) (v := ?_) rfl (by kernel_rfl) (by kernel_rfl) (by kernel_rfl) (by kernel_rfl) (by kernel_rfl) (fun _ _ _ h => h) (Or.inl ⟨by kernel_rfl, ?_⟩) hS3 ?_
                    rotate_left
                    · intro w' hS
                      clear hS
                      go_simp
                      try with_reducible rfl
                    refine AnyJ.takeD (i := 11) (d := some 87) (v := undef) rfl (by kernel_rfl) (by kernel_rfl) (by kernel_rfl) (by kernel_rfl) (by kernel_rfl) (fun _ _ _ h => h) (Or.inr ⟨by kernel_rfl, rfl⟩) hS3 ?_
                    refine AnyJ.takeD (i := 12) (d := some 88) (v := undef) rfl (by kernel_rfl) (by kernel_rfl) (by kernel_rfl) (by kernel_rfl) (by kernel_rfl) (fun _ _ _ h => h) (Or.inr ⟨by kernel_rfl, rfl⟩) hS3 ?_
                    refine AnyJ.takeD (i := 13) (d := some 89) (v := undef) rfl (by kernel_rfl) (by kernel_rfl) (by kernel_rfl) (by kernel_rfl) (by kernel_rfl) (fun _ _ _ h => h) (Or.inr ⟨by kernel_rfl, rfl⟩) hS3 ?_
                    refine AnyJ.takeD (i := 14) (d := some 90) (v := undef) rfl (by kernel_rfl) (by kernel_rfl) (by kernel_rfl) (by kernel_rfl) (by kernel_rfl) (fun _ _ _ h => h) (Or.inr ⟨by kernel_rfl, rfl⟩) hS3 ?_
                    refine AnyJ.takeD (i := 15) (d := some 91) (v := undef) rfl (by kernel_rfl) (by kernel_rfl) (by kernel_rfl) (by kernel_rfl) (by kernel_rfl) (fun _ _ _ h => h) (Or.inr ⟨by kernel_rfl, rfl⟩) hS3 ?_
                    refine AnyJ.takeD (i := 16) (d := some 92) (v := undef) rfl (by kernel_rfl) (by kernel_rfl) (by kernel_rfl) (by kernel_rfl) (by kernel_rfl) (fun _ _ _ h => h) (Or.inr ⟨by kernel_rfl, rfl⟩) hS3 ?_
                    refine AnyJ.takeD (i := 17) (d := some 93) (v := undef) rfl (by kernel_rfl) (by kernel_rfl) (by kernel_rfl) (by kernel_rfl) (by kernel_rfl) (fun _ _ _ h => h) (Or.inr ⟨by kernel_rfl, rfl⟩) hS3 ?_
                    refine AnyJ.takeD (i := 18) (d := some 94) (v := undef) rfl (by kernel_rfl) (by kernel_rfl) (by kernel_rfl) (by kernel_rfl) (by kernel_rfl) (fun _ _ _ h => h) (Or.inr ⟨by kernel_rfl, rfl⟩) hS3 ?_
                    refine AnyJ.takeD (i := 19) (d := some 95) (v := undef) rfl (by kernel_rfl) (by kernel_rfl) (by kernel_rfl) (by kernel_rfl) (by kernel_rfl) (fun _ _ _ h => h) (Or.inr ⟨by kernel_rfl, rfl⟩) hS3 ?_
                    refine AnyJ.takeD (i := 20) (d := some 96) (v := undef) rfl (by kernel_rfl) (by kernel_rfl) (by kernel_rfl) (by kernel_rfl) (by kernel_rfl) (fun _ _ _ h => h) (Or.inr ⟨by kernel_rfl, rfl⟩) hS3 ?_
                    refine AnyJ.takeD (i := 21) (d := some 97) (v := undef) rfl (by kernel_rfl) (by kernel_rfl) (by kernel_rfl) (by kernel_rfl) (by kernel_rfl) (fun _ _ _ h => h) (Or.inr ⟨by kernel_rfl, rfl⟩) hS3 ?_
                    refine AnyJ.takeD (i := 22) (d := some 98) (v := undef) rfl (by kernel_rfl) (by kernel_rfl) (by kernel_rfl) (by kernel_rfl) (by kernel_rfl) (fun _ _ _ h => h) (Or.inr ⟨by kernel_rfl, rfl⟩) hS3 ?_
                    refine AnyJ.takeD (i := 23) (d := some 99) (v := undef) rfl (by kernel_rfl) (by kernel_rfl) (by kernel_rfl) (by kernel_rfl) (by kernel_rfl) (fun _ _ _ h => h) (Or.inr ⟨by kernel_rfl, rfl⟩) hS3 ?_
                    refine AnyJ.takeD (i := 24) (d := some 100) (v := undef) rfl (by kernel_rfl) (by kernel_rfl) (by kernel_rfl) (by kernel_rfl) (by kernel_rfl) (fun _ _ _ h => h) (Or.inr ⟨by kernel_rfl, rfl⟩) hS3 ?_
                    refine AnyJ.takeD (i := 25) (d := some 101) (v := ?_) rfl (by kernel_rfl) (by kernel_rfl) (by kernel_rfl) (by kernel_rfl) (by kernel_rfl) (fun _ _ _ h => h) (Or.inl ⟨by kernel_rfl, ?_⟩) hS3 ?_
                    rotate_left
                    · intro w' hS
                      clear hS
                      go_simp
                      try with_reducible rfl
                    refine AnyJ.done (by kernel_rfl) ?_ _
                    clear hS3
                    simp only [Act.put, List.setIfInBounds_toArray, List.set_cons_zero, List.set_cons_succ]
                    obtain rfl : R = false := by
                      rw [← HR.out]
                      simp [blkB, cutsB_false (by rw [HLC.out]; exact hlt) HC2.out]
                    go_wp2_with fail
                    go_ret
                    refine ⟨(by first | rfl | exact ret_bool (by first | rfl | (simp; done) | (simp; omega))), ?_⟩
                    (repeat' (first | (with_reducible exact Below.refl _ _) | (with_reducible assumption) | (with_reducible exact Bw.out (by with_reducible assumption)) | (with_reducible refine bw_alloc ?_ _) | (with_reducible refine bw_step ?_ (by with_reducible assumption)) | (with_reducible refine Below.alloc ?_ ?_ _) | (with_reducible refine Below.drew ?_) | (with_reducible refine below_drewN ?_ _) | (with_reducible refine Below.setCell ?_ ?_ _) | (with_reducible refine below_step ?_ (by with_reducible assumption) ?_) | (with_reducible exact Nat.le_refl _) | omega | (simp; omega) | (simp; done)))
                  | true =>
                    cases hp : partB kn kd with
                    | false =>
                      have HC2 : Hid (cutB B.cuts k = false) := cutB_f g1.out (by rw [hd, hp]; rfl)
                      refine AnyJ.beginP (fun w' : World => w'.cell? ⟨w.heap.size, 0, none⟩ = some (.int .i64 B.id) ∧ w'.cell? ⟨w.heap.size, 1, none⟩ = some (.int .i64 B.kind) ∧ w'.cell? ⟨w.heap.size, 2, none⟩ = some (.int .i64 B.rooms) ∧ w'.cell? ⟨w.heap.size, 3, none⟩ = some (.int .i64 B.fr) ∧ w'.cell? ⟨w.heap.size, 4, none⟩ = some (.int .i64 B.un) ∧ w'.cell? ⟨w.heap.size, 5, none⟩ = some (.slice (some ⟨b, off, none⟩) cn cc) ∧ w'.cell? ⟨w.heap.size, 6, none⟩ = some (.int .i64 B.pn) ∧ w'.cell? ⟨w.heap.size, 7, none⟩ = some (.int .i64 B.pd) ∧ w'.cell? ⟨w.heap.size, 8, none⟩ = some (.int .i64 B.fee) ∧ w'.cell? ⟨w.heap.size, 9, none⟩ = some (.slice pa pm pc) ∧ w'.cell? ⟨w2.heap.size, 0, none⟩ = some (.int .i64 (d)) ∧ w'.cell? ⟨w2.heap.size, 1, none⟩ = some (.int .i64 (kn)) ∧ w'.cell? ⟨w2.heap.size, 2, none⟩ = some (.int .i64 (kd))) (fun _ => true) (by kernel_rfl) ?_ (fun hS2 => ?_)
                      · exact (show ∀ (P S : World → Prop) (W : World), P W → (∀ w', P w' → S w') → S W from fun P S W h f => f W h) (fun w' : World => Row w' (w.heap.size) [.int .i64 B.id, .int .i64 B.kind, .int .i64 B.rooms, .int .i64 B.fr, .int .i64 B.un, .slice (some ⟨b, off, none⟩) cn cc, .int .i64 B.pn, .int .i64 B.pd, .int .i64 B.fee, .slice pa pm pc] ∧ Row w' (w2.heap.size) [.int .i64 (d), .int .i64 (kn), .int .i64 (kd)]) (fun w' : World => w'.cell? ⟨w.heap.size, 0, none⟩ = some (.int .i64 B.id) ∧ w'.cell? ⟨w.heap.size, 1, none⟩ = some (.int .i64 B.kind) ∧ w'.cell? ⟨w.heap.size, 2, none⟩ = some (.int .i64 B.rooms) ∧ w'.cell? ⟨w.heap.size, 3, none⟩ = some (.int .i64 B.fr) ∧ w'.cell? ⟨w.heap.size, 4, none⟩ = some (.int .i64 B.un) ∧ w'.cell? ⟨w.heap.size, 5, none⟩ = some (.slice (some ⟨b, off, none⟩) cn cc) ∧ w'.cell? ⟨w.heap.size, 6, none⟩ = some (.int .i64 B.pn) ∧ w'.cell? ⟨w.heap.size, 7, none⟩ = some (.int .i64 B.pd) ∧ w'.cell? ⟨w.heap.size, 8, none⟩ = some (.int .i64 B.fee) ∧ w'.cell? ⟨w.heap.size, 9, none⟩ = some (.slice pa pm pc) ∧ w'.cell? ⟨w2.heap.size, 0, none⟩ = some (.int .i64 (d)) ∧ w'.cell? ⟨w2.heap.size, 1, none⟩ = some (.int .i64 (kn)) ∧ w'.cell? ⟨w2.heap.size, 2, none⟩ = some (.int .i64 (kd))) _ (⟨by (repeat' (first | (with_reducible assumption) | (with_reducible refine Row.new' _ _ _ (by first | rfl | (simp; done) | omega)) | (with_reducible refine Row.alloc ?_ _) | (with_reducible refine Row.drew ?_) | (with_reducible refine Row.drewN ?_ _) | (with_reducible refine Row.step ?_ (by with_reducible assumption)) | (with_reducible refine Row.set2' ?_ _ _; first | exact ⟨_, _, by with_reducible assumption⟩ | exact ⟨_, _, Row.alloc (by with_reducible assumption) _⟩ | exact ⟨_, _, Row.alloc (Row.alloc (by with_reducible assumption) _) _⟩) | (with_reducible refine Row.other ?_ (by first | omega | (simp; done) | (simp; omega)) _))), by (repeat' (first | (with_reducible assumption) | (with_reducible refine Row.new' _ _ _ (by first | rfl | (simp; done) | omega)) | (with_reducible refine Row.alloc ?_ _) | (with_reducible refine Row.drew ?_) | (with_reducible refine Row.drewN ?_ _) | (with_reducible refine Row.step ?_ (by with_reducible assumption)) | (with_reducible refine Row.set2' ?_ _ _; first | exact ⟨_, _, by with_reducible assumption⟩ | exact ⟨_, _, Row.alloc (by with_reducible assumption) _⟩ | exact ⟨_, _, Row.alloc (Row.alloc (by with_reducible assumption) _) _⟩) | (with_reducible refine Row.other ?_ (by first | omega | (simp; done) | (simp; omega)) _)))⟩) (fun w' ⟨hP0, hP1⟩ => ⟨hP0.cell 0 rfl, hP0.cell 1 rfl, hP0.cell 2 rfl, hP0.cell 3 rfl, hP0.cell 4 rfl, hP0.cell 5 rfl, hP0.cell 6 rfl, hP0.cell 7 rfl, hP0.cell 8 rfl, hP0.cell 9 rfl, hP1.cell 0 rfl, hP1.cell 1 rfl, hP1.cell 2 rfl⟩)
                      refine AnyJ.takeD (i := 0) (d := some 76) (v := ?_) rfl (by kernel_rfl) (by kernel_rfl) (by kernel_rfl) (by kernel_rfl) (by kernel_rfl) (fun _ _ _ h => h) (Or.inl ⟨by kernel_rfl, ?_⟩) hS2 ?_
                      rotate_left
                      · intro w' hS
                        clear hS
                        go_simp
                        try with_reducible rfl
                      refine AnyJ.takeD (i := 1) (d := some 77) (v := ?_) rfl (by kernel_rfl) (by kernel_rfl) (by kernel_rfl) (by kernel_rfl) (by kernel_rfl) (fun _ _ _ h => h) (Or.inl ⟨by kernel_rfl, ?_⟩) hS2 ?_
                      rotate_left
                      · intro w' hS
                        obtain ⟨sF0, sF1, sF2, sF3, sF4, sF5, sF6, sF7, sF8, sF9, sF10, sF11, sF12⟩ := hS
                        go_simp
                        try with_reducible rfl
                      refine AnyJ.one (i := 2) (by kernel_rfl) rfl (fun Kz hKz => ?_)
                      go_simp
                      refine (g_isDay_c d true _ hd).mono ?_
                      rintro e w3 ⟨rfl, hb3⟩
                      have R_b_3 : Row w3 (w.heap.size) [.int .i64 B.id, .int .i64 B.kind, .int .i64 B.rooms, .int .i64 B.fr, .int .i64 B.un, .slice (some ⟨b, off, none⟩) cn cc, .int .i64 B.pn, .int .i64 B.pd, .int .i64 B.fee, .slice pa pm pc] := by (repeat' (first | (with_reducible assumption) | (with_reducible refine Row.new' _ _ _ (by first | rfl | (simp; done) | omega)) | (with_reducible refine Row.alloc ?_ _) | (with_reducible refine Row.drew ?_) | (with_reducible refine Row.drewN ?_ _) | (with_reducible refine Row.step ?_ (by with_reducible assumption)) | (with_reducible refine Row.set2' ?_ _ _; first | exact ⟨_, _, by with_reducible assumption⟩ | exact ⟨_, _, Row.alloc (by with_reducible assumption) _⟩ | exact ⟨_, _, Row.alloc (Row.alloc (by with_reducible assumption) _) _⟩) | (with_reducible refine Row.other ?_ (by first | omega | (simp; done) | (simp; omega)) _)))
                      have c_b_0_3 := R_b_3.cell 0 rfl
                      have c_b_1_3 := R_b_3.cell 1 rfl
                      have c_b_2_3 := R_b_3.cell 2 rfl
                      have c_b_3_3 := R_b_3.cell 3 rfl
                      have c_b_4_3 := R_b_3.cell 4 rfl
                      have c_b_5_3 := R_b_3.cell 5 rfl
                      have c_b_6_3 := R_b_3.cell 6 rfl
                      have c_b_7_3 := R_b_3.cell 7 rfl
                      have c_b_8_3 := R_b_3.cell 8 rfl
                      have c_b_9_3 := R_b_3.cell 9 rfl
                      have l_b_3 := R_b_3.lt
                      have R_x_3 : Row w3 (w2.heap.size) [.int .i64 (d), .int .i64 (kn), .int .i64 (kd)] := by (repeat' (first | (with_reducible assumption) | (with_reducible refine Row.new' _ _ _ (by first | rfl | (simp; done) | omega)) | (with_reducible refine Row.alloc ?_ _) | (with_reducible refine Row.drew ?_) | (with_reducible refine Row.drewN ?_ _) | (with_reducible refine Row.step ?_ (by with_reducible assumption)) | (with_reducible refine Row.set2' ?_ _ _; first | exact ⟨_, _, by with_reducible assumption⟩ | exact ⟨_, _, Row.alloc (by with_reducible assumption) _⟩ | exact ⟨_, _, Row.alloc (Row.alloc (by with_reducible assumption) _) _⟩) | (with_reducible refine Row.other ?_ (by first | omega | (simp; done) | (simp; omega)) _)))
                      have c_x_0_3 := R_x_3.cell 0 rfl
                      have c_x_1_3 := R_x_3.cell 1 rfl
                      have c_x_2_3 := R_x_3.cell 2 rfl
                      have l_x_3 := R_x_3.lt
                      have HB3 : Below w.heap.size w w3 := by (repeat' (first | (with_reducible exact Below.refl _ _) | (with_reducible assumption) | (with_reducible exact Bw.out (by with_reducible assumption)) | (with_reducible refine bw_alloc ?_ _) | (with_reducible refine bw_step ?_ (by with_reducible assumption)) | (with_reducible refine Below.alloc ?_ ?_ _) | (with_reducible refine Below.drew ?_) | (with_reducible refine below_drewN ?_ _) | (with_reducible refine Below.setCell ?_ ?_ _) | (with_reducible refine below_step ?_ (by with_reducible assumption) ?_) | (with_reducible exact Nat.le_refl _) | omega | (simp; omega) | (simp; done)))
                      have hS3 : (fun w' : World => w'.cell? ⟨w.heap.size, 0, none⟩ = some (.int .i64 B.id) ∧ w'.cell? ⟨w.heap.size, 1, none⟩ = some (.int .i64 B.kind) ∧ w'.cell? ⟨w.heap.size, 2, none⟩ = some (.int .i64 B.rooms) ∧ w'.cell? ⟨w.heap.size, 3, none⟩ = some (.int .i64 B.fr) ∧ w'.cell? ⟨w.heap.size, 4, none⟩ = some (.int .i64 B.un) ∧ w'.cell? ⟨w.heap.size, 5, none⟩ = some (.slice (some ⟨b, off, none⟩) cn cc) ∧ w'.cell? ⟨w.heap.size, 6, none⟩ = some (.int .i64 B.pn) ∧ w'.cell? ⟨w.heap.size, 7, none⟩ = some (.int .i64 B.pd) ∧ w'.cell? ⟨w.heap.size, 8, none⟩ = some (.int .i64 B.fee) ∧ w'.cell? ⟨w.heap.size, 9, none⟩ = some (.slice pa pm pc) ∧ w'.cell? ⟨w2.heap.size, 0, none⟩ = some (.int .i64 (d)) ∧ w'.cell? ⟨w2.heap.size, 1, none⟩ = some (.int .i64 (kn)) ∧ w'.cell? ⟨w2.heap.size, 2, none⟩ = some (.int .i64 (kd))) w3 := ⟨c_b_0_3, c_b_1_3, c_b_2_3, c_b_3_3, c_b_4_3, c_b_5_3, c_b_6_3, c_b_7_3, c_b_8_3, c_b_9_3, c_x_0_3, c_x_1_3, c_x_2_3⟩
                      refine hKz _ _ (fun _ => hS3) ?_
                      clear hKz Kz hS2
                      refine AnyJ.takeD (i := 3) (d := some 79) (v := ?_) rfl (by kernel_rfl) (by kernel_rfl) (by kernel_rfl) (by kernel_rfl) (by kernel_rfl) (fun _ _ _ h => h) (Or.inl ⟨by kernel_rfl, ?_⟩) hS3 ?_
                      rotate_left
                      · intro w' hS
                        clear hS
                        go_simp
                        try with_reducible rfl
                      refine AnyJ.takeD (i := 4) (d := some 80) (v := ?_) rfl (by kernel_rfl) (by kernel_rfl) (by kernel_rfl) (by kernel_rfl) (by kernel_rfl) (fun _ _ _ h => h) (Or.inl ⟨by kernel_rfl, ?_⟩) hS3 ?_
                      rotate_left
                      · intro w' hS
                        clear hS
                        go_simp
                        try with_reducible rfl
                      refine AnyJ.takeD (i := 5) (d := some 81) (v := ?_) rfl (by kernel_rfl) (by kernel_rfl) (by kernel_rfl) (by kernel_rfl) (by kernel_rfl) (fun _ _ _ h => h) (Or.inl ⟨by kernel_rfl, ?_⟩) hS3 ?_
                      rotate_left
                      · intro w' hS
                        clear hS
                        go_simp
                        try with_reducible rfl
                      refine AnyJ.takeD (i := 6) (d := some 82) (v := ?_) rfl (by kernel_rfl) (by kernel_rfl) (by kernel_rfl) (by kernel_rfl) (by kernel_rfl) (fun _ _ _ h => h) (Or.inl ⟨by kernel_rfl, ?_⟩) hS3 ?_
                      rotate_left
                      · intro w' hS
                        obtain ⟨sF0, sF1, sF2, sF3, sF4, sF5, sF6, sF7, sF8, sF9, sF10, sF11, sF12⟩ := hS
                        go_simp
                        try with_reducible rfl
                      refine AnyJ.one (i := 7) (by kernel_rfl) rfl (fun Kz hKz => ?_)
                      go_simp
                      refine (g_isPart_c kn kd false _ hp).mono ?_
                      rintro e w4 ⟨rfl, hb4⟩
                      have R_b_4 : Row w4 (w.heap.size) [.int .i64 B.id, .int .i64 B.kind, .int .i64 B.rooms, .int .i64 B.fr, .int .i64 B.un, .slice (some ⟨b, off, none⟩) cn cc, .int .i64 B.pn, .int .i64 B.pd, .int .i64 B.fee, .slice pa pm pc] := by (repeat' (first | (with_reducible assumption) | (with_reducible refine Row.new' _ _ _ (by first | rfl | (simp; done) | omega)) | (with_reducible refine Row.alloc ?_ _) | (with_reducible refine Row.drew ?_) | (with_reducible refine Row.drewN ?_ _) | (with_reducible refine Row.step ?_ (by with_reducible assumption)) | (with_reducible refine Row.set2' ?_ _ _; first | exact ⟨_, _, by with_reducible assumption⟩ | exact ⟨_, _, Row.alloc (by with_reducible assumption) _⟩ | exact ⟨_, _, Row.alloc (Row.alloc (by with_reducible assumption) _) _⟩) | (with_reducible refine Row.other ?_ (by first | omega | (simp; done) | (simp; omega)) _)))
                      have c_b_0_4 := R_b_4.cell 0 rfl
                      have c_b_1_4 := R_b_4.cell 1 rfl
                      have c_b_2_4 := R_b_4.cell 2 rfl
                      have c_b_3_4 := R_b_4.cell 3 rfl
                      have c_b_4_4 := R_b_4.cell 4 rfl
                      have c_b_5_4 := R_b_4.cell 5 rfl
                      have c_b_6_4 := R_b_4.cell 6 rfl
                      have c_b_7_4 := R_b_4.cell 7 rfl
                      have c_b_8_4 := R_b_4.cell 8 rfl
                      have c_b_9_4 := R_b_4.cell 9 rfl
                      have l_b_4 := R_b_4.lt
                      have R_x_4 : Row w4 (w2.heap.size) [.int .i64 (d), .int .i64 (kn), .int .i64 (kd)] := by (repeat' (first | (with_reducible assumption) | (with_reducible refine Row.new' _ _ _ (by first | rfl | (simp; done) | omega)) | (with_reducible refine Row.alloc ?_ _) | (with_reducible refine Row.drew ?_) | (with_reducible refine Row.drewN ?_ _) | (with_reducible refine Row.step ?_ (by with_reducible assumption)) | (with_reducible refine Row.set2' ?_ _ _; first | exact ⟨_, _, by with_reducible assumption⟩ | exact ⟨_, _, Row.alloc (by with_reducible assumption) _⟩ | exact ⟨_, _, Row.alloc (Row.alloc (by with_reducible assumption) _) _⟩) | (with_reducible refine Row.other ?_ (by first | omega | (simp; done) | (simp; omega)) _)))
                      have c_x_0_4 := R_x_4.cell 0 rfl
                      have c_x_1_4 := R_x_4.cell 1 rfl
                      have c_x_2_4 := R_x_4.cell 2 rfl
                      have l_x_4 := R_x_4.lt
                      have HB4 : Below w.heap.size w w4 := by (repeat' (first | (with_reducible exact Below.refl _ _) | (with_reducible assumption) | (with_reducible exact Bw.out (by with_reducible assumption)) | (with_reducible refine bw_alloc ?_ _) | (with_reducible refine bw_step ?_ (by with_reducible assumption)) | (with_reducible refine Below.alloc ?_ ?_ _) | (with_reducible refine Below.drew ?_) | (with_reducible refine below_drewN ?_ _) | (with_reducible refine Below.setCell ?_ ?_ _) | (with_reducible refine below_step ?_ (by with_reducible assumption) ?_) | (with_reducible exact Nat.le_refl _) | omega | (simp; omega) | (simp; done)))
                      have hS4 : (fun w' : World => w'.cell? ⟨w.heap.size, 0, none⟩ = some (.int .i64 B.id) ∧ w'.cell? ⟨w.heap.size, 1, none⟩ = some (.int .i64 B.kind) ∧ w'.cell? ⟨w.heap.size, 2, none⟩ = some (.int .i64 B.rooms) ∧ w'.cell? ⟨w.heap.size, 3, none⟩ = some (.int .i64 B.fr) ∧ w'.cell? ⟨w.heap.size, 4, none⟩ = some (.int .i64 B.un) ∧ w'.cell? ⟨w.heap.size, 5, none⟩ = some (.slice (some ⟨b, off, none⟩) cn cc) ∧ w'.cell? ⟨w.heap.size, 6, none⟩ = some (.int .i64 B.pn) ∧ w'.cell? ⟨w.heap.size, 7, none⟩ = some (.int .i64 B.pd) ∧ w'.cell? ⟨w.heap.size, 8, none⟩ = some (.int .i64 B.fee) ∧ w'.cell? ⟨w.heap.size, 9, none⟩ = some (.slice pa pm pc) ∧ w'.cell? ⟨w2.heap.size, 0, none⟩ = some (.int .i64 (d)) ∧ w'.cell? ⟨w2.heap.size, 1, none⟩ = some (.int .i64 (kn)) ∧ w'.cell? ⟨w2.heap.size, 2, none⟩ = some (.int .i64 (kd))) w4 := ⟨c_b_0_4, c_b_1_4, c_b_2_4, c_b_3_4, c_b_4_4, c_b_5_4, c_b_6_4, c_b_7_4, c_b_8_4, c_b_9_4, c_x_0_4, c_x_1_4, c_x_2_4⟩
                      refine hKz _ _ (fun _ => hS4) ?_
                      clear hKz Kz hS3
                      clear R_b_3 c_b_0_3 c_b_1_3 c_b_2_3 c_b_3_3 c_b_4_3 c_b_5_3 c_b_6_3 c_b_7_3 c_b_8_3 c_b_9_3 R_x_3 c_x_0_3 c_x_1_3 c_x_2_3 hb3 HB3
                      refine AnyJ.takeD (i := 8) (d := some 84) (v := ?_) rfl (by kernel_rfl) (by kernel_rfl) (by kernel_rfl) (by kernel_rfl) (by kernel_rfl) (fun _ _ _ h => h) (Or.inl ⟨by kernel_rfl, ?_⟩) hS4 ?_
                      rotate_left
                      · intro w' hS
                        clear hS
                        go_simp
                        try with_reducible rfl
                      refine AnyJ.takeD (i := 9) (d := some 85) (v := ?_) rfl (by kernel_rfl) (by kernel_rfl) (by kernel_rfl) (by kernel_rfl) (by kernel_rfl) (fun _ _ _ h => h) (Or.inl ⟨by kernel_rfl, ?_⟩) hS4 ?_
                      rotate_left
                      · intro w' hS
                        clear hS
                        go_simp
                        try with_reducible rfl
                      refine AnyJ.takeD (i := 10) (d := some 86) (v := ?_) rfl (by kernel_rfl) (by kernel_rfl) (by kernel_rfl) (by kernel_rfl) (by kernel_rfl) (fun _ _ _ h => h) (Or.inl ⟨by kernel_rfl, ?_⟩) hS4 ?_
                      rotate_left
                      · intro w' hS
                        clear hS
                        go_simp
                        try with_reducible rfl
                      refine AnyJ.takeD (i := 11) (d := some 87) (v := undef) rfl (by kernel_rfl) (by kernel_rfl) (by kernel_rfl) (by kernel_rfl) (by kernel_rfl) (fun _ _ _ h => h) (Or.inr ⟨by kernel_rfl, rfl⟩) hS4 ?_
                      refine AnyJ.takeD (i := 12) (d := some 88) (v := undef) rfl (by kernel_rfl) (by kernel_rfl) (by kernel_rfl) (by kernel_rfl) (by kernel_rfl) (fun _ _ _ h => h) (Or.inr ⟨by kernel_rfl, rfl⟩) hS4 ?_
                      refine AnyJ.takeD (i := 13) (d := some 89) (v := undef) rfl (by kernel_rfl) (by kernel_rfl) (by kernel_rfl) (by kernel_rfl) (by kernel_rfl) (fun _ _ _ h => h) (Or.inr ⟨by kernel_rfl, rfl⟩) hS4 ?_
                      refine AnyJ.takeD (i := 14) (d := some 90) (v := undef) rfl (by kernel_rfl) (by kernel_rfl) (by kernel_rfl) (by kernel_rfl) (by kernel_rfl) (fun _ _ _ h => h) (Or.inr ⟨by kernel_rfl, rfl⟩) hS4 ?_
                      refine AnyJ.takeD (i := 15) (d := some 91) (v := undef) rfl (by kernel_rfl) (by kernel_rfl) (by kernel_rfl) (by kernel_rfl) (by kernel_rfl) (fun _ _ _ h => h) (Or.inr ⟨by kernel_rfl, rfl⟩) hS4 ?_
                      refine AnyJ.takeD (i := 16) (d := some 92) (v := undef) rfl (by kernel_rfl) (by kernel_rfl) (by kernel_rfl) (by kernel_rfl) (by kernel_rfl) (fun _ _ _ h => h) (Or.inr ⟨by kernel_rfl, rfl⟩) hS4 ?_
                      refine AnyJ.takeD (i := 17) (d := some 93) (v := undef) rfl (by kernel_rfl) (by kernel_rfl) (by kernel_rfl) (by kernel_rfl) (by kernel_rfl) (fun _ _ _ h => h) (Or.inr ⟨by kernel_rfl, rfl⟩) hS4 ?_
                      refine AnyJ.takeD (i := 18) (d := some 94) (v := undef) rfl (by kernel_rfl) (by kernel_rfl) (by kernel_rfl) (by kernel_rfl) (by kernel_rfl) (fun _ _ _ h => h) (Or.inr ⟨by kernel_rfl, rfl⟩) hS4 ?_
                      refine AnyJ.takeD (i := 19) (d := some 95) (v := undef) rfl (by kernel_rfl) (by kernel_rfl) (by kernel_rfl) (by kernel_rfl) (by kernel_rfl) (fun _ _ _ h => h) (Or.inr ⟨by kernel_rfl, rfl⟩) hS4 ?_
                      refine AnyJ.takeD (i := 20) (d := some 96) (v := undef) rfl (by kernel_rfl) (by kernel_rfl) (by kernel_rfl) (by kernel_rfl) (by kernel_rfl) (fun _ _ _ h => h) (Or.inr ⟨by kernel_rfl, rfl⟩) hS4 ?_
                      refine AnyJ.takeD (i := 21) (d := some 97) (v := undef) rfl (by kernel_rfl) (by kernel_rfl) (by kernel_rfl) (by kernel_rfl) (by kernel_rfl) (fun _ _ _ h => h) (Or.inr ⟨by kernel_rfl, rfl⟩) hS4 ?_
                      refine AnyJ.takeD (i := 22) (d := some 98) (v := undef) rfl (by kernel_rfl) (by kernel_rfl) (by kernel_rfl) (by kernel_rfl) (by kernel_rfl) (fun _ _ _ h => h) (Or.inr ⟨by kernel_rfl, rfl⟩) hS4 ?_
                      refine AnyJ.takeD (i := 23) (d := some 99) (v := undef) rfl (by kernel_rfl) (by kernel_rfl) (by kernel_rfl) (by kernel_rfl) (by kernel_rfl) (fun _ _ _ h => h) (Or.inr ⟨by kernel_rfl, rfl⟩) hS4 ?_
                      refine AnyJ.takeD (i := 24) (d := some 100) (v := undef) rfl (by kernel_rfl) (by kernel_rfl) (by kernel_rfl) (by kernel_rfl) (by kernel_rfl) (fun _ _ _ h => h) (Or.inr ⟨by kernel_rfl, rfl⟩) hS4 ?_
                      refine AnyJ.takeD (i := 25) (d := some 101) (v := ?_) rfl (by kernel_rfl) (by kernel_rfl) (by kernel_rfl) (by kernel_rfl) (by kernel_rfl) (fun _ _ _ h => h) (Or.inl ⟨by kernel_rfl, ?_⟩) hS4 ?_
                      rotate_left
                      · intro w' hS
                        clear hS
                        go_simp
                        try with_reducible rfl
                      refine AnyJ.done (by kernel_rfl) ?_ _
                      clear hS4
                      simp only [Act.put, List.setIfInBounds_toArray, List.set_cons_zero, List.set_cons_succ]
                      obtain rfl : R = false := by
                        rw [← HR.out]
                        simp [blkB, cutsB_false (by rw [HLC.out]; exact hlt) HC2.out]
                      go_wp2_with fail
                      go_ret
                      refine ⟨(by first | rfl | exact ret_bool (by first | rfl | (simp; done) | (simp; omega))), ?_⟩
                      (repeat' (first | (with_reducible exact Below.refl _ _) | (with_reducible assumption) | (with_reducible exact Bw.out (by with_reducible assumption)) | (with_reducible refine bw_alloc ?_ _) | (with_reducible refine bw_step ?_ (by with_reducible assumption)) | (with_reducible refine Below.alloc ?_ ?_ _) | (with_reducible refine Below.drew ?_) | (with_reducible refine below_drewN ?_ _) | (with_reducible refine Below.setCell ?_ ?_ _) | (with_reducible refine below_step ?_ (by with_reducible assumption) ?_) | (with_reducible exact Nat.le_refl _) | omega | (simp; omega) | (simp; done)))
                    | true =>
                      rcases Nat.eq_zero_or_pos k with h0 | h0
                      · subst h0
                        have HC2 : Hid (cutB B.cuts 0 = true) := by show _ = _; rw [cutB_0 g1.out, hd, hp]; rfl
                        refine AnyJ.beginP (fun w' : World => w'.cell? ⟨w.heap.size, 0, none⟩ = some (.int .i64 B.id) ∧ w'.cell? ⟨w.heap.size, 1, none⟩ = some (.int .i64 B.kind) ∧ w'.cell? ⟨w.heap.size, 2, none⟩ = some (.int .i64 B.rooms) ∧ w'.cell? ⟨w.heap.size, 3, none⟩ = some (.int .i64 B.fr) ∧ w'.cell? ⟨w.heap.size, 4, none⟩ = some (.int .i64 B.un) ∧ w'.cell? ⟨w.heap.size, 5, none⟩ = some (.slice (some ⟨b, off, none⟩) cn cc) ∧ w'.cell? ⟨w.heap.size, 6, none⟩ = some (.int .i64 B.pn) ∧ w'.cell? ⟨w.heap.size, 7, none⟩ = some (.int .i64 B.pd) ∧ w'.cell? ⟨w.heap.size, 8, none⟩ = some (.int .i64 B.fee) ∧ w'.cell? ⟨w.heap.size, 9, none⟩ = some (.slice pa pm pc) ∧ w'.cell? ⟨w2.heap.size, 0, none⟩ = some (.int .i64 (d)) ∧ w'.cell? ⟨w2.heap.size, 1, none⟩ = some (.int .i64 (kn)) ∧ w'.cell? ⟨w2.heap.size, 2, none⟩ = some (.int .i64 (kd))) (fun _ => true) (by kernel_rfl) ?_ (fun hS2 => ?_)
                        · exact (show ∀ (P S : World → Prop) (W : World), P W → (∀ w', P w' → S w') → S W from fun P S W h f => f W h) (fun w' : World => Row w' (w.heap.size) [.int .i64 B.id, .int .i64 B.kind, .int .i64 B.rooms, .int .i64 B.fr, .int .i64 B.un, .slice (some ⟨b, off, none⟩) cn cc, .int .i64 B.pn, .int .i64 B.pd, .int .i64 B.fee, .slice pa pm pc] ∧ Row w' (w2.heap.size) [.int .i64 (d), .int .i64 (kn), .int .i64 (kd)]) (fun w' : World => w'.cell? ⟨w.heap.size, 0, none⟩ = some (.int .i64 B.id) ∧ w'.cell? ⟨w.heap.size, 1, none⟩ = some (.int .i64 B.kind) ∧ w'.cell? ⟨w.heap.size, 2, none⟩ = some (.int .i64 B.rooms) ∧ w'.cell? ⟨w.heap.size, 3, none⟩ = some (.int .i64 B.fr) ∧ w'.cell? ⟨w.heap.size, 4, none⟩ = some (.int .i64 B.un) ∧ w'.cell? ⟨w.heap.size, 5, none⟩ = some (.slice (some ⟨b, off, none⟩) cn cc) ∧ w'.cell? ⟨w.heap.size, 6, none⟩ = some (.int .i64 B.pn) ∧ w'.cell? ⟨w.heap.size, 7, none⟩ = some (.int .i64 B.pd) ∧ w'.cell? ⟨w.heap.size, 8, none⟩ = some (.int .i64 B.fee) ∧ w'.cell? ⟨w.heap.size, 9, none⟩ = some (.slice pa pm pc) ∧ w'.cell? ⟨w2.heap.size, 0, none⟩ = some (.int .i64 (d)) ∧ w'.cell? ⟨w2.heap.size, 1, none⟩ = some (.int .i64 (kn)) ∧ w'.cell? ⟨w2.heap.size, 2, none⟩ = some (.int .i64 (kd))) _ (⟨by (repeat' (first | (with_reducible assumption) | (with_reducible refine Row.new' _ _ _ (by first | rfl | (simp; done) | omega)) | (with_reducible refine Row.alloc ?_ _) | (with_reducible refine Row.drew ?_) | (with_reducible refine Row.drewN ?_ _) | (with_reducible refine Row.step ?_ (by with_reducible assumption)) | (with_reducible refine Row.set2' ?_ _ _; first | exact ⟨_, _, by with_reducible assumption⟩ | exact ⟨_, _, Row.alloc (by with_reducible assumption) _⟩ | exact ⟨_, _, Row.alloc (Row.alloc (by with_reducible assumption) _) _⟩) | (with_reducible refine Row.other ?_ (by first | omega | (simp; done) | (simp; omega)) _))), by (repeat' (first | (with_reducible assumption) | (with_reducible refine Row.new' _ _ _ (by first | rfl | (simp; done) | omega)) | (with_reducible refine Row.alloc ?_ _) | (with_reducible refine Row.drew ?_) | (with_reducible refine Row.drewN ?_ _) | (with_reducible refine Row.step ?_ (by with_reducible assumption)) | (with_reducible refine Row.set2' ?_ _ _; first | exact ⟨_, _, by with_reducible assumption⟩ | exact ⟨_, _, Row.alloc (by with_reducible assumption) _⟩ | exact ⟨_, _, Row.alloc (Row.alloc (by with_reducible assumption) _) _⟩) | (with_reducible refine Row.other ?_ (by first | omega | (simp; done) | (simp; omega)) _)))⟩) (fun w' ⟨hP0, hP1⟩ => ⟨hP0.cell 0 rfl, hP0.cell 1 rfl, hP0.cell 2 rfl, hP0.cell 3 rfl, hP0.cell 4 rfl, hP0.cell 5 rfl, hP0.cell 6 rfl, hP0.cell 7 rfl, hP0.cell 8 rfl, hP0.cell 9 rfl, hP1.cell 0 rfl, hP1.cell 1 rfl, hP1.cell 2 rfl⟩)
                        refine AnyJ.takeD (i := 0) (d := some 76) (v := ?_) rfl (by kernel_rfl) (by kernel_rfl) (by kernel_rfl) (by kernel_rfl) (by kernel_rfl) (fun _ _ _ h => h) (Or.inl ⟨by kernel_rfl, ?_⟩) hS2 ?_
                        rotate_left
                        · intro w' hS
                          clear hS
                          go_simp
                          try with_reducible rfl
                        refine AnyJ.takeD (i := 1) (d := some 77) (v := ?_) rfl (by kernel_rfl) (by kernel_rfl) (by kernel_rfl) (by kernel_rfl) (by kernel_rfl) (fun _ _ _ h => h) (Or.inl ⟨by kernel_rfl, ?_⟩) hS2 ?_
                        rotate_left
                        · intro w' hS
                          obtain ⟨sF0, sF1, sF2, sF3, sF4, sF5, sF6, sF7, sF8, sF9, sF10, sF11, sF12⟩ := hS
                          go_simp
                          try with_reducible rfl
                        refine AnyJ.one (i := 2) (by kernel_rfl) rfl (fun Kz hKz => ?_)
                        go_simp
                        refine (g_isDay_c d true _ hd).mono ?_
                        rintro e w3 ⟨rfl, hb3⟩
                        have R_b_3 : Row w3 (w.heap.size) [.int .i64 B.id, .int .i64 B.kind, .int .i64 B.rooms, .int .i64 B.fr, .int .i64 B.un, .slice (some ⟨b, off, none⟩) cn cc, .int .i64 B.pn, .int .i64 B.pd, .int .i64 B.fee, .slice pa pm pc] := by (repeat' (first | (with_reducible assumption) | (with_reducible refine Row.new' _ _ _ (by first | rfl | (simp; done) | omega)) | (with_reducible refine Row.alloc ?_ _) | (with_reducible refine Row.drew ?_) | (with_reducible refine Row.drewN ?_ _) | (with_reducible refine Row.step ?_ (by with_reducible assumption)) | (with_reducible refine Row.set2' ?_ _ _; first | exact ⟨_, _, by with_reducible assumption⟩ | exact ⟨_, _, Row.alloc (by with_reducible assumption) _⟩ | exact ⟨_, _, Row.alloc (Row.alloc (by with_reducible assumption) _) _⟩) | (with_reducible refine Row.other ?_ (by first | omega | (simp; done) | (simp; omega)) _)))
                        have c_b_0_3 := R_b_3.cell 0 rfl
                        have c_b_1_3 := R_b_3.cell 1 rfl
                        have c_b_2_3 := R_b_3.cell 2 rfl
                        have c_b_3_3 := R_b_3.cell 3 rfl
                        have c_b_4_3 := R_b_3.cell 4 rfl
                        have c_b_5_3 := R_b_3.cell 5 rfl
                        have c_b_6_3 := R_b_3.cell 6 rfl
                        have c_b_7_3 := R_b_3.cell 7 rfl
                        have c_b_8_3 := R_b_3.cell 8 rfl
                        have c_b_9_3 := R_b_3.cell 9 rfl
                        have l_b_3 := R_b_3.lt
                        have R_x_3 : Row w3 (w2.heap.size) [.int .i64 (d), .int .i64 (kn), .int .i64 (kd)] := by (repeat' (first | (with_reducible assumption) | (with_reducible refine Row.new' _ _ _ (by first | rfl | (simp; done) | omega)) | (with_reducible refine Row.alloc ?_ _) | (with_reducible refine Row.drew ?_) | (with_reducible refine Row.drewN ?_ _) | (with_reducible refine Row.step ?_ (by with_reducible assumption)) | (with_reducible refine Row.set2' ?_ _ _; first | exact ⟨_, _, by with_reducible assumption⟩ | exact ⟨_, _, Row.alloc (by with_reducible assumption) _⟩ | exact ⟨_, _, Row.alloc (Row.alloc (by with_reducible assumption) _) _⟩) | (with_reducible refine Row.other ?_ (by first | omega | (simp; done) | (simp; omega)) _)))
                        have c_x_0_3 := R_x_3.cell 0 rfl
                        have c_x_1_3 := R_x_3.cell 1 rfl
                        have c_x_2_3 := R_x_3.cell 2 rfl
                        have l_x_3 := R_x_3.lt
                        have HB3 : Below w.heap.size w w3 := by (repeat' (first | (with_reducible exact Below.refl _ _) | (with_reducible assumption) | (with_reducible exact Bw.out (by with_reducible assumption)) | (with_reducible refine bw_alloc ?_ _) | (with_reducible refine bw_step ?_ (by with_reducible assumption)) | (with_reducible refine Below.alloc ?_ ?_ _) | (with_reducible refine Below.drew ?_) | (with_reducible refine below_drewN ?_ _) | (with_reducible refine Below.setCell ?_ ?_ _) | (with_reducible refine below_step ?_ (by with_reducible assumption) ?_) | (with_reducible exact Nat.le_refl _) | omega | (simp; omega) | (simp; done)))
                        have hS3 : (fun w' : World => w'.cell? ⟨w.heap.size, 0, none⟩ = some (.int .i64 B.id) ∧ w'.cell? ⟨w.heap.size, 1, none⟩ = some (.int .i64 B.kind) ∧ w'.cell? ⟨w.heap.size, 2, none⟩ = some (.int .i64 B.rooms) ∧ w'.cell? ⟨w.heap.size, 3, none⟩ = some (.int .i64 B.fr) ∧ w'.cell? ⟨w.heap.size, 4, none⟩ = some (.int .i64 B.un) ∧ w'.cell? ⟨w.heap.size, 5, none⟩ = some (.slice (some ⟨b, off, none⟩) cn cc) ∧ w'.cell? ⟨w.heap.size, 6, none⟩ = some (.int .i64 B.pn) ∧ w'.cell? ⟨w.heap.size, 7, none⟩ = some (.int .i64 B.pd) ∧ w'.cell? ⟨w.heap.size, 8, none⟩ = some (.int .i64 B.fee) ∧ w'.cell? ⟨w.heap.size, 9, none⟩ = some (.slice pa pm pc) ∧ w'.cell? ⟨w2.heap.size, 0, none⟩ = some (.int .i64 (d)) ∧ w'.cell? ⟨w2.heap.size, 1, none⟩ = some (.int .i64 (kn)) ∧ w'.cell? ⟨w2.heap.size, 2, none⟩ = some (.int .i64 (kd))) w3 := ⟨c_b_0_3, c_b_1_3, c_b_2_3, c_b_3_3, c_b_4_3, c_b_5_3, c_b_6_3, c_b_7_3, c_b_8_3, c_b_9_3, c_x_0_3, c_x_1_3, c_x_2_3⟩
                        refine hKz _ _ (fun _ => hS3) ?_
                        clear hKz Kz hS2
                        refine AnyJ.takeD (i := 3) (d := some 79) (v := ?_) rfl (by kernel_rfl) (by kernel_rfl) (by kernel_rfl) (by kernel_rfl) (by kernel_rfl) (fun _ _ _ h => h) (Or.inl ⟨by kernel_rfl, ?_⟩) hS3 ?_
                        rotate_left
                        · intro w' hS
                          clear hS
                          go_simp
                          try with_reducible rfl
                        refine AnyJ.takeD (i := 4) (d := some 80) (v := ?_) rfl (by kernel_rfl) (by kernel_rfl) (by kernel_rfl) (by kernel_rfl) (by kernel_rfl) (fun _ _ _ h => h) (Or.inl ⟨by kernel_rfl, ?_⟩) hS3 ?_
                        rotate_left
                        · intro w' hS
                          clear hS
                          go_simp
                          try with_reducible rfl
                        refine AnyJ.takeD (i := 5) (d := some 81) (v := ?_) rfl (by kernel_rfl) (by kernel_rfl) (by kernel_rfl) (by kernel_rfl) (by kernel_rfl) (fun _ _ _ h => h) (Or.inl ⟨by kernel_rfl, ?_⟩) hS3 ?_
                        rotate_left
                        · intro w' hS
                          clear hS
                          go_simp
                          try with_reducible rfl
                        refine AnyJ.takeD (i := 6) (d := some 82) (v := ?_) rfl (by kernel_rfl) (by kernel_rfl) (by kernel_rfl) (by kernel_rfl) (by kernel_rfl) (fun _ _ _ h => h) (Or.inl ⟨by kernel_rfl, ?_⟩) hS3 ?_
                        rotate_left
                        · intro w' hS
                          obtain ⟨sF0, sF1, sF2, sF3, sF4, sF5, sF6, sF7, sF8, sF9, sF10, sF11, sF12⟩ := hS
                          go_simp
                          try with_reducible rfl
                        refine AnyJ.one (i := 7) (by kernel_rfl) rfl (fun Kz hKz => ?_)
                        go_simp
                        refine (g_isPart_c kn kd true _ hp).mono ?_
                        rintro e w4 ⟨rfl, hb4⟩
                        have R_b_4 : Row w4 (w.heap.size) [.int .i64 B.id, .int .i64 B.kind, .int .i64 B.rooms, .int .i64 B.fr, .int .i64 B.un, .slice (some ⟨b, off, none⟩) cn cc, .int .i64 B.pn, .int .i64 B.pd, .int .i64 B.fee, .slice pa pm pc] := by (repeat' (first | (with_reducible assumption) | (with_reducible refine Row.new' _ _ _ (by first | rfl | (simp; done) | omega)) | (with_reducible refine Row.alloc ?_ _) | (with_reducible refine Row.drew ?_) | (with_reducible refine Row.drewN ?_ _) | (with_reducible refine Row.step ?_ (by with_reducible assumption)) | (with_reducible refine Row.set2' ?_ _ _; first | exact ⟨_, _, by with_reducible assumption⟩ | exact ⟨_, _, Row.alloc (by with_reducible assumption) _⟩ | exact ⟨_, _, Row.alloc (Row.alloc (by with_reducible assumption) _) _⟩) | (with_reducible refine Row.other ?_ (by first | omega | (simp; done) | (simp; omega)) _)))
                        have c_b_0_4 := R_b_4.cell 0 rfl
                        have c_b_1_4 := R_b_4.cell 1 rfl
                        have c_b_2_4 := R_b_4.cell 2 rfl
                        have c_b_3_4 := R_b_4.cell 3 rfl
                        have c_b_4_4 := R_b_4.cell 4 rfl
                        have c_b_5_4 := R_b_4.cell 5 rfl
                        have c_b_6_4 := R_b_4.cell 6 rfl
                        have c_b_7_4 := R_b_4.cell 7 rfl
                        have c_b_8_4 := R_b_4.cell 8 rfl
                        have c_b_9_4 := R_b_4.cell 9 rfl
                        have l_b_4 := R_b_4.lt
                        have R_x_4 : Row w4 (w2.heap.size) [.int .i64 (d), .int .i64 (kn), .int .i64 (kd)] := by (repeat' (first | (with_reducible assumption) | (with_reducible refine Row.new' _ _ _ (by first | rfl | (simp; done) | omega)) | (with_reducible refine Row.alloc ?_ _) | (with_reducible refine Row.drew ?_) | (with_reducible refine Row.drewN ?_ _) | (with_reducible refine Row.step ?_ (by with_reducible assumption)) | (with_reducible refine Row.set2' ?_ _ _; first | exact ⟨_, _, by with_reducible assumption⟩ | exact ⟨_, _, Row.alloc (by with_reducible assumption) _⟩ | exact ⟨_, _, Row.alloc (Row.alloc (by with_reducible assumption) _) _⟩) | (with_reducible refine Row.other ?_ (by first | omega | (simp; done) | (simp; omega)) _)))
                        have c_x_0_4 := R_x_4.cell 0 rfl
                        have c_x_1_4 := R_x_4.cell 1 rfl
                        have c_x_2_4 := R_x_4.cell 2 rfl
                        have l_x_4 := R_x_4.lt
                        have HB4 : Below w.heap.size w w4 := by (repeat' (first | (with_reducible exact Below.refl _ _) | (with_reducible assumption) | (with_reducible exact Bw.out (by with_reducible assumption)) | (with_reducible refine bw_alloc ?_ _) | (with_reducible refine bw_step ?_ (by with_reducible assumption)) | (with_reducible refine Below.alloc ?_ ?_ _) | (with_reducible refine Below.drew ?_) | (with_reducible refine below_drewN ?_ _) | (with_reducible refine Below.setCell ?_ ?_ _) | (with_reducible refine below_step ?_ (by with_reducible assumption) ?_) | (with_reducible exact Nat.le_refl _) | omega | (simp; omega) | (simp; done)))
                        have hS4 : (fun w' : World => w'.cell? ⟨w.heap.size, 0, none⟩ = some (.int .i64 B.id) ∧ w'.cell? ⟨w.heap.size, 1, none⟩ = some (.int .i64 B.kind) ∧ w'.cell? ⟨w.heap.size, 2, none⟩ = some (.int .i64 B.rooms) ∧ w'.cell? ⟨w.heap.size, 3, none⟩ = some (.int .i64 B.fr) ∧ w'.cell? ⟨w.heap.size, 4, none⟩ = some (.int .i64 B.un) ∧ w'.cell? ⟨w.heap.size, 5, none⟩ = some (.slice (some ⟨b, off, none⟩) cn cc) ∧ w'.cell? ⟨w.heap.size, 6, none⟩ = some (.int .i64 B.pn) ∧ w'.cell? ⟨w.heap.size, 7, none⟩ = some (.int .i64 B.pd) ∧ w'.cell? ⟨w.heap.size, 8, none⟩ = some (.int .i64 B.fee) ∧ w'.cell? ⟨w.heap.size, 9, none⟩ = some (.slice pa pm pc) ∧ w'.cell? ⟨w2.heap.size, 0, none⟩ = some (.int .i64 (d)) ∧ w'.cell? ⟨w2.heap.size, 1, none⟩ = some (.int .i64 (kn)) ∧ w'.cell? ⟨w2.heap.size, 2, none⟩ = some (.int .i64 (kd))) w4 := ⟨c_b_0_4, c_b_1_4, c_b_2_4, c_b_3_4, c_b_4_4, c_b_5_4, c_b_6_4, c_b_7_4, c_b_8_4, c_b_9_4, c_x_0_4, c_x_1_4, c_x_2_4⟩
                        refine hKz _ _ (fun _ => hS4) ?_
                        clear hKz Kz hS3
                        clear R_b_3 c_b_0_3 c_b_1_3 c_b_2_3 c_b_3_3 c_b_4_3 c_b_5_3 c_b_6_3 c_b_7_3 c_b_8_3 c_b_9_3 R_x_3 c_x_0_3 c_x_1_3 c_x_2_3 hb3 HB3
                        refine AnyJ.takeD (i := 8) (d := some 84) (v := ?_) rfl (by kernel_rfl) (by kernel_rfl) (by kernel_rfl) (by kernel_rfl) (by kernel_rfl) (fun _ _ _ h => h) (Or.inl ⟨by kernel_rfl, ?_⟩) hS4 ?_
                        rotate_left
                        · intro w' hS
                          clear hS
                          go_simp
                          try with_reducible rfl
                        refine AnyJ.takeD (i := 9) (d := some 85) (v := ?_) rfl (by kernel_rfl) (by kernel_rfl) (by kernel_rfl) (by kernel_rfl) (by kernel_rfl) (fun _ _ _ h => h) (Or.inl ⟨by kernel_rfl, ?_⟩) hS4 ?_
                        rotate_left
                        · intro w' hS
                          clear hS
                          go_simp
                          try with_reducible rfl
                        refine AnyJ.takeD (i := 10) (d := some 86) (v := ?_) rfl (by kernel_rfl) (by kernel_rfl) (by kernel_rfl) (by kernel_rfl) (by kernel_rfl) (fun _ _ _ h => h) (Or.inl ⟨by kernel_rfl, ?_⟩) hS4 ?_
                        rotate_left
                        · intro w' hS
                          clear hS
                          go_simp
                          try with_reducible rfl
                        refine AnyJ.takeD (i := 11) (d := some 87) (v := ?_) rfl (by kernel_rfl) (by kernel_rfl) (by kernel_rfl) (by kernel_rfl) (by kernel_rfl) (fun _ _ _ h => h) (Or.inl ⟨by kernel_rfl, ?_⟩) hS4 ?_
                        rotate_left
                        · intro w' hS
                          clear hS
                          go_simp
                          try with_reducible rfl
                        refine AnyJ.takeD (i := 12) (d := some 88) (v := ?_) rfl (by kernel_rfl) (by kernel_rfl) (by kernel_rfl) (by kernel_rfl) (by kernel_rfl) (fun _ _ _ h => h) (Or.inl ⟨by kernel_rfl, ?_⟩) hS4 ?_
                        rotate_left
                        · intro w' hS
                          clear hS
                          go_simp
                          try with_reducible rfl
                        refine AnyJ.takeD (i := 13) (d := some 89) (v := ?_) rfl (by kernel_rfl) (by kernel_rfl) (by kernel_rfl) (by kernel_rfl) (by kernel_rfl) (fun _ _ _ h => h) (Or.inl ⟨by kernel_rfl, ?_⟩) hS4 ?_
                        rotate_left
                        · intro w' hS
                          clear hS
                          go_simp
                          try with_reducible rfl
                        refine AnyJ.takeD (i := 14) (d := some 90) (v := undef) rfl (by kernel_rfl) (by kernel_rfl) (by kernel_rfl) (by kernel_rfl) (by kernel_rfl) (fun _ _ _ h => h) (Or.inr ⟨by kernel_rfl, rfl⟩) hS4 ?_
                        refine AnyJ.takeD (i := 15) (d := some 91) (v := undef) rfl (by kernel_rfl) (by kernel_rfl) (by kernel_rfl) (by kernel_rfl) (by kernel_rfl) (fun _ _ _ h => h) (Or.inr ⟨by kernel_rfl, rfl⟩) hS4 ?_
                        refine AnyJ.takeD (i := 16) (d := some 92) (v := undef) rfl (by kernel_rfl) (by kernel_rfl) (by kernel_rfl) (by kernel_rfl) (by kernel_rfl) (fun _ _ _ h => h) (Or.inr ⟨by kernel_rfl, rfl⟩) hS4 ?_
                        refine AnyJ.takeD (i := 17) (d := some 93) (v := undef) rfl (by kernel_rfl) (by kernel_rfl) (by kernel_rfl) (by kernel_rfl) (by kernel_rfl) (fun _ _ _ h => h) (Or.inr ⟨by kernel_rfl, rfl⟩) hS4 ?_
                        refine AnyJ.takeD (i := 18) (d := some 94) (v := undef) rfl (by kernel_rfl) (by kernel_rfl) (by kernel_rfl) (by kernel_rfl) (by kernel_rfl) (fun _ _ _ h => h) (Or.inr ⟨by kernel_rfl, rfl⟩) hS4 ?_
                        refine AnyJ.takeD (i := 19) (d := some 95) (v := undef) rfl (by kernel_rfl) (by kernel_rfl) (by kernel_rfl) (by kernel_rfl) (by kernel_rfl) (fun _ _ _ h => h) (Or.inr ⟨by kernel_rfl, rfl⟩) hS4 ?_
                        refine AnyJ.takeD (i := 20) (d := some 96) (v := undef) rfl (by kernel_rfl) (by kernel_rfl) (by kernel_rfl) (by kernel_rfl) (by kernel_rfl) (fun _ _ _ h => h) (Or.inr ⟨by kernel_rfl, rfl⟩) hS4 ?_
                        refine AnyJ.takeD (i := 21) (d := some 97) (v := undef) rfl (by kernel_rfl) (by kernel_rfl) (by kernel_rfl) (by kernel_rfl) (by kernel_rfl) (fun _ _ _ h => h) (Or.inr ⟨by kernel_rfl, rfl⟩) hS4 ?_
                        refine AnyJ.takeD (i := 22) (d := some 98) (v := undef) rfl (by kernel_rfl) (by kernel_rfl) (by kernel_rfl) (by kernel_rfl) (by kernel_rfl) (fun _ _ _ h => h) (Or.inr ⟨by kernel_rfl, rfl⟩) hS4 ?_
                        refine AnyJ.takeD (i := 23) (d := some 99) (v := undef) rfl (by kernel_rfl) (by kernel_rfl) (by kernel_rfl) (by kernel_rfl) (by kernel_rfl) (fun _ _ _ h => h) (Or.inr ⟨by kernel_rfl, rfl⟩) hS4 ?_
                        refine AnyJ.takeD (i := 24) (d := some 100) (v := ?_) rfl (by kernel_rfl) (by kernel_rfl) (by kernel_rfl) (by kernel_rfl) (by kernel_rfl) (fun _ _ _ h => h) (Or.inl ⟨by kernel_rfl, ?_⟩) hS4 ?_
                        rotate_left
                        · intro w' hS
                          clear hS
                          go_simp
                          try with_reducible rfl
                        refine AnyJ.takeD (i := 25) (d := some 101) (v := ?_) rfl (by kernel_rfl) (by kernel_rfl) (by kernel_rfl) (by kernel_rfl) (by kernel_rfl) (fun _ _ _ h => h) (Or.inl ⟨by kernel_rfl, ?_⟩) hS4 ?_
                        rotate_left
                        · intro w' hS
                          clear hS
                          go_simp
                          try with_reducible rfl
                        refine AnyJ.done (by kernel_rfl) ?_ _
                        clear hS4
                        simp only [Act.put, List.setIfInBounds_toArray, List.set_cons_zero, List.set_cons_succ]
                        go_wp2_with fail
                        go_roundw
                        case rel =>
                          refine ⟨0 + 1, by omega, by go_num, fun i hi => ?_, R_b_4, HB4⟩
                          rcases Nat.lt_or_ge i 0 with hjk | hjk
                          · exact hT.out i hjk
                          · obtain rfl : i = 0 := by omega
                            exact HC2.out
                        case measure => simp [intOf]; omega
                      · obtain ⟨j, rfl⟩ : ∃ j, k = j + 1 := ⟨k - 1, by omega⟩
                        obtain ⟨d0, kn0, kd0, b0, off0, f1, _, _, e, hbl0, cd0, _, _⟩ := (HC.out.below HB2).get (show j < cn by omega)
                        cases e
                        have X0 : CellAt w2 b (off + j * 3) (.int .i64 d0) := cd0
                        clear cd0
                        have j1 : ((j + 1 : Nat) : Int) - 1 = (j : Int) := by omega
                        have j2 : (0 : Int) ≤ (j : Int) := by omega
                        have j3 : (j : Int) < (cn : Int) := by omega
                        have j4 : IntKind.i64.wrap (j : Int) = (j : Int) := IntWalk.i64_in _ (by omega)
                        have j5 : decide ((0 : Int) < ((j + 1 : Nat) : Int)) = true := by simp
                        by_cases hlt2 : d0 < d
                        · have HC2 : Hid (cutB B.cuts (j + 1) = true) := by show _ = _; rw [cutB_s f1.out g1.out, hd, hp]; simp; exact hlt2
                          have j6 : decide (d ≤ d0) = false := by simp; omega
                          clear hlt2
                          refine AnyJ.beginP (fun w' : World => w'.cell? ⟨w.heap.size, 0, none⟩ = some (.int .i64 B.id) ∧ w'.cell? ⟨w.heap.size, 1, none⟩ = some (.int .i64 B.kind) ∧ w'.cell? ⟨w.heap.size, 2, none⟩ = some (.int .i64 B.rooms) ∧ w'.cell? ⟨w.heap.size, 3, none⟩ = some (.int .i64 B.fr) ∧ w'.cell? ⟨w.heap.size, 4, none⟩ = some (.int .i64 B.un) ∧ w'.cell? ⟨w.heap.size, 5, none⟩ = some (.slice (some ⟨b, off, none⟩) cn cc) ∧ w'.cell? ⟨w.heap.size, 6, none⟩ = some (.int .i64 B.pn) ∧ w'.cell? ⟨w.heap.size, 7, none⟩ = some (.int .i64 B.pd) ∧ w'.cell? ⟨w.heap.size, 8, none⟩ = some (.int .i64 B.fee) ∧ w'.cell? ⟨w.heap.size, 9, none⟩ = some (.slice pa pm pc) ∧ w'.cell? ⟨w2.heap.size, 0, none⟩ = some (.int .i64 (d)) ∧ w'.cell? ⟨w2.heap.size, 1, none⟩ = some (.int .i64 (kn)) ∧ w'.cell? ⟨w2.heap.size, 2, none⟩ = some (.int .i64 (kd)) ∧ w'.cell? ⟨b, off + j * 3, none⟩ = some (.int .i64 d0)) (fun _ => true) (by kernel_rfl) ?_ (fun hS2 => ?_)
                          · exact (show ∀ (P S : World → Prop) (W : World), P W → (∀ w', P w' → S w') → S W from fun P S W h f => f W h) (fun w' : World => Row w' (w.heap.size) [.int .i64 B.id, .int .i64 B.kind, .int .i64 B.rooms, .int .i64 B.fr, .int .i64 B.un, .slice (some ⟨b, off, none⟩) cn cc, .int .i64 B.pn, .int .i64 B.pd, .int .i64 B.fee, .slice pa pm pc] ∧ Row w' (w2.heap.size) [.int .i64 (d), .int .i64 (kn), .int .i64 (kd)] ∧ w'.cell? ⟨b, off + j * 3, none⟩ = some (.int .i64 d0)) (fun w' : World => w'.cell? ⟨w.heap.size, 0, none⟩ = some (.int .i64 B.id) ∧ w'.cell? ⟨w.heap.size, 1, none⟩ = some (.int .i64 B.kind) ∧ w'.cell? ⟨w.heap.size, 2, none⟩ = some (.int .i64 B.rooms) ∧ w'.cell? ⟨w.heap.size, 3, none⟩ = some (.int .i64 B.fr) ∧ w'.cell? ⟨w.heap.size, 4, none⟩ = some (.int .i64 B.un) ∧ w'.cell? ⟨w.heap.size, 5, none⟩ = some (.slice (some ⟨b, off, none⟩) cn cc) ∧ w'.cell? ⟨w.heap.size, 6, none⟩ = some (.int .i64 B.pn) ∧ w'.cell? ⟨w.heap.size, 7, none⟩ = some (.int .i64 B.pd) ∧ w'.cell? ⟨w.heap.size, 8, none⟩ = some (.int .i64 B.fee) ∧ w'.cell? ⟨w.heap.size, 9, none⟩ = some (.slice pa pm pc) ∧ w'.cell? ⟨w2.heap.size, 0, none⟩ = some (.int .i64 (d)) ∧ w'.cell? ⟨w2.heap.size, 1, none⟩ = some (.int .i64 (kn)) ∧ w'.cell? ⟨w2.heap.size, 2, none⟩ = some (.int .i64 (kd)) ∧ w'.cell? ⟨b, off + j * 3, none⟩ = some (.int .i64 d0)) _ (⟨by (repeat' (first | (with_reducible assumption) | (with_reducible refine Row.new' _ _ _ (by first | rfl | (simp; done) | omega)) | (with_reducible refine Row.alloc ?_ _) | (with_reducible refine Row.drew ?_) | (with_reducible refine Row.drewN ?_ _) | (with_reducible refine Row.step ?_ (by with_reducible assumption)) | (with_reducible refine Row.set2' ?_ _ _; first | exact ⟨_, _, by with_reducible assumption⟩ | exact ⟨_, _, Row.alloc (by with_reducible assumption) _⟩ | exact ⟨_, _, Row.alloc (Row.alloc (by with_reducible assumption) _) _⟩) | (with_reducible refine Row.other ?_ (by first | omega | (simp; done) | (simp; omega)) _))), by (repeat' (first | (with_reducible assumption) | (with_reducible refine Row.new' _ _ _ (by first | rfl | (simp; done) | omega)) | (with_reducible refine Row.alloc ?_ _) | (with_reducible refine Row.drew ?_) | (with_reducible refine Row.drewN ?_ _) | (with_reducible refine Row.step ?_ (by with_reducible assumption)) | (with_reducible refine Row.set2' ?_ _ _; first | exact ⟨_, _, by with_reducible assumption⟩ | exact ⟨_, _, Row.alloc (by with_reducible assumption) _⟩ | exact ⟨_, _, Row.alloc (Row.alloc (by with_reducible assumption) _) _⟩) | (with_reducible refine Row.other ?_ (by first | omega | (simp; done) | (simp; omega)) _))), CellAt.out (by (repeat' (first | (with_reducible assumption) | (with_reducible refine CellAt.drew ?_) | (with_reducible refine CellAt.drewN ?_ _) | (with_reducible refine CellAt.alloc ?_ _) | (with_reducible refine CellAt.step ?_ (by with_reducible assumption)))))⟩) (fun w' ⟨hP0, hP1, hF0⟩ => ⟨hP0.cell 0 rfl, hP0.cell 1 rfl, hP0.cell 2 rfl, hP0.cell 3 rfl, hP0.cell 4 rfl, hP0.cell 5 rfl, hP0.cell 6 rfl, hP0.cell 7 rfl, hP0.cell 8 rfl, hP0.cell 9 rfl, hP1.cell 0 rfl, hP1.cell 1 rfl, hP1.cell 2 rfl, hF0⟩)
                          refine AnyJ.takeD (i := 0) (d := some 76) (v := ?_) rfl (by kernel_rfl) (by kernel_rfl) (by kernel_rfl) (by kernel_rfl) (by kernel_rfl) (fun _ _ _ h => h) (Or.inl ⟨by kernel_rfl, ?_⟩) hS2 ?_
                          rotate_left
                          · intro w' hS
                            clear hS
                            go_simp
                            try with_reducible rfl
                          refine AnyJ.takeD (i := 1) (d := some 77) (v := ?_) rfl (by kernel_rfl) (by kernel_rfl) (by kernel_rfl) (by kernel_rfl) (by kernel_rfl) (fun _ _ _ h => h) (Or.inl ⟨by kernel_rfl, ?_⟩) hS2 ?_
                          rotate_left
                          · intro w' hS
                            obtain ⟨sF0, sF1, sF2, sF3, sF4, sF5, sF6, sF7, sF8, sF9, sF10, sF11, sF12, sF13⟩ := hS
                            go_simp
                            try with_reducible rfl
                          refine AnyJ.one (i := 2) (by kernel_rfl) rfl (fun Kz hKz => ?_)
                          go_simp
                          refine (g_isDay_c d true _ hd).mono ?_
                          rintro e w3 ⟨rfl, hb3⟩
                          have R_b_3 : Row w3 (w.heap.size) [.int .i64 B.id, .int .i64 B.kind, .int .i64 B.rooms, .int .i64 B.fr, .int .i64 B.un, .slice (some ⟨b, off, none⟩) cn cc, .int .i64 B.pn, .int .i64 B.pd, .int .i64 B.fee, .slice pa pm pc] := by (repeat' (first | (with_reducible assumption) | (with_reducible refine Row.new' _ _ _ (by first | rfl | (simp; done) | omega)) | (with_reducible refine Row.alloc ?_ _) | (with_reducible refine Row.drew ?_) | (with_reducible refine Row.drewN ?_ _) | (with_reducible refine Row.step ?_ (by with_reducible assumption)) | (with_reducible refine Row.set2' ?_ _ _; first | exact ⟨_, _, by with_reducible assumption⟩ | exact ⟨_, _, Row.alloc (by with_reducible assumption) _⟩ | exact ⟨_, _, Row.alloc (Row.alloc (by with_reducible assumption) _) _⟩) | (with_reducible refine Row.other ?_ (by first | omega | (simp; done) | (simp; omega)) _)))
                          have c_b_0_3 := R_b_3.cell 0 rfl
                          have c_b_1_3 := R_b_3.cell 1 rfl
                          have c_b_2_3 := R_b_3.cell 2 rfl
                          have c_b_3_3 := R_b_3.cell 3 rfl
                          have c_b_4_3 := R_b_3.cell 4 rfl
                          have c_b_5_3 := R_b_3.cell 5 rfl
                          have c_b_6_3 := R_b_3.cell 6 rfl
                          have c_b_7_3 := R_b_3.cell 7 rfl
                          have c_b_8_3 := R_b_3.cell 8 rfl
                          have c_b_9_3 := R_b_3.cell 9 rfl
                          have l_b_3 := R_b_3.lt
                          have R_x_3 : Row w3 (w2.heap.size) [.int .i64 (d), .int .i64 (kn), .int .i64 (kd)] := by (repeat' (first | (with_reducible assumption) | (with_reducible refine Row.new' _ _ _ (by first | rfl | (simp; done) | omega)) | (with_reducible refine Row.alloc ?_ _) | (with_reducible refine Row.drew ?_) | (with_reducible refine Row.drewN ?_ _) | (with_reducible refine Row.step ?_ (by with_reducible assumption)) | (with_reducible refine Row.set2' ?_ _ _; first | exact ⟨_, _, by with_reducible assumption⟩ | exact ⟨_, _, Row.alloc (by with_reducible assumption) _⟩ | exact ⟨_, _, Row.alloc (Row.alloc (by with_reducible assumption) _) _⟩) | (with_reducible refine Row.other ?_ (by first | omega | (simp; done) | (simp; omega)) _)))
                          have c_x_0_3 := R_x_3.cell 0 rfl
                          have c_x_1_3 := R_x_3.cell 1 rfl
                          have c_x_2_3 := R_x_3.cell 2 rfl
                          have l_x_3 := R_x_3.lt
                          have HB3 : Below w.heap.size w w3 := by (repeat' (first | (with_reducible exact Below.refl _ _) | (with_reducible assumption) | (with_reducible exact Bw.out (by with_reducible assumption)) | (with_reducible refine bw_alloc ?_ _) | (with_reducible refine bw_step ?_ (by with_reducible assumption)) | (with_reducible refine Below.alloc ?_ ?_ _) | (with_reducible refine Below.drew ?_) | (with_reducible refine below_drewN ?_ _) | (with_reducible refine Below.setCell ?_ ?_ _) | (with_reducible refine below_step ?_ (by with_reducible assumption) ?_) | (with_reducible exact Nat.le_refl _) | omega | (simp; omega) | (simp; done)))
                          obtain ⟨sF0, sF1, sF2, sF3, sF4, sF5, sF6, sF7, sF8, sF9, sF10, sF11, sF12, sF13⟩ := hS2
                          have hS3 : (fun w' : World => w'.cell? ⟨w.heap.size, 0, none⟩ = some (.int .i64 B.id) ∧ w'.cell? ⟨w.heap.size, 1, none⟩ = some (.int .i64 B.kind) ∧ w'.cell? ⟨w.heap.size, 2, none⟩ = some (.int .i64 B.rooms) ∧ w'.cell? ⟨w.heap.size, 3, none⟩ = some (.int .i64 B.fr) ∧ w'.cell? ⟨w.heap.size, 4, none⟩ = some (.int .i64 B.un) ∧ w'.cell? ⟨w.heap.size, 5, none⟩ = some (.slice (some ⟨b, off, none⟩) cn cc) ∧ w'.cell? ⟨w.heap.size, 6, none⟩ = some (.int .i64 B.pn) ∧ w'.cell? ⟨w.heap.size, 7, none⟩ = some (.int .i64 B.pd) ∧ w'.cell? ⟨w.heap.size, 8, none⟩ = some (.int .i64 B.fee) ∧ w'.cell? ⟨w.heap.size, 9, none⟩ = some (.slice pa pm pc) ∧ w'.cell? ⟨w2.heap.size, 0, none⟩ = some (.int .i64 (d)) ∧ w'.cell? ⟨w2.heap.size, 1, none⟩ = some (.int .i64 (kn)) ∧ w'.cell? ⟨w2.heap.size, 2, none⟩ = some (.int .i64 (kd)) ∧ w'.cell? ⟨b, off + j * 3, none⟩ = some (.int .i64 d0)) w3 := ⟨c_b_0_3, c_b_1_3, c_b_2_3, c_b_3_3, c_b_4_3, c_b_5_3, c_b_6_3, c_b_7_3, c_b_8_3, c_b_9_3, c_x_0_3, c_x_1_3, c_x_2_3, (by first | exact (CellAt.step sF13 (by (repeat' (first | (with_reducible exact Below.refl _ _) | (with_reducible assumption) | (with_reducible exact Bw.out (by with_reducible assumption)) | (with_reducible refine bw_alloc ?_ _) | (with_reducible refine bw_step ?_ (by with_reducible assumption)) | (with_reducible refine Below.alloc ?_ ?_ _) | (with_reducible refine Below.drew ?_) | (with_reducible refine below_drewN ?_ _) | (with_reducible refine Below.setCell ?_ ?_ _) | (with_reducible refine below_step ?_ (by with_reducible assumption) ?_) | (with_reducible exact Nat.le_refl _) | omega | (simp; omega) | (simp; done))))).out | exact SlC.step sF13 (by (repeat' (first | (with_reducible exact Below.refl _ _) | (with_reducible assumption) | (with_reducible exact Bw.out (by with_reducible assumption)) | (with_reducible refine bw_alloc ?_ _) | (with_reducible refine bw_step ?_ (by with_reducible assumption)) | (with_reducible refine Below.alloc ?_ ?_ _) | (with_reducible refine Below.drew ?_) | (with_reducible refine below_drewN ?_ _) | (with_reducible refine Below.setCell ?_ ?_ _) | (with_reducible refine below_step ?_ (by with_reducible assumption) ?_) | (with_reducible exact Nat.le_refl _) | omega | (simp; omega) | (simp; done)))))⟩
                          clear sF0 sF1 sF2 sF3 sF4 sF5 sF6 sF7 sF8 sF9 sF10 sF11 sF12 sF13
                          refine hKz _ _ (fun _ => hS3) ?_
                          clear hKz Kz
                          refine AnyJ.takeD (i := 3) (d := some 79) (v := ?_) rfl (by kernel_rfl) (by kernel_rfl) (by kernel_rfl) (by kernel_rfl) (by kernel_rfl) (fun _ _ _ h => h) (Or.inl ⟨by kernel_rfl, ?_⟩) hS3 ?_
                          rotate_left
                          · intro w' hS
                            clear hS
                            go_simp
                            try with_reducible rfl
                          refine AnyJ.takeD (i := 4) (d := some 80) (v := ?_) rfl (by kernel_rfl) (by kernel_rfl) (by kernel_rfl) (by kernel_rfl) (by kernel_rfl) (fun _ _ _ h => h) (Or.inl ⟨by kernel_rfl, ?_⟩) hS3 ?_
                          rotate_left
                          · intro w' hS
                            clear hS
                            go_simp
                            try with_reducible rfl
                          refine AnyJ.takeD (i := 5) (d := some 81) (v := ?_) rfl (by kernel_rfl) (by kernel_rfl) (by kernel_rfl) (by kernel_rfl) (by kernel_rfl) (fun _ _ _ h => h) (Or.inl ⟨by kernel_rfl, ?_⟩) hS3 ?_
                          rotate_left
                          · intro w' hS
                            clear hS
                            go_simp
                            try with_reducible rfl
                          refine AnyJ.takeD (i := 6) (d := some 82) (v := ?_) rfl (by kernel_rfl) (by kernel_rfl) (by kernel_rfl) (by kernel_rfl) (by kernel_rfl) (fun _ _ _ h => h) (Or.inl ⟨by kernel_rfl, ?_⟩) hS3 ?_
                          rotate_left
                          · intro w' hS
                            obtain ⟨sF0, sF1, sF2, sF3, sF4, sF5, sF6, sF7, sF8, sF9, sF10, sF11, sF12, sF13⟩ := hS
                            go_simp
                            try with_reducible rfl
                          refine AnyJ.one (i := 7) (by kernel_rfl) rfl (fun Kz hKz => ?_)
                          go_simp
                          refine (g_isPart_c kn kd true _ hp).mono ?_
                          rintro e w4 ⟨rfl, hb4⟩
                          have R_b_4 : Row w4 (w.heap.size) [.int .i64 B.id, .int .i64 B.kind, .int .i64 B.rooms, .int .i64 B.fr, .int .i64 B.un, .slice (some ⟨b, off, none⟩) cn cc, .int .i64 B.pn, .int .i64 B.pd, .int .i64 B.fee, .slice pa pm pc] := by (repeat' (first | (with_reducible assumption) | (with_reducible refine Row.new' _ _ _ (by first | rfl | (simp; done) | omega)) | (with_reducible refine Row.alloc ?_ _) | (with_reducible refine Row.drew ?_) | (with_reducible refine Row.drewN ?_ _) | (with_reducible refine Row.step ?_ (by with_reducible assumption)) | (with_reducible refine Row.set2' ?_ _ _; first | exact ⟨_, _, by with_reducible assumption⟩ | exact ⟨_, _, Row.alloc (by with_reducible assumption) _⟩ | exact ⟨_, _, Row.alloc (Row.alloc (by with_reducible assumption) _) _⟩) | (with_reducible refine Row.other ?_ (by first | omega | (simp; done) | (simp; omega)) _)))
                          have c_b_0_4 := R_b_4.cell 0 rfl
                          have c_b_1_4 := R_b_4.cell 1 rfl
                          have c_b_2_4 := R_b_4.cell 2 rfl
                          have c_b_3_4 := R_b_4.cell 3 rfl
                          have c_b_4_4 := R_b_4.cell 4 rfl
                          have c_b_5_4 := R_b_4.cell 5 rfl
                          have c_b_6_4 := R_b_4.cell 6 rfl
                          have c_b_7_4 := R_b_4.cell 7 rfl
                          have c_b_8_4 := R_b_4.cell 8 rfl
                          have c_b_9_4 := R_b_4.cell 9 rfl
                          have l_b_4 := R_b_4.lt
                          have R_x_4 : Row w4 (w2.heap.size) [.int .i64 (d), .int .i64 (kn), .int .i64 (kd)] := by (repeat' (first | (with_reducible assumption) | (with_reducible refine Row.new' _ _ _ (by first | rfl | (simp; done) | omega)) | (with_reducible refine Row.alloc ?_ _) | (with_reducible refine Row.drew ?_) | (with_reducible refine Row.drewN ?_ _) | (with_reducible refine Row.step ?_ (by with_reducible assumption)) | (with_reducible refine Row.set2' ?_ _ _; first | exact ⟨_, _, by with_reducible assumption⟩ | exact ⟨_, _, Row.alloc (by with_reducible assumption) _⟩ | exact ⟨_, _, Row.alloc (Row.alloc (by with_reducible assumption) _) _⟩) | (with_reducible refine Row.other ?_ (by first | omega | (simp; done) | (simp; omega)) _)))
                          have c_x_0_4 := R_x_4.cell 0 rfl
                          have c_x_1_4 := R_x_4.cell 1 rfl
                          have c_x_2_4 := R_x_4.cell 2 rfl
                          have l_x_4 := R_x_4.lt
                          have HB4 : Below w.heap.size w w4 := by (repeat' (first | (with_reducible exact Below.refl _ _) | (with_reducible assumption) | (with_reducible exact Bw.out (by with_reducible assumption)) | (with_reducible refine bw_alloc ?_ _) | (with_reducible refine bw_step ?_ (by with_reducible assumption)) | (with_reducible refine Below.alloc ?_ ?_ _) | (with_reducible refine Below.drew ?_) | (with_reducible refine below_drewN ?_ _) | (with_reducible refine Below.setCell ?_ ?_ _) | (with_reducible refine below_step ?_ (by with_reducible assumption) ?_) | (with_reducible exact Nat.le_refl _) | omega | (simp; omega) | (simp; done)))
                          obtain ⟨sF0, sF1, sF2, sF3, sF4, sF5, sF6, sF7, sF8, sF9, sF10, sF11, sF12, sF13⟩ := hS3
                          have hS4 : (fun w' : World => w'.cell? ⟨w.heap.size, 0, none⟩ = some (.int .i64 B.id) ∧ w'.cell? ⟨w.heap.size, 1, none⟩ = some (.int .i64 B.kind) ∧ w'.cell? ⟨w.heap.size, 2, none⟩ = some (.int .i64 B.rooms) ∧ w'.cell? ⟨w.heap.size, 3, none⟩ = some (.int .i64 B.fr) ∧ w'.cell? ⟨w.heap.size, 4, none⟩ = some (.int .i64 B.un) ∧ w'.cell? ⟨w.heap.size, 5, none⟩ = some (.slice (some ⟨b, off, none⟩) cn cc) ∧ w'.cell? ⟨w.heap.size, 6, none⟩ = some (.int .i64 B.pn) ∧ w'.cell? ⟨w.heap.size, 7, none⟩ = some (.int .i64 B.pd) ∧ w'.cell? ⟨w.heap.size, 8, none⟩ = some (.int .i64 B.fee) ∧ w'.cell? ⟨w.heap.size, 9, none⟩ = some (.slice pa pm pc) ∧ w'.cell? ⟨w2.heap.size, 0, none⟩ = some (.int .i64 (d)) ∧ w'.cell? ⟨w2.heap.size, 1, none⟩ = some (.int .i64 (kn)) ∧ w'.cell? ⟨w2.heap.size, 2, none⟩ = some (.int .i64 (kd)) ∧ w'.cell? ⟨b, off + j * 3, none⟩ = some (.int .i64 d0)) w4 := ⟨c_b_0_4, c_b_1_4, c_b_2_4, c_b_3_4, c_b_4_4, c_b_5_4, c_b_6_4, c_b_7_4, c_b_8_4, c_b_9_4, c_x_0_4, c_x_1_4, c_x_2_4, (by first | exact (CellAt.step sF13 (by (repeat' (first | (with_reducible exact Below.refl _ _) | (with_reducible assumption) | (with_reducible exact Bw.out (by with_reducible assumption)) | (with_reducible refine bw_alloc ?_ _) | (with_reducible refine bw_step ?_ (by with_reducible assumption)) | (with_reducible refine Below.alloc ?_ ?_ _) | (with_reducible refine Below.drew ?_) | (with_reducible refine below_drewN ?_ _) | (with_reducible refine Below.setCell ?_ ?_ _) | (with_reducible refine below_step ?_ (by with_reducible assumption) ?_) | (with_reducible exact Nat.le_refl _) | omega | (simp; omega) | (simp; done))))).out | exact SlC.step sF13 (by (repeat' (first | (with_reducible exact Below.refl _ _) | (with_reducible assumption) | (with_reducible exact Bw.out (by with_reducible assumption)) | (with_reducible refine bw_alloc ?_ _) | (with_reducible refine bw_step ?_ (by with_reducible assumption)) | (with_reducible refine Below.alloc ?_ ?_ _) | (with_reducible refine Below.drew ?_) | (with_reducible refine below_drewN ?_ _) | (with_reducible refine Below.setCell ?_ ?_ _) | (with_reducible refine below_step ?_ (by with_reducible assumption) ?_) | (with_reducible exact Nat.le_refl _) | omega | (simp; omega) | (simp; done)))))⟩
                          clear sF0 sF1 sF2 sF3 sF4 sF5 sF6 sF7 sF8 sF9 sF10 sF11 sF12 sF13
                          refine hKz _ _ (fun _ => hS4) ?_
                          clear hKz Kz
                          clear R_b_3 c_b_0_3 c_b_1_3 c_b_2_3 c_b_3_3 c_b_4_3 c_b_5_3 c_b_6_3 c_b_7_3 c_b_8_3 c_b_9_3 R_x_3 c_x_0_3 c_x_1_3 c_x_2_3 hb3 HB3
                          refine AnyJ.takeD (i := 8) (d := some 84) (v := ?_) rfl (by kernel_rfl) (by kernel_rfl) (by kernel_rfl) (by kernel_rfl) (by kernel_rfl) (fun _ _ _ h => h) (Or.inl ⟨by kernel_rfl, ?_⟩) hS4 ?_
                          rotate_left
                          · intro w' hS
                            clear hS
                            go_simp
                            try with_reducible rfl
                          refine AnyJ.takeD (i := 9) (d := some 85) (v := ?_) rfl (by kernel_rfl) (by kernel_rfl) (by kernel_rfl) (by kernel_rfl) (by kernel_rfl) (fun _ _ _ h => h) (Or.inl ⟨by kernel_rfl, ?_⟩) hS4 ?_
                          rotate_left
                          · intro w' hS
                            clear hS
                            go_simp
                            try with_reducible rfl
                          refine AnyJ.takeD (i := 10) (d := some 86) (v := ?_) rfl (by kernel_rfl) (by kernel_rfl) (by kernel_rfl) (by kernel_rfl) (by kernel_rfl) (fun _ _ _ h => h) (Or.inl ⟨by kernel_rfl, ?_⟩) hS4 ?_
                          rotate_left
                          · intro w' hS
                            clear hS
                            go_simp
                            try with_reducible rfl
                          refine AnyJ.takeD (i := 11) (d := some 87) (v := ?_) rfl (by kernel_rfl) (by kernel_rfl) (by kernel_rfl) (by kernel_rfl) (by kernel_rfl) (fun _ _ _ h => h) (Or.inl ⟨by kernel_rfl, ?_⟩) hS4 ?_
                          rotate_left
                          · intro w' hS
                            clear hS
                            go_simp
                            try with_reducible rfl
                          refine AnyJ.takeD (i := 12) (d := some 88) (v := ?_) rfl (by kernel_rfl) (by kernel_rfl) (by kernel_rfl) (by kernel_rfl) (by kernel_rfl) (fun _ _ _ h => h) (Or.inl ⟨by kernel_rfl, ?_⟩) hS4 ?_
                          rotate_left
                          · intro w' hS
                            clear hS
                            go_simp
                            try with_reducible rfl
                          refine AnyJ.takeD (i := 13) (d := some 89) (v := ?_) rfl (by kernel_rfl) (by kernel_rfl) (by kernel_rfl) (by kernel_rfl) (by kernel_rfl) (fun _ _ _ h => h) (Or.inl ⟨by kernel_rfl, ?_⟩) hS4 ?_
                          rotate_left
                          · intro w' hS
                            clear hS
                            go_simp
                            try with_reducible rfl
                          refine AnyJ.takeD (i := 14) (d := some 90) (v := ?_) rfl (by kernel_rfl) (by kernel_rfl) (by kernel_rfl) (by kernel_rfl) (by kernel_rfl) (fun _ _ _ h => h) (Or.inl ⟨by kernel_rfl, ?_⟩) hS4 ?_
                          rotate_left
                          · intro w' hS
                            clear hS
                            go_simp
                            try with_reducible rfl
                          refine AnyJ.takeD (i := 15) (d := some 91) (v := ?_) rfl (by kernel_rfl) (by kernel_rfl) (by kernel_rfl) (by kernel_rfl) (by kernel_rfl) (fun _ _ _ h => h) (Or.inl ⟨by kernel_rfl, ?_⟩) hS4 ?_
                          rotate_left
                          · intro w' hS
                            obtain ⟨sF0, sF1, sF2, sF3, sF4, sF5, sF6, sF7, sF8, sF9, sF10, sF11, sF12, sF13⟩ := hS
                            go_simp
                            try with_reducible rfl
                          refine AnyJ.takeD (i := 16) (d := some 92) (v := ?_) rfl (by kernel_rfl) (by kernel_rfl) (by kernel_rfl) (by kernel_rfl) (by kernel_rfl) (fun _ _ _ h => h) (Or.inl ⟨by kernel_rfl, ?_⟩) hS4 ?_
                          rotate_left
                          · intro w' hS
                            clear hS
                            go_simp
                            try with_reducible rfl
                          refine AnyJ.takeD (i := 17) (d := some 93) (v := ?_) rfl (by kernel_rfl) (by kernel_rfl) (by kernel_rfl) (by kernel_rfl) (by kernel_rfl) (fun _ _ _ h => h) (Or.inl ⟨by kernel_rfl, ?_⟩) hS4 ?_
                          rotate_left
                          · intro w' hS
                            obtain ⟨sF0, sF1, sF2, sF3, sF4, sF5, sF6, sF7, sF8, sF9, sF10, sF11, sF12, sF13⟩ := hS
                            go_simp
                            try with_reducible rfl
                          refine AnyJ.takeD (i := 18) (d := some 94) (v := ?_) rfl (by kernel_rfl) (by kernel_rfl) (by kernel_rfl) (by kernel_rfl) (by kernel_rfl) (fun _ _ _ h => h) (Or.inl ⟨by kernel_rfl, ?_⟩) hS4 ?_
                          rotate_left
                          · intro w' hS
                            clear hS
                            go_simp
                            try with_reducible rfl
                          refine AnyJ.takeD (i := 19) (d := some 95) (v := ?_) rfl (by kernel_rfl) (by kernel_rfl) (by kernel_rfl) (by kernel_rfl) (by kernel_rfl) (fun _ _ _ h => h) (Or.inl ⟨by kernel_rfl, ?_⟩) hS4 ?_
                          rotate_left
                          · intro w' hS
                            clear hS
                            go_simp
                            try with_reducible rfl
                          refine AnyJ.takeD (i := 20) (d := some 96) (v := ?_) rfl (by kernel_rfl) (by kernel_rfl) (by kernel_rfl) (by kernel_rfl) (by kernel_rfl) (fun _ _ _ h => h) (Or.inl ⟨by kernel_rfl, ?_⟩) hS4 ?_
                          rotate_left
                          · intro w' hS
                            clear hS
                            go_simp
                            try with_reducible rfl
                          refine AnyJ.takeD (i := 21) (d := some 97) (v := ?_) rfl (by kernel_rfl) (by kernel_rfl) (by kernel_rfl) (by kernel_rfl) (by kernel_rfl) (fun _ _ _ h => h) (Or.inl ⟨by kernel_rfl, ?_⟩) hS4 ?_
                          rotate_left
                          · intro w' hS
                            clear hS
                            go_simp
                            try with_reducible rfl
                          refine AnyJ.takeD (i := 22) (d := some 98) (v := ?_) rfl (by kernel_rfl) (by kernel_rfl) (by kernel_rfl) (by kernel_rfl) (by kernel_rfl) (fun _ _ _ h => h) (Or.inl ⟨by kernel_rfl, ?_⟩) hS4 ?_
                          rotate_left
                          · intro w' hS
                            obtain ⟨sF0, sF1, sF2, sF3, sF4, sF5, sF6, sF7, sF8, sF9, sF10, sF11, sF12, sF13⟩ := hS
                            go_simp
                            try with_reducible rfl
                          refine AnyJ.takeD (i := 23) (d := some 99) (v := ?_) rfl (by kernel_rfl) (by kernel_rfl) (by kernel_rfl) (by kernel_rfl) (by kernel_rfl) (fun _ _ _ h => h) (Or.inl ⟨by kernel_rfl, ?_⟩) hS4 ?_
                          rotate_left
                          · intro w' hS
                            clear hS
                            go_simp
                            try with_reducible rfl
                          refine AnyJ.takeD (i := 24) (d := some 100) (v := ?_) rfl (by kernel_rfl) (by kernel_rfl) (by kernel_rfl) (by kernel_rfl) (by kernel_rfl) (fun _ _ _ h => h) (Or.inl ⟨by kernel_rfl, ?_⟩) hS4 ?_
                          rotate_left
                          · intro w' hS
                            clear hS
                            go_simp
                            try with_reducible rfl
                          refine AnyJ.takeD (i := 25) (d := some 101) (v := ?_) rfl (by kernel_rfl) (by kernel_rfl) (by kernel_rfl) (by kernel_rfl) (by kernel_rfl) (fun _ _ _ h => h) (Or.inl ⟨by kernel_rfl, ?_⟩) hS4 ?_
                          rotate_left
                          · intro w' hS
                            clear hS
                            go_simp
                            try with_reducible rfl
                          refine AnyJ.done (by kernel_rfl) ?_ _
                          clear hS4
                          simp only [Act.put, List.setIfInBounds_toArray, List.set_cons_zero, List.set_cons_succ]
                          go_wp2_with fail
                          go_roundw
                          case rel =>
                            refine ⟨(j + 1) + 1, by omega, by go_num, fun i hi => ?_, R_b_4, HB4⟩
                            rcases Nat.lt_or_ge i (j + 1) with hjk | hjk
                            · exact hT.out i hjk
                            · obtain rfl : i = (j + 1) := by omega
                              exact HC2.out
                          case measure => simp [intOf]; omega
                        · have HC2 : Hid (cutB B.cuts (j + 1) = false) := by show _ = _; rw [cutB_s f1.out g1.out, hd, hp]; simp; omega
                          have j6 : decide (d ≤ d0) = true := by simp; omega
                          clear hlt2
                          refine AnyJ.beginP (fun w' : World => w'.cell? ⟨w.heap.size, 0, none⟩ = some (.int .i64 B.id) ∧ w'.cell? ⟨w.heap.size, 1, none⟩ = some (.int .i64 B.kind) ∧ w'.cell? ⟨w.heap.size, 2, none⟩ = some (.int .i64 B.rooms) ∧ w'.cell? ⟨w.heap.size, 3, none⟩ = some (.int .i64 B.fr) ∧ w'.cell? ⟨w.heap.size, 4, none⟩ = some (.int .i64 B.un) ∧ w'.cell? ⟨w.heap.size, 5, none⟩ = some (.slice (some ⟨b, off, none⟩) cn cc) ∧ w'.cell? ⟨w.heap.size, 6, none⟩ = some (.int .i64 B.pn) ∧ w'.cell? ⟨w.heap.size, 7, none⟩ = some (.int .i64 B.pd) ∧ w'.cell? ⟨w.heap.size, 8, none⟩ = some (.int .i64 B.fee) ∧ w'.cell? ⟨w.heap.size, 9, none⟩ = some (.slice pa pm pc) ∧ w'.cell? ⟨w2.heap.size, 0, none⟩ = some (.int .i64 (d)) ∧ w'.cell? ⟨w2.heap.size, 1, none⟩ = some (.int .i64 (kn)) ∧ w'.cell? ⟨w2.heap.size, 2, none⟩ = some (.int .i64 (kd)) ∧ w'.cell? ⟨b, off + j * 3, none⟩ = some (.int .i64 d0)) (fun _ => true) (by kernel_rfl) ?_ (fun hS2 => ?_)
                          · exact (show ∀ (P S : World → Prop) (W : World), P W → (∀ w', P w' → S w') → S W from fun P S W h f => f W h) (fun w' : World => Row w' (w.heap.size) [.int .i64 B.id, .int .i64 B.kind, .int .i64 B.rooms, .int .i64 B.fr, .int .i64 B.un, .slice (some ⟨b, off, none⟩) cn cc, .int .i64 B.pn, .int .i64 B.pd, .int .i64 B.fee, .slice pa pm pc] ∧ Row w' (w2.heap.size) [.int .i64 (d), .int .i64 (kn), .int .i64 (kd)] ∧ w'.cell? ⟨b, off + j * 3, none⟩ = some (.int .i64 d0)) (fun w' : World => w'.cell? ⟨w.heap.size, 0, none⟩ = some (.int .i64 B.id) ∧ w'.cell? ⟨w.heap.size, 1, none⟩ = some (.int .i64 B.kind) ∧ w'.cell? ⟨w.heap.size, 2, none⟩ = some (.int .i64 B.rooms) ∧ w'.cell? ⟨w.heap.size, 3, none⟩ = some (.int .i64 B.fr) ∧ w'.cell? ⟨w.heap.size, 4, none⟩ = some (.int .i64 B.un) ∧ w'.cell? ⟨w.heap.size, 5, none⟩ = some (.slice (some ⟨b, off, none⟩) cn cc) ∧ w'.cell? ⟨w.heap.size, 6, none⟩ = some (.int .i64 B.pn) ∧ w'.cell? ⟨w.heap.size, 7, none⟩ = some (.int .i64 B.pd) ∧ w'.cell? ⟨w.heap.size, 8, none⟩ = some (.int .i64 B.fee) ∧ w'.cell? ⟨w.heap.size, 9, none⟩ = some (.slice pa pm pc) ∧ w'.cell? ⟨w2.heap.size, 0, none⟩ = some (.int .i64 (d)) ∧ w'.cell? ⟨w2.heap.size, 1, none⟩ = some (.int .i64 (kn)) ∧ w'.cell? ⟨w2.heap.size, 2, none⟩ = some (.int .i64 (kd)) ∧ w'.cell? ⟨b, off + j * 3, none⟩ = some (.int .i64 d0)) _ (⟨by (repeat' (first | (with_reducible assumption) | (with_reducible refine Row.new' _ _ _ (by first | rfl | (simp; done) | omega)) | (with_reducible refine Row.alloc ?_ _) | (with_reducible refine Row.drew ?_) | (with_reducible refine Row.drewN ?_ _) | (with_reducible refine Row.step ?_ (by with_reducible assumption)) | (with_reducible refine Row.set2' ?_ _ _; first | exact ⟨_, _, by with_reducible assumption⟩ | exact ⟨_, _, Row.alloc (by with_reducible assumption) _⟩ | exact ⟨_, _, Row.alloc (Row.alloc (by with_reducible assumption) _) _⟩) | (with_reducible refine Row.other ?_ (by first | omega | (simp; done) | (simp; omega)) _))), by (repeat' (first | (with_reducible assumption) | (with_reducible refine Row.new' _ _ _ (by first | rfl | (simp; done) | omega)) | (with_reducible refine Row.alloc ?_ _) | (with_reducible refine Row.drew ?_) | (with_reducible refine Row.drewN ?_ _) | (with_reducible refine Row.step ?_ (by with_reducible assumption)) | (with_reducible refine Row.set2' ?_ _ _; first | exact ⟨_, _, by with_reducible assumption⟩ | exact ⟨_, _, Row.alloc (by with_reducible assumption) _⟩ | exact ⟨_, _, Row.alloc (Row.alloc (by with_reducible assumption) _) _⟩) | (with_reducible refine Row.other ?_ (by first | omega | (simp; done) | (simp; omega)) _))), CellAt.out (by (repeat' (first | (with_reducible assumption) | (with_reducible refine CellAt.drew ?_) | (with_reducible refine CellAt.drewN ?_ _) | (with_reducible refine CellAt.alloc ?_ _) | (with_reducible refine CellAt.step ?_ (by with_reducible assumption)))))⟩) (fun w' ⟨hP0, hP1, hF0⟩ => ⟨hP0.cell 0 rfl, hP0.cell 1 rfl, hP0.cell 2 rfl, hP0.cell 3 rfl, hP0.cell 4 rfl, hP0.cell 5 rfl, hP0.cell 6 rfl, hP0.cell 7 rfl, hP0.cell 8 rfl, hP0.cell 9 rfl, hP1.cell 0 rfl, hP1.cell 1 rfl, hP1.cell 2 rfl, hF0⟩)
                          refine AnyJ.takeD (i := 0) (d := some 76) (v := ?_) rfl (by kernel_rfl) (by kernel_rfl) (by kernel_rfl) (by kernel_rfl) (by kernel_rfl) (fun _ _ _ h => h) (Or.inl ⟨by kernel_rfl, ?_⟩) hS2 ?_
                          rotate_left
                          · intro w' hS
                            clear hS
                            go_simp
                            try with_reducible rfl
                          refine AnyJ.takeD (i := 1) (d := some 77) (v := ?_) rfl (by kernel_rfl) (by kernel_rfl) (by kernel_rfl) (by kernel_rfl) (by kernel_rfl) (fun _ _ _ h => h) (Or.inl ⟨by kernel_rfl, ?_⟩) hS2 ?_
                          rotate_left
                          · intro w' hS
                            obtain ⟨sF0, sF1, sF2, sF3, sF4, sF5, sF6, sF7, sF8, sF9, sF10, sF11, sF12, sF13⟩ := hS
                            go_simp
                            try with_reducible rfl
                          refine AnyJ.one (i := 2) (by kernel_rfl) rfl (fun Kz hKz => ?_)
                          go_simp
                          refine (g_isDay_c d true _ hd).mono ?_
                          rintro e w3 ⟨rfl, hb3⟩
                          have R_b_3 : Row w3 (w.heap.size) [.int .i64 B.id, .int .i64 B.kind, .int .i64 B.rooms, .int .i64 B.fr, .int .i64 B.un, .slice (some ⟨b, off, none⟩) cn cc, .int .i64 B.pn, .int .i64 B.pd, .int .i64 B.fee, .slice pa pm pc] := by (repeat' (first | (with_reducible assumption) | (with_reducible refine Row.new' _ _ _ (by first | rfl | (simp; done) | omega)) | (with_reducible refine Row.alloc ?_ _) | (with_reducible refine Row.drew ?_) | (with_reducible refine Row.drewN ?_ _) | (with_reducible refine Row.step ?_ (by with_reducible assumption)) | (with_reducible refine Row.set2' ?_ _ _; first | exact ⟨_, _, by with_reducible assumption⟩ | exact ⟨_, _, Row.alloc (by with_reducible assumption) _⟩ | exact ⟨_, _, Row.alloc (Row.alloc (by with_reducible assumption) _) _⟩) | (with_reducible refine Row.other ?_ (by first | omega | (simp; done) | (simp; omega)) _)))
                          have c_b_0_3 := R_b_3.cell 0 rfl
                          have c_b_1_3 := R_b_3.cell 1 rfl
                          have c_b_2_3 := R_b_3.cell 2 rfl
                          have c_b_3_3 := R_b_3.cell 3 rfl
                          have c_b_4_3 := R_b_3.cell 4 rfl
                          have c_b_5_3 := R_b_3.cell 5 rfl
                          have c_b_6_3 := R_b_3.cell 6 rfl
                          have c_b_7_3 := R_b_3.cell 7 rfl
                          have c_b_8_3 := R_b_3.cell 8 rfl
                          have c_b_9_3 := R_b_3.cell 9 rfl
                          have l_b_3 := R_b_3.lt
                          have R_x_3 : Row w3 (w2.heap.size) [.int .i64 (d), .int .i64 (kn), .int .i64 (kd)] := by (repeat' (first | (with_reducible assumption) | (with_reducible refine Row.new' _ _ _ (by first | rfl | (simp; done) | omega)) | (with_reducible refine Row.alloc ?_ _) | (with_reducible refine Row.drew ?_) | (with_reducible refine Row.drewN ?_ _) | (with_reducible refine Row.step ?_ (by with_reducible assumption)) | (with_reducible refine Row.set2' ?_ _ _; first | exact ⟨_, _, by with_reducible assumption⟩ | exact ⟨_, _, Row.alloc (by with_reducible assumption) _⟩ | exact ⟨_, _, Row.alloc (Row.alloc (by with_reducible assumption) _) _⟩) | (with_reducible refine Row.other ?_ (by first | omega | (simp; done) | (simp; omega)) _)))
                          have c_x_0_3 := R_x_3.cell 0 rfl
                          have c_x_1_3 := R_x_3.cell 1 rfl
                          have c_x_2_3 := R_x_3.cell 2 rfl
                          have l_x_3 := R_x_3.lt
                          have HB3 : Below w.heap.size w w3 := by (repeat' (first | (with_reducible exact Below.refl _ _) | (with_reducible assumption) | (with_reducible exact Bw.out (by with_reducible assumption)) | (with_reducible refine bw_alloc ?_ _) | (with_reducible refine bw_step ?_ (by with_reducible assumption)) | (with_reducible refine Below.alloc ?_ ?_ _) | (with_reducible refine Below.drew ?_) | (with_reducible refine below_drewN ?_ _) | (with_reducible refine Below.setCell ?_ ?_ _) | (with_reducible refine below_step ?_ (by with_reducible assumption) ?_) | (with_reducible exact Nat.le_refl _) | omega | (simp; omega) | (simp; done)))
                          obtain ⟨sF0, sF1, sF2, sF3, sF4, sF5, sF6, sF7, sF8, sF9, sF10, sF11, sF12, sF13⟩ := hS2
                          have hS3 : (fun w' : World => w'.cell? ⟨w.heap.size, 0, none⟩ = some (.int .i64 B.id) ∧ w'.cell? ⟨w.heap.size, 1, none⟩ = some (.int .i64 B.kind) ∧ w'.cell? ⟨w.heap.size, 2, none⟩ = some (.int .i64 B.rooms) ∧ w'.cell? ⟨w.heap.size, 3, none⟩ = some (.int .i64 B.fr) ∧ w'.cell? ⟨w.heap.size, 4, none⟩ = some (.int .i64 B.un) ∧ w'.cell? ⟨w.heap.size, 5, none⟩ = some (.slice (some ⟨b, off, none⟩) cn cc) ∧ w'.cell? ⟨w.heap.size, 6, none⟩ = some (.int .i64 B.pn) ∧ w'.cell? ⟨w.heap.size, 7, none⟩ = some (.int .i64 B.pd) ∧ w'.cell? ⟨w.heap.size, 8, none⟩ = some (.int .i64 B.fee) ∧ w'.cell? ⟨w.heap.size, 9, none⟩ = some (.slice pa pm pc) ∧ w'.cell? ⟨w2.heap.size, 0, none⟩ = some (.int .i64 (d)) ∧ w'.cell? ⟨w2.heap.size, 1, none⟩ = some (.int .i64 (kn)) ∧ w'.cell? ⟨w2.heap.size, 2, none⟩ = some (.int .i64 (kd)) ∧ w'.cell? ⟨b, off + j * 3, none⟩ = some (.int .i64 d0)) w3 := ⟨c_b_0_3, c_b_1_3, c_b_2_3, c_b_3_3, c_b_4_3, c_b_5_3, c_b_6_3, c_b_7_3, c_b_8_3, c_b_9_3, c_x_0_3, c_x_1_3, c_x_2_3, (by first | exact (CellAt.step sF13 (by (repeat' (first | (with_reducible exact Below.refl _ _) | (with_reducible assumption) | (with_reducible exact Bw.out (by with_reducible assumption)) | (with_reducible refine bw_alloc ?_ _) | (with_reducible refine bw_step ?_ (by with_reducible assumption)) | (with_reducible refine Below.alloc ?_ ?_ _) | (with_reducible refine Below.drew ?_) | (with_reducible refine below_drewN ?_ _) | (with_reducible refine Below.setCell ?_ ?_ _) | (with_reducible refine below_step ?_ (by with_reducible assumption) ?_) | (with_reducible exact Nat.le_refl _) | omega | (simp; omega) | (simp; done))))).out | exact SlC.step sF13 (by (repeat' (first | (with_reducible exact Below.refl _ _) | (with_reducible assumption) | (with_reducible exact Bw.out (by with_reducible assumption)) | (with_reducible refine bw_alloc ?_ _) | (with_reducible refine bw_step ?_ (by with_reducible assumption)) | (with_reducible refine Below.alloc ?_ ?_ _) | (with_reducible refine Below.drew ?_) | (with_reducible refine below_drewN ?_ _) | (with_reducible refine Below.setCell ?_ ?_ _) | (with_reducible refine below_step ?_ (by with_reducible assumption) ?_) | (with_reducible exact Nat.le_refl _) | omega | (simp; omega) | (simp; done)))))⟩
                          clear sF0 sF1 sF2 sF3 sF4 sF5 sF6 sF7 sF8 sF9 sF10 sF11 sF12 sF13
                          refine hKz _ _ (fun _ => hS3) ?_
                          clear hKz Kz
                          refine AnyJ.takeD (i := 3) (d := some 79) (v := ?_) rfl (by kernel_rfl) (by kernel_rfl) (by kernel_rfl) (by kernel_rfl) (by kernel_rfl) (fun _ _ _ h => h) (Or.inl ⟨by kernel_rfl, ?_⟩) hS3 ?_
                          rotate_left
                          · intro w' hS
                            clear hS
                            go_simp
                            try with_reducible rfl
                          refine AnyJ.takeD (i := 4) (d := some 80) (v := ?_) rfl (by kernel_rfl) (by kernel_rfl) (by kernel_rfl) (by kernel_rfl) (by kernel_rfl) (fun _ _ _ h => h) (Or.inl ⟨by kernel_rfl, ?_⟩) hS3 ?_
                          rotate_left
                          · intro w' hS
                            clear hS
                            go_simp
                            try with_reducible rfl
                          refine AnyJ.takeD (i := 5) (d := some 81) (v := ?_) rfl (by kernel_rfl) (by kernel_rfl) (by kernel_rfl) (by kernel_rfl) (by kernel_rfl) (fun _ _ _ h => h) (Or.inl ⟨by kernel_rfl, ?_⟩) hS3 ?_
                          rotate_left
                          · intro w' hS
                            clear hS
                            go_simp
                            try with_reducible rfl
                          refine AnyJ.takeD (i := 6) (d := some 82) (v := ?_) rfl (by kernel_rfl) (by kernel_rfl) (by kernel_rfl) (by kernel_rfl) (by kernel_rfl) (fun _ _ _ h => h) (Or.inl ⟨by kernel_rfl, ?_⟩) hS3 ?_
                          rotate_left
                          · intro w' hS
                            obtain ⟨sF0, sF1, sF2, sF3, sF4, sF5, sF6, sF7, sF8, sF9, sF10, sF11, sF12, sF13⟩ := hS
                            go_simp
                            try with_reducible rfl
                          refine AnyJ.one (i := 7) (by kernel_rfl) rfl (fun Kz hKz => ?_)
                          go_simp
                          refine (g_isPart_c kn kd true _ hp).mono ?_
                          rintro e w4 ⟨rfl, hb4⟩
                          have R_b_4 : Row w4 (w.heap.size) [.int .i64 B.id, .int .i64 B.kind, .int .i64 B.rooms, .int .i64 B.fr, .int .i64 B.un, .slice (some ⟨b, off, none⟩) cn cc, .int .i64 B.pn, .int .i64 B.pd, .int .i64 B.fee, .slice pa pm pc] := by (repeat' (first | (with_reducible assumption) | (with_reducible refine Row.new' _ _ _ (by first | rfl | (simp; done) | omega)) | (with_reducible refine Row.alloc ?_ _) | (with_reducible refine Row.drew ?_) | (with_reducible refine Row.drewN ?_ _) | (with_reducible refine Row.step ?_ (by with_reducible assumption)) | (with_reducible refine Row.set2' ?_ _ _; first | exact ⟨_, _, by with_reducible assumption⟩ | exact ⟨_, _, Row.alloc (by with_reducible assumption) _⟩ | exact ⟨_, _, Row.alloc (Row.alloc (by with_reducible assumption) _) _⟩) | (with_reducible refine Row.other ?_ (by first | omega | (simp; done) | (simp; omega)) _)))
                          have c_b_0_4 := R_b_4.cell 0 rfl
                          have c_b_1_4 := R_b_4.cell 1 rfl
                          have c_b_2_4 := R_b_4.cell 2 rfl
                          have c_b_3_4 := R_b_4.cell 3 rfl
                          have c_b_4_4 := R_b_4.cell 4 rfl
                          have c_b_5_4 := R_b_4.cell 5 rfl
                          have c_b_6_4 := R_b_4.cell 6 rfl
                          have c_b_7_4 := R_b_4.cell 7 rfl
                          have c_b_8_4 := R_b_4.cell 8 rfl
                          have c_b_9_4 := R_b_4.cell 9 rfl
                          have l_b_4 := R_b_4.lt
                          have R_x_4 : Row w4 (w2.heap.size) [.int .i64 (d), .int .i64 (kn), .int .i64 (kd)] := by (repeat' (first | (with_reducible assumption) | (with_reducible refine Row.new' _ _ _ (by first | rfl | (simp; done) | omega)) | (with_reducible refine Row.alloc ?_ _) | (with_reducible refine Row.drew ?_) | (with_reducible refine Row.drewN ?_ _) | (with_reducible refine Row.step ?_ (by with_reducible assumption)) | (with_reducible refine Row.set2' ?_ _ _; first | exact ⟨_, _, by with_reducible assumption⟩ | exact ⟨_, _, Row.alloc (by with_reducible assumption) _⟩ | exact ⟨_, _, Row.alloc (Row.alloc (by with_reducible assumption) _) _⟩) | (with_reducible refine Row.other ?_ (by first | omega | (simp; done) | (simp; omega)) _)))
                          have c_x_0_4 := R_x_4.cell 0 rfl
                          have c_x_1_4 := R_x_4.cell 1 rfl
                          have c_x_2_4 := R_x_4.cell 2 rfl
                          have l_x_4 := R_x_4.lt
                          have HB4 : Below w.heap.size w w4 := by (repeat' (first | (with_reducible exact Below.refl _ _) | (with_reducible assumption) | (with_reducible exact Bw.out (by with_reducible assumption)) | (with_reducible refine bw_alloc ?_ _) | (with_reducible refine bw_step ?_ (by with_reducible assumption)) | (with_reducible refine Below.alloc ?_ ?_ _) | (with_reducible refine Below.drew ?_) | (with_reducible refine below_drewN ?_ _) | (with_reducible refine Below.setCell ?_ ?_ _) | (with_reducible refine below_step ?_ (by with_reducible assumption) ?_) | (with_reducible exact Nat.le_refl _) | omega | (simp; omega) | (simp; done)))
                          obtain ⟨sF0, sF1, sF2, sF3, sF4, sF5, sF6, sF7, sF8, sF9, sF10, sF11, sF12, sF13⟩ := hS3
                          have hS4 : (fun w' : World => w'.cell? ⟨w.heap.size, 0, none⟩ = some (.int .i64 B.id) ∧ w'.cell? ⟨w.heap.size, 1, none⟩ = some (.int .i64 B.kind) ∧ w'.cell? ⟨w.heap.size, 2, none⟩ = some (.int .i64 B.rooms) ∧ w'.cell? ⟨w.heap.size, 3, none⟩ = some (.int .i64 B.fr) ∧ w'.cell? ⟨w.heap.size, 4, none⟩ = some (.int .i64 B.un) ∧ w'.cell? ⟨w.heap.size, 5, none⟩ = some (.slice (some ⟨b, off, none⟩) cn cc) ∧ w'.cell? ⟨w.heap.size, 6, none⟩ = some (.int .i64 B.pn) ∧ w'.cell? ⟨w.heap.size, 7, none⟩ = some (.int .i64 B.pd) ∧ w'.cell? ⟨w.heap.size, 8, none⟩ = some (.int .i64 B.fee) ∧ w'.cell? ⟨w.heap.size, 9, none⟩ = some (.slice pa pm pc) ∧ w'.cell? ⟨w2.heap.size, 0, none⟩ = some (.int .i64 (d)) ∧ w'.cell? ⟨w2.heap.size, 1, none⟩ = some (.int .i64 (kn)) ∧ w'.cell? ⟨w2.heap.size, 2, none⟩ = some (.int .i64 (kd)) ∧ w'.cell? ⟨b, off + j * 3, none⟩ = some (.int .i64 d0)) w4 := ⟨c_b_0_4, c_b_1_4, c_b_2_4, c_b_3_4, c_b_4_4, c_b_5_4, c_b_6_4, c_b_7_4, c_b_8_4, c_b_9_4, c_x_0_4, c_x_1_4, c_x_2_4, (by first | exact (CellAt.step sF13 (by (repeat' (first | (with_reducible exact Below.refl _ _) | (with_reducible assumption) | (with_reducible exact Bw.out (by with_reducible assumption)) | (with_reducible refine bw_alloc ?_ _) | (with_reducible refine bw_step ?_ (by with_reducible assumption)) | (with_reducible refine Below.alloc ?_ ?_ _) | (with_reducible refine Below.drew ?_) | (with_reducible refine below_drewN ?_ _) | (with_reducible refine Below.setCell ?_ ?_ _) | (with_reducible refine below_step ?_ (by with_reducible assumption) ?_) | (with_reducible exact Nat.le_refl _) | omega | (simp; omega) | (simp; done))))).out | exact SlC.step sF13 (by (repeat' (first | (with_reducible exact Below.refl _ _) | (with_reducible assumption) | (with_reducible exact Bw.out (by with_reducible assumption)) | (with_reducible refine bw_alloc ?_ _) | (with_reducible refine bw_step ?_ (by with_reducible assumption)) | (with_reducible refine Below.alloc ?_ ?_ _) | (with_reducible refine Below.drew ?_) | (with_reducible refine below_drewN ?_ _) | (with_reducible refine Below.setCell ?_ ?_ _) | (with_reducible refine below_step ?_ (by with_reducible assumption) ?_) | (with_reducible exact Nat.le_refl _) | omega | (simp; omega) | (simp; done)))))⟩
                          clear sF0 sF1 sF2 sF3 sF4 sF5 sF6 sF7 sF8 sF9 sF10 sF11 sF12 sF13
                          refine hKz _ _ (fun _ => hS4) ?_
                          clear hKz Kz
                          clear R_b_3 c_b_0_3 c_b_1_3 c_b_2_3 c_b_3_3 c_b_4_3 c_b_5_3 c_b_6_3 c_b_7_3 c_b_8_3 c_b_9_3 R_x_3 c_x_0_3 c_x_1_3 c_x_2_3 hb3 HB3
                          refine AnyJ.takeD (i := 8) (d := some 84) (v := ?_) rfl (by kernel_rfl) (by kernel_rfl) (by kernel_rfl) (by kernel_rfl) (by kernel_rfl) (fun _ _ _ h => h) (Or.inl ⟨by kernel_rfl, ?_⟩) hS4 ?_
                          rotate_left
                          · intro w' hS
                            clear hS
                            go_simp
                            try with_reducible rfl
                          refine AnyJ.takeD (i := 9) (d := some 85) (v := ?_) rfl (by kernel_rfl) (by kernel_rfl) (by kernel_rfl) (by kernel_rfl) (by kernel_rfl) (fun _ _ _ h => h) (Or.inl ⟨by kernel_rfl, ?_⟩) hS4 ?_
                          rotate_left
                          · intro w' hS
                            clear hS
                            go_simp
                            try with_reducible rfl
                          refine AnyJ.takeD (i := 10) (d := some 86) (v := ?_) rfl (by kernel_rfl) (by kernel_rfl) (by kernel_rfl) (by kernel_rfl) (by kernel_rfl) (fun _ _ _ h => h) (Or.inl ⟨by kernel_rfl, ?_⟩) hS4 ?_
                          rotate_left
                          · intro w' hS
                            clear hS
                            go_simp
                            try with_reducible rfl
                          refine AnyJ.takeD (i := 11) (d := some 87) (v := ?_) rfl (by kernel_rfl) (by kernel_rfl) (by kernel_rfl) (by kernel_rfl) (by kernel_rfl) (fun _ _ _ h => h) (Or.inl ⟨by kernel_rfl, ?_⟩) hS4 ?_
                          rotate_left
                          · intro w' hS
                            clear hS
                            go_simp
                            try with_reducible rfl
                          refine AnyJ.takeD (i := 12) (d := some 88) (v := ?_) rfl (by kernel_rfl) (by kernel_rfl) (by kernel_rfl) (by kernel_rfl) (by kernel_rfl) (fun _ _ _ h => h) (Or.inl ⟨by kernel_rfl, ?_⟩) hS4 ?_
                          rotate_left
                          · intro w' hS
                            clear hS
                            go_simp
                            try with_reducible rfl
                          refine AnyJ.takeD (i := 13) (d := some 89) (v := ?_) rfl (by kernel_rfl) (by kernel_rfl) (by kernel_rfl) (by kernel_rfl) (by kernel_rfl) (fun _ _ _ h => h) (Or.inl ⟨by kernel_rfl, ?_⟩) hS4 ?_
                          rotate_left
                          · intro w' hS
                            clear hS
                            go_simp
                            try with_reducible rfl
                          refine AnyJ.takeD (i := 14) (d := some 90) (v := ?_) rfl (by kernel_rfl) (by kernel_rfl) (by kernel_rfl) (by kernel_rfl) (by kernel_rfl) (fun _ _ _ h => h) (Or.inl ⟨by kernel_rfl, ?_⟩) hS4 ?_
                          rotate_left
                          · intro w' hS
                            clear hS
                            go_simp
                            try with_reducible rfl
                          refine AnyJ.takeD (i := 15) (d := some 91) (v := ?_) rfl (by kernel_rfl) (by kernel_rfl) (by kernel_rfl) (by kernel_rfl) (by kernel_rfl) (fun _ _ _ h => h) (Or.inl ⟨by kernel_rfl, ?_⟩) hS4 ?_
                          rotate_left
                          · intro w' hS
                            obtain ⟨sF0, sF1, sF2, sF3, sF4, sF5, sF6, sF7, sF8, sF9, sF10, sF11, sF12, sF13⟩ := hS
                            go_simp
                            try with_reducible rfl
                          refine AnyJ.takeD (i := 16) (d := some 92) (v := ?_) rfl (by kernel_rfl) (by kernel_rfl) (by kernel_rfl) (by kernel_rfl) (by kernel_rfl) (fun _ _ _ h => h) (Or.inl ⟨by kernel_rfl, ?_⟩) hS4 ?_
                          rotate_left
                          · intro w' hS
                            clear hS
                            go_simp
                            try with_reducible rfl
                          refine AnyJ.takeD (i := 17) (d := some 93) (v := ?_) rfl (by kernel_rfl) (by kernel_rfl) (by kernel_rfl) (by kernel_rfl) (by kernel_rfl) (fun _ _ _ h => h) (Or.inl ⟨by kernel_rfl, ?_⟩) hS4 ?_
                          rotate_left
                          · intro w' hS
                            obtain ⟨sF0, sF1, sF2, sF3, sF4, sF5, sF6, sF7, sF8, sF9, sF10, sF11, sF12, sF13⟩ := hS
                            go_simp
                            try with_reducible rfl
                          refine AnyJ.takeD (i := 18) (d := some 94) (v := ?_) rfl (by kernel_rfl) (by kernel_rfl) (by kernel_rfl) (by kernel_rfl) (by kernel_rfl) (fun _ _ _ h => h) (Or.inl ⟨by kernel_rfl, ?_⟩) hS4 ?_
                          rotate_left
                          · intro w' hS
                            clear hS
                            go_simp
                            try with_reducible rfl
                          refine AnyJ.takeD (i := 19) (d := some 95) (v := ?_) rfl (by kernel_rfl) (by kernel_rfl) (by kernel_rfl) (by kernel_rfl) (by kernel_rfl) (fun _ _ _ h => h) (Or.inl ⟨by kernel_rfl, ?_⟩) hS4 ?_
                          rotate_left
                          · intro w' hS
                            clear hS
                            go_simp
                            try with_reducible rfl
                          refine AnyJ.takeD (i := 20) (d := some 96) (v := ?_) rfl (by kernel_rfl) (by kernel_rfl) (by kernel_rfl) (by kernel_rfl) (by kernel_rfl) (fun _ _ _ h => h) (Or.inl ⟨by kernel_rfl, ?_⟩) hS4 ?_
                          rotate_left
                          · intro w' hS
                            clear hS
                            go_simp
                            try with_reducible rfl
                          refine AnyJ.takeD (i := 21) (d := some 97) (v := ?_) rfl (by kernel_rfl) (by kernel_rfl) (by kernel_rfl) (by kernel_rfl) (by kernel_rfl) (fun _ _ _ h => h) (Or.inl ⟨by kernel_rfl, ?_⟩) hS4 ?_
                          rotate_left
                          · intro w' hS
                            clear hS
                            go_simp
                            try with_reducible rfl
                          refine AnyJ.takeD (i := 22) (d := some 98) (v := ?_) rfl (by kernel_rfl) (by kernel_rfl) (by kernel_rfl) (by kernel_rfl) (by kernel_rfl) (fun _ _ _ h => h) (Or.inl ⟨by kernel_rfl, ?_⟩) hS4 ?_
                          rotate_left
                          · intro w' hS
                            obtain ⟨sF0, sF1, sF2, sF3, sF4, sF5, sF6, sF7, sF8, sF9, sF10, sF11, sF12, sF13⟩ := hS
                            go_simp
                            try with_reducible rfl
                          refine AnyJ.takeD (i := 23) (d := some 99) (v := ?_) rfl (by kernel_rfl) (by kernel_rfl) (by kernel_rfl) (by kernel_rfl) (by kernel_rfl) (fun _ _ _ h => h) (Or.inl ⟨by kernel_rfl, ?_⟩) hS4 ?_
                          rotate_left
                          · intro w' hS
                            clear hS
                            go_simp
                            try with_reducible rfl
                          refine AnyJ.takeD (i := 24) (d := some 100) (v := ?_) rfl (by kernel_rfl) (by kernel_rfl) (by kernel_rfl) (by kernel_rfl) (by kernel_rfl) (fun _ _ _ h => h) (Or.inl ⟨by kernel_rfl, ?_⟩) hS4 ?_
                          rotate_left
                          · intro w' hS
                            clear hS
                            go_simp
                            try with_reducible rfl
                          refine AnyJ.takeD (i := 25) (d := some 101) (v := ?_) rfl (by kernel_rfl) (by kernel_rfl) (by kernel_rfl) (by kernel_rfl) (by kernel_rfl) (fun _ _ _ h => h) (Or.inl ⟨by kernel_rfl, ?_⟩) hS4 ?_
                          rotate_left
                          · intro w' hS
                            clear hS
                            go_simp
                            try with_reducible rfl
                          refine AnyJ.done (by kernel_rfl) ?_ _
                          clear hS4
                          simp only [Act.put, List.setIfInBounds_toArray, List.set_cons_zero, List.set_cons_succ]
                          obtain rfl : R = false := by
                            rw [← HR.out]
                            simp [blkB, cutsB_false (by rw [HLC.out]; exact hlt) HC2.out]
                          go_wp2_with fail
                          go_ret
                          refine ⟨(by first | rfl | exact ret_bool (by first | rfl | (simp; done) | (simp; omega))), ?_⟩
                          (repeat' (first | (with_reducible exact Below.refl _ _) | (with_reducible assumption) | (with_reducible exact Bw.out (by with_reducible assumption)) | (with_reducible refine bw_alloc ?_ _) | (with_reducible refine bw_step ?_ (by with_reducible assumption)) | (with_reducible refine Below.alloc ?_ ?_ _) | (with_reducible refine Below.drew ?_) | (with_reducible refine below_drewN ?_ _) | (with_reducible refine Below.setCell ?_ ?_ _) | (with_reducible refine below_step ?_ (by with_reducible assumption) ?_) | (with_reducible exact Nat.le_refl _) | omega | (simp; omega) | (simp; done)))
                · obtain rfl : k = cn := by omega
                  cases hpk : picksB B.rooms B.picked with
                  | false =>
                    obtain rfl : R = false := by rw [← HR.out]; simp [blkB, hpk]
                    have c_b_2_2 := R_b_2.cell 2 rfl
                    go_wp2_with fail
                    refine (g_contains pa pm pc B.picked B.rooms w.heap.size w2 (by omega) (HP.out.below HB2) c_b_2_2).mono ?_
                    rintro e w' ⟨rfl, rfl⟩
                    rw [hpk]
                    go_wp2_with fail
                    go_ret
                    exact ⟨rfl, HB2⟩
                  | true =>
                    obtain rfl : R = true := by
                      rw [← HR.out]
                      simp [blkB, hpk, HH.out, HSP.out, cutsB_iff.2 (fun i hi => hT.out i (by rw [HLC.out] at hi; exact hi))]
                    have c_b_2_2 := R_b_2.cell 2 rfl
                    go_wp2_with fail
                    refine (g_contains pa pm pc B.picked B.rooms w.heap.size w2 (by omega) (HP.out.below HB2) c_b_2_2).mono ?_
                    rintro e w' ⟨rfl, rfl⟩
                    rw [hpk]
                    go_wp2_with fail
                    go_ret
                    exact ⟨rfl, HB2⟩

end Go.Proofs.Ytjmlkdopbiedaaa
