/-
  The walks of package worst, third part: Empty, Nights.
-/
import Derived.Test.YtijbhdpaikajkaaWorstB
import Derived.Test.YtijbhdpaikajkaaRTop
namespace Go.Proofs.Ytijbhdpaikajkaa
set_option linter.unusedSimpArgs false
set_option linter.unusedVariables false
open Go.RowKit

theorem ret2_int {k l : IntKind} {a b c : Int} (h : a = b) : Ending.returned (.tuple #[.int k a, .int l c]) = .returned (.tuple #[.int k b, .int l c]) := by rw [h]
/-- What Empty returns. -/
def emE (r s : Int) (zs : List Int) (away : Int) : Bool := nightB r s zs && inB away 3000
def emI (r s away : Int) : Int := max 0 (r - max 0 (s - away))

set_option maxRecDepth 100000 in
set_option maxHeartbeats 3200000 in
theorem Empty_any (r s aw : Int) (a : Option Addr) (n cap : Nat) (zs : List Int) (w : World) (K : SlC w a n cap zs) (hm : n ≤ 9223372036854775807) (X E : Int) (hX : ifI (emE r s zs aw) (emI r s aw) 0 = X) (hE : ifI (emE r s zs aw) 0 1 = E) :
    Calls Try.prog 35 #[.agg #[.int .i64 r, .int .i64 s, .slice a n cap], .int .i64 aw] w fun e w' => e = .returned (.tuple #[.int .i64 X, .int .i64 E]) ∧ Below w.heap.size w w' := by
  have h1 := nightsB_one r s a n cap zs
  have h2 : (nightsB [nightOf r s a n cap zs] && inB 0 30) = nightB r s zs := by rw [h1, inB_true (by omega) (by omega), Bool.and_true]
  clear h1
  cases hn : nightB r s zs with
  | false =>
    have hb : emE r s zs aw = false := by unfold emE; rw [hn]; rfl
    rw [hb] at hX hE
    obtain rfl : (0 : Int) = X := hX
    obtain rfl : (1 : Int) = E := hE
    rw [hn] at h2
    have HB := Lib.hid h2
    clear h2 hb
    go_enter Try.func35, Try.ntmps35
    go_wp2_with fail
    refine (w_right_any _ _ _ [nightOf r s a n cap zs] 0 _ (by omega) (one_night (by (repeat' (first | (with_reducible assumption) | (with_reducible refine Row.new' _ _ _ (by first | rfl | (simp; done) | omega)) | (with_reducible refine Row.alloc ?_ _) | (with_reducible refine Row.drew ?_) | (with_reducible refine Row.drewN ?_ _) | (with_reducible refine Row.step ?_ (by with_reducible assumption))))) hm (K.step (by (repeat' (first | (with_reducible exact Below.refl _ _) | (with_reducible assumption) | (with_reducible exact Bw.out (by with_reducible assumption)) | (with_reducible refine bw_alloc ?_ _) | (with_reducible refine bw_step ?_ (by with_reducible assumption)) | (with_reducible refine Below.alloc ?_ ?_ _) | (with_reducible refine Below.drew ?_) | (with_reducible refine below_drewN ?_ _) | (with_reducible refine Below.setCell ?_ ?_ _) | (with_reducible refine below_step ?_ (by with_reducible assumption) ?_) | (with_reducible exact Nat.le_refl _) | omega | (simp; omega) | (simp; done))))).sl) false HB.out).mono ?_
    rintro e w1 ⟨rfl, hb1⟩
    replace K := K.step (show Below w.heap.size w w1 by (repeat' (first | (with_reducible exact Below.refl _ _) | (with_reducible assumption) | (with_reducible exact Bw.out (by with_reducible assumption)) | (with_reducible refine bw_alloc ?_ _) | (with_reducible refine bw_step ?_ (by with_reducible assumption)) | (with_reducible refine Below.alloc ?_ ?_ _) | (with_reducible refine Below.drew ?_) | (with_reducible refine below_drewN ?_ _) | (with_reducible refine Below.setCell ?_ ?_ _) | (with_reducible refine below_step ?_ (by with_reducible assumption) ?_) | (with_reducible exact Nat.le_refl _) | omega | (simp; omega) | (simp; done))))
    have HB1 : Below w.heap.size w w1 := by (repeat' (first | (with_reducible exact Below.refl _ _) | (with_reducible assumption) | (with_reducible exact Bw.out (by with_reducible assumption)) | (with_reducible refine bw_alloc ?_ _) | (with_reducible refine bw_step ?_ (by with_reducible assumption)) | (with_reducible refine Below.alloc ?_ ?_ _) | (with_reducible refine Below.drew ?_) | (with_reducible refine below_drewN ?_ _) | (with_reducible refine Below.setCell ?_ ?_ _) | (with_reducible refine below_step ?_ (by with_reducible assumption) ?_) | (with_reducible exact Nat.le_refl _) | omega | (simp; omega) | (simp; done)))
    go_wp2_with fail
    go_ret2
    refine ⟨rfl, ?_⟩
    (repeat' (first | (with_reducible exact Below.refl _ _) | (with_reducible assumption) | (with_reducible exact Bw.out (by with_reducible assumption)) | (with_reducible refine bw_alloc ?_ _) | (with_reducible refine bw_step ?_ (by with_reducible assumption)) | (with_reducible refine Below.alloc ?_ ?_ _) | (with_reducible refine Below.drew ?_) | (with_reducible refine below_drewN ?_ _) | (with_reducible refine Below.setCell ?_ ?_ _) | (with_reducible refine below_step ?_ (by with_reducible assumption) ?_) | (with_reducible exact Nat.le_refl _) | omega | (simp; omega) | (simp; done)))
  | true =>
    rw [hn] at h2
    have HB := Lib.hid h2
    clear h2
    cases hi : inB aw 3000 with
    | false =>
      have hb : emE r s zs aw = false := by unfold emE; rw [hn, hi]; rfl
      rw [hb] at hX hE
      obtain rfl : (0 : Int) = X := hX
      obtain rfl : (1 : Int) = E := hE
      have HI := Lib.hid hi
      clear hb hi
      go_enter Try.func35, Try.ntmps35
      go_wp2_with fail
      refine (w_right_any _ _ _ [nightOf r s a n cap zs] 0 _ (by omega) (one_night (by (repeat' (first | (with_reducible assumption) | (with_reducible refine Row.new' _ _ _ (by first | rfl | (simp; done) | omega)) | (with_reducible refine Row.alloc ?_ _) | (with_reducible refine Row.drew ?_) | (with_reducible refine Row.drewN ?_ _) | (with_reducible refine Row.step ?_ (by with_reducible assumption))))) hm (K.step (by (repeat' (first | (with_reducible exact Below.refl _ _) | (with_reducible assumption) | (with_reducible exact Bw.out (by with_reducible assumption)) | (with_reducible refine bw_alloc ?_ _) | (with_reducible refine bw_step ?_ (by with_reducible assumption)) | (with_reducible refine Below.alloc ?_ ?_ _) | (with_reducible refine Below.drew ?_) | (with_reducible refine below_drewN ?_ _) | (with_reducible refine Below.setCell ?_ ?_ _) | (with_reducible refine below_step ?_ (by with_reducible assumption) ?_) | (with_reducible exact Nat.le_refl _) | omega | (simp; omega) | (simp; done))))).sl) true HB.out).mono ?_
      rintro e w1 ⟨rfl, hb1⟩
      replace K := K.step (show Below w.heap.size w w1 by (repeat' (first | (with_reducible exact Below.refl _ _) | (with_reducible assumption) | (with_reducible exact Bw.out (by with_reducible assumption)) | (with_reducible refine bw_alloc ?_ _) | (with_reducible refine bw_step ?_ (by with_reducible assumption)) | (with_reducible refine Below.alloc ?_ ?_ _) | (with_reducible refine Below.drew ?_) | (with_reducible refine below_drewN ?_ _) | (with_reducible refine Below.setCell ?_ ?_ _) | (with_reducible refine below_step ?_ (by with_reducible assumption) ?_) | (with_reducible exact Nat.le_refl _) | omega | (simp; omega) | (simp; done))))
      have HB1 : Below w.heap.size w w1 := by (repeat' (first | (with_reducible exact Below.refl _ _) | (with_reducible assumption) | (with_reducible exact Bw.out (by with_reducible assumption)) | (with_reducible refine bw_alloc ?_ _) | (with_reducible refine bw_step ?_ (by with_reducible assumption)) | (with_reducible refine Below.alloc ?_ ?_ _) | (with_reducible refine Below.drew ?_) | (with_reducible refine below_drewN ?_ _) | (with_reducible refine Below.setCell ?_ ?_ _) | (with_reducible refine below_step ?_ (by with_reducible assumption) ?_) | (with_reducible exact Nat.le_refl _) | omega | (simp; omega) | (simp; done)))
      go_wp2_with fail
      refine (w_within_any aw 3000 _).mono ?_
      rintro e w' ⟨rfl, rfl⟩
      rw [HI.out]
      go_wp2_with fail
      go_ret2
      refine ⟨rfl, ?_⟩
      (repeat' (first | (with_reducible exact Below.refl _ _) | (with_reducible assumption) | (with_reducible exact Bw.out (by with_reducible assumption)) | (with_reducible refine bw_alloc ?_ _) | (with_reducible refine bw_step ?_ (by with_reducible assumption)) | (with_reducible refine Below.alloc ?_ ?_ _) | (with_reducible refine Below.drew ?_) | (with_reducible refine below_drewN ?_ _) | (with_reducible refine Below.setCell ?_ ?_ _) | (with_reducible refine below_step ?_ (by with_reducible assumption) ?_) | (with_reducible exact Nat.le_refl _) | omega | (simp; omega) | (simp; done)))
    | true =>
      have hb : emE r s zs aw = true := by unfold emE; rw [hn, hi]; rfl
      rw [hb] at hX hE
      obtain rfl : (0 : Int) = E := hE
      have hX : emI r s aw = X := hX
      obtain ⟨p1, p2, ⟨p3, p4⟩, p5, p6⟩ := nightB_parts hn
      obtain ⟨a1, a2⟩ := inB_iff.1 hi
      have HI := Lib.hid hi
      clear hb hi p2
      subst hX
      unfold emI
      go_enter Try.func35, Try.ntmps35
      go_wp2_with fail
      refine (w_right_any _ _ _ [nightOf r s a n cap zs] 0 _ (by omega) (one_night (by (repeat' (first | (with_reducible assumption) | (with_reducible refine Row.new' _ _ _ (by first | rfl | (simp; done) | omega)) | (with_reducible refine Row.alloc ?_ _) | (with_reducible refine Row.drew ?_) | (with_reducible refine Row.drewN ?_ _) | (with_reducible refine Row.step ?_ (by with_reducible assumption))))) hm (K.step (by (repeat' (first | (with_reducible exact Below.refl _ _) | (with_reducible assumption) | (with_reducible exact Bw.out (by with_reducible assumption)) | (with_reducible refine bw_alloc ?_ _) | (with_reducible refine bw_step ?_ (by with_reducible assumption)) | (with_reducible refine Below.alloc ?_ ?_ _) | (with_reducible refine Below.drew ?_) | (with_reducible refine below_drewN ?_ _) | (with_reducible refine Below.setCell ?_ ?_ _) | (with_reducible refine below_step ?_ (by with_reducible assumption) ?_) | (with_reducible exact Nat.le_refl _) | omega | (simp; omega) | (simp; done))))).sl) true HB.out).mono ?_
      rintro e w1 ⟨rfl, hb1⟩
      have R_n_1 : Row w1 (w.heap.size) [.int .i64 r, .int .i64 s, .slice a n cap] := by (repeat' (first | (with_reducible assumption) | (with_reducible refine Row.new' _ _ _ (by first | rfl | (simp; done) | omega)) | (with_reducible refine Row.alloc ?_ _) | (with_reducible refine Row.drew ?_) | (with_reducible refine Row.drewN ?_ _) | (with_reducible refine Row.step ?_ (by with_reducible assumption)) | (with_reducible refine Row.set2' ?_ _ _; first | exact ⟨_, _, by with_reducible assumption⟩ | exact ⟨_, _, Row.alloc (by with_reducible assumption) _⟩ | exact ⟨_, _, Row.alloc (Row.alloc (by with_reducible assumption) _) _⟩) | (with_reducible refine Row.other ?_ (by first | omega | (simp; done) | (simp; omega)) _)))
      have c_n_0_1 := R_n_1.cell 0 rfl
      have c_n_1_1 := R_n_1.cell 1 rfl
      have c_n_2_1 := R_n_1.cell 2 rfl
      have l_n_1 := R_n_1.lt
      replace K := K.step (show Below w.heap.size w w1 by (repeat' (first | (with_reducible exact Below.refl _ _) | (with_reducible assumption) | (with_reducible exact Bw.out (by with_reducible assumption)) | (with_reducible refine bw_alloc ?_ _) | (with_reducible refine bw_step ?_ (by with_reducible assumption)) | (with_reducible refine Below.alloc ?_ ?_ _) | (with_reducible refine Below.drew ?_) | (with_reducible refine below_drewN ?_ _) | (with_reducible refine Below.setCell ?_ ?_ _) | (with_reducible refine below_step ?_ (by with_reducible assumption) ?_) | (with_reducible exact Nat.le_refl _) | omega | (simp; omega) | (simp; done))))
      have HB1 : Below w.heap.size w w1 := by (repeat' (first | (with_reducible exact Below.refl _ _) | (with_reducible assumption) | (with_reducible exact Bw.out (by with_reducible assumption)) | (with_reducible refine bw_alloc ?_ _) | (with_reducible refine bw_step ?_ (by with_reducible assumption)) | (with_reducible refine Below.alloc ?_ ?_ _) | (with_reducible refine Below.drew ?_) | (with_reducible refine below_drewN ?_ _) | (with_reducible refine Below.setCell ?_ ?_ _) | (with_reducible refine below_step ?_ (by with_reducible assumption) ?_) | (with_reducible exact Nat.le_refl _) | omega | (simp; omega) | (simp; done)))
      go_wp2_with fail
      refine (w_within_any aw 3000 _).mono ?_
      rintro e w' ⟨rfl, rfl⟩
      rw [HI.out]
      go_wp2_with fail
      all_goals
        go_ret2
        refine ⟨ret2_int (by omega), ?_⟩
        (repeat' (first | (with_reducible exact Below.refl _ _) | (with_reducible assumption) | (with_reducible exact Bw.out (by with_reducible assumption)) | (with_reducible refine bw_alloc ?_ _) | (with_reducible refine bw_step ?_ (by with_reducible assumption)) | (with_reducible refine Below.alloc ?_ ?_ _) | (with_reducible refine Below.drew ?_) | (with_reducible refine below_drewN ?_ _) | (with_reducible refine Below.setCell ?_ ?_ _) | (with_reducible refine below_step ?_ (by with_reducible assumption) ?_) | (with_reducible exact Nat.le_refl _) | omega | (simp; omega) | (simp; done)))

def wkN (c : Nat) (x : NightV) : Int := wkI x.rooms x.sold x.zs c
theorem nightsB_at {l : List NightV} (h : nightsB l = true) {i : Nat} {x : NightV} (hx : l[i]? = some x) : nightB x.rooms x.sold x.zs = true := by
  unfold nightsB at h
  simp only [Bool.and_eq_true, List.all_eq_true] at h
  exact h.2 x (List.mem_of_getElem? hx)
theorem nightsB_len {l : List NightV} (h : nightsB l = true) : l.length ≤ 366 := by
  unfold nightsB at h
  simp only [Bool.and_eq_true, decide_eq_true_eq] at h
  exact h.1
theorem SlI.c {w : World} {a : Option Addr} {n cap : Nat} {zs : List Int} (h : SlI w a n zs) (h1 : n ≤ cap) (h2 : cap ≤ maxLen) : SlC w a n cap zs := ⟨h.1, a, cap, by rw [h.1], by rw [h.1]; exact h, by rw [h.1]; exact h1, h2⟩

set_option maxRecDepth 100000 in
set_option maxHeartbeats 3200000 in
theorem Nights_not (a : Option Addr) (n cap : Nat) (l : List NightV) (c : Int) (w : World) (hm : n ≤ 9223372036854775807) (hs : SlN w a n l) (hB : (nightsB l && inB c 30) = false) :
    Calls Try.prog 26 #[.slice a n cap, .int .i64 c] w fun e w' => e = .returned (.tuple #[.slice none 0 0, .int .i64 1]) ∧ Below w.heap.size w w' := by
  have HS := Lib.hid hs
  have HB := Lib.hid hB
  clear hs hB
  go_enter Try.func26, Try.ntmps26
  go_wp2_with fail
  refine (w_right_any _ _ _ l c _ hm HS.out false HB.out).mono ?_
  rintro e w1 ⟨rfl, hb1⟩
  have HB1 : Below w.heap.size w w1 := by (repeat' (first | (with_reducible exact Below.refl _ _) | (with_reducible assumption) | (with_reducible exact Bw.out (by with_reducible assumption)) | (with_reducible refine bw_alloc ?_ _) | (with_reducible refine bw_step ?_ (by with_reducible assumption)) | (with_reducible refine Below.alloc ?_ ?_ _) | (with_reducible refine Below.drew ?_) | (with_reducible refine below_drewN ?_ _) | (with_reducible refine Below.setCell ?_ ?_ _) | (with_reducible refine below_step ?_ (by with_reducible assumption) ?_) | (with_reducible exact Nat.le_refl _) | omega | (simp; omega) | (simp; done)))
  go_wp2_with fail
  go_ret2
  refine ⟨rfl, ?_⟩
  (repeat' (first | (with_reducible exact Below.refl _ _) | (with_reducible assumption) | (with_reducible exact Bw.out (by with_reducible assumption)) | (with_reducible refine bw_alloc ?_ _) | (with_reducible refine bw_step ?_ (by with_reducible assumption)) | (with_reducible refine Below.alloc ?_ ?_ _) | (with_reducible refine Below.drew ?_) | (with_reducible refine below_drewN ?_ _) | (with_reducible refine Below.setCell ?_ ?_ _) | (with_reducible refine below_step ?_ (by with_reducible assumption) ?_) | (with_reducible exact Nat.le_refl _) | omega | (simp; omega) | (simp; done)))

set_option maxRecDepth 100000 in
set_option maxHeartbeats 3200000 in
theorem Nights_any (a : Option Addr) (n cap : Nat) (l : List NightV) (c : Nat) (w : World) (hs : SlN w a n l) (hcaps : ∀ x ∈ l, x.n ≤ x.cap ∧ x.cap ≤ maxLen) (h : nightsB l = true) (hc : c ≤ 30) :
    Calls Try.prog 26 #[.slice a n cap, .int .i64 c] w fun e w' => ∃ v, e = .returned (.tuple #[v, .int .i64 0]) ∧ SlV w' v (l.map (wkN c)) ∧ Below w.heap.size w w' := by
  have hl := nightsB_len h
  have hn : n ≤ 366 := by have := hs.1; omega
  have HL := Lib.hid hs.1
  have HS := Lib.hid hs
  have HC := Lib.hid hcaps
  have HN := Lib.hid h
  have hB : (nightsB l && inB (c : Int) 30) = true := by rw [h, inB_true (by omega) (by omega)]; rfl
  have HB := Lib.hid hB
  clear hs hcaps h hB hl
  obtain ⟨i0, hi, hz0, hz1, hz2⟩ := info_parts info_int
  have HI := Lib.hid (And.intro hi (And.intro hz0 (And.intro hz1 hz2)))
  clear hi hz0 hz1 hz2
  go_enter Try.func26, Try.ntmps26
  go_wp2_with fail
  refine (w_right_any _ _ _ l c _ (by omega) HS.out true HB.out).mono ?_
  rintro e w1 ⟨rfl, hb1⟩
  have HB1 : Below w.heap.size w w1 := by (repeat' (first | (with_reducible exact Below.refl _ _) | (with_reducible assumption) | (with_reducible exact Bw.out (by with_reducible assumption)) | (with_reducible refine bw_alloc ?_ _) | (with_reducible refine bw_step ?_ (by with_reducible assumption)) | (with_reducible refine Below.alloc ?_ ?_ _) | (with_reducible refine Below.drew ?_) | (with_reducible refine below_drewN ?_ _) | (with_reducible refine Below.setCell ?_ ?_ _) | (with_reducible refine below_step ?_ (by with_reducible assumption) ?_) | (with_reducible exact Nat.le_refl _) | omega | (simp; omega) | (simp; done)))
  go_wp2_with (refine wpList_make_own _ rfl _ _ 22 rfl w.heap.size 3 i0 (.int .i64 0) 1 Try.underlying22 HI.out.1 HI.out.2.1 HI.out.2.2.1 .i64 .i64 (n : Int) n rfl rfl rfl (by rw [HI.out.2.2.2]; omega) (by unfold maxLen; omega) (by have := HB1.size; omega) ?_; intro w2 hown2 hgrow2)
  have H2 := Lib.hid hown2
  have B2 := Lib.hid (HB1.grown hgrow2 HB1.size (fun k e => by cases e))
  clear hown2 hgrow2
  go_wp2_with fail
  go_loopw [6, 19] (fun v i wr => ∃ (k : Nat) (ad : Option Addr) (cp : Nat), k ≤ n ∧ i = .int .i64 k ∧ v = .slice ad k cp ∧ Hid (OwnV wr w.heap.size (.slice ad k cp) ((l.take k).map (wkN c))) ∧ Bw w.heap.size w wr) (fun _ i _ => n - (intOf i).toNat)
  case atStart => exact ⟨0, _, n, Nat.zero_le _, rfl, rfl, by show OwnV _ _ _ _; simpa [OwnV] using H2.out, B2.out⟩
  case round =>
    obtain ⟨k, ad, cp, hk, rfl, rfl, hO, hB⟩ := hrel
    have hB' := hB.out
    by_cases hlt : k < n
    · obtain ⟨x, b, off, hx, hd, hin, rfl, hb, c0, c1, c2⟩ := (HS.out.below hB').get hlt
      obtain ⟨q1, q2⟩ := HC.out x (List.mem_of_getElem? hx)
      have hnx := nightsB_at HN.out hx
      have KX := Lib.hid (hin.2.c q1 q2)
      have HT : Hid ((l.take (k + 1)).map (wkN c) = (l.take k).map (wkN c) ++ [wkI x.rooms x.sold x.zs c]) := by
        show _ = _
        rw [List.take_add_one, hx]; simp [wkN]
      have HLk : Hid (((l.take k).map (wkN c)).length = k) := by
        show _ = _
        rw [List.length_map, List.length_take, HL.out]; omega
      clear hx hd hin q1 q2
      go_upto_region 8 with fail
      generalize hW3 : wr.alloc (.cells #[.int .i64 x.rooms, .int .i64 x.sold, .slice x.at' x.n x.cap] 24) = w3
      have hB3 : Below wr.heap.size wr w3 := by rw [← hW3]; (repeat' (first | (with_reducible exact Below.refl _ _) | (with_reducible assumption) | (with_reducible exact Bw.out (by with_reducible assumption)) | (with_reducible refine bw_alloc ?_ _) | (with_reducible refine bw_step ?_ (by with_reducible assumption)) | (with_reducible refine Below.alloc ?_ ?_ _) | (with_reducible refine Below.drew ?_) | (with_reducible refine below_drewN ?_ _) | (with_reducible refine Below.setCell ?_ ?_ _) | (with_reducible refine below_step ?_ (by with_reducible assumption) ?_) | (with_reducible exact Nat.le_refl _) | omega | (simp; omega) | (simp; done)))
      have HO3 := Lib.hid (hO.out.step hB3)
      have KX3 := Lib.hid (KX.out.step hB3)
      have hB4 : Below w.heap.size w w3 := bw_step hB' hB3
      have HB4 := Lib.hid hB4
      clear hW3 hB3 hB4 c0 c1 c2
      go_wp2_with fail
      refine (walked_any x.rooms x.sold c _ _ _ x.zs _ KX3.out hnx hc).mono ?_
      rintro e w4 ⟨rfl, hb4⟩
      have HO4 := Lib.hid (HO3.out.step hb4)
      have HB5 := Lib.hid (bw_step HB4.out hb4)
      clear hb4
      go_wp2_with (at_builtin; refine wpList_append_int rfl _ _ _ rfl Try.underlying22 w.heap.size _ ((l.take k).map (wkN c)) rfl (HO4.out.alloc _) w4.heap.size 1 _ rfl ((Row.new' w4 [_] _ rfl).cell 0 rfl) (by rw [HLk.out]; omega) (by have := HB5.out.size; simp; omega) ?_; intro v' w5 hown1 hbl1 hsz1)
      have H7 := Lib.hid (hbl1 w (Below.alloc HB5.out (by simpa using HB5.out.size) _))
      rw [← HT.out] at hown1
      obtain ⟨ad3, cp3, rfl, ho3⟩ := hown1.form (k + 1) (by rw [List.length_map, List.length_take, HL.out]; omega)
      have H1 := Lib.hid ho3
      clear hown1 hbl1 ho3
      go_wp2_with fail
      go_roundw
      case rel => exact ⟨k + 1, ad3, cp3, by omega, by go_num, rfl, H1.out, H7.out⟩
      case measure => simp [intOf]; omega
    · obtain rfl : k = n := by omega
      have HV : Hid (SlV wr (.slice ad k cp) (l.map (wkN c))) := by
        have := hO.out.sl
        rwa [List.take_of_length_le (by rw [HL.out]; omega)] at this
      go_wp2_with fail
      go_ret2
      exact ⟨_, rfl, HV.out, hB'⟩

end Go.Proofs.Ytijbhdpaikajkaa
