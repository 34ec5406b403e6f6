/-
 Texts built as one: XRfA, XRfB, XRfC, XKpA, XKpB, XKpC, XDoP, XDoA, XOpT.
-/
import Derived.Test.YtlmajlfhjbhdpaaGreatZG
import Derived.BigQuiet
import Derived.Test.YtlmajlfhjbhdpaaGreatZD
import Derived.Test.YtlmajlfhjbhdpaaGreatWB
import Derived.Test.YtlmajlfhjbhdpaaGreatWD
import Derived.Test.YtlmajlfhjbhdpaaGreatLaw
import Derived.Test.YtlmajlfhjbhdpaaGreatZB
import Derived.Deep.Slices
import Derived.Deep.Fields
import Derived.ChangeSame
namespace Go.Proofs.YtlmajlfhjbhdpaaGreat
section
set_option linter.unusedSimpArgs false
set_option linter.unusedVariables false
open Go.RowKit Go.Shelf
theorem R_in_p (n lo hi : Int) (p : Bool) (hp : inZ n lo hi = p) (w : World) :
  Calls Tryz.prog 39 #[.int .i64 n, .int .i64 lo, .int .i64 hi] w fun e w' => e = .returned (.bool p) ∧ w' = w := by
 subst hp
 by_cases h : lo ≤ n
 ·
  have e : inZ n lo hi = decide (n ≤ hi) := by unfold inZ; simp [h]
  rw [e]
  go_enter Tryz.func39, Tryz.ntmps39
  go_wp2_with fail
  go_ret
  exact ⟨rfl, rfl⟩
 ·
  have e : inZ n lo hi = false := by unfold inZ; simp [h]
  rw [e]
  go_enter Tryz.func39, Tryz.ntmps39
  go_wp2_with fail
  go_ret
  exact ⟨rfl, rfl⟩
theorem R_span_p (f u : Int) (p : Bool) (hp : spanB (f, u) = p) (w : World) :
  Calls Tryz.prog 57 #[.agg #[.int .i64 f, .int .i64 u]] w fun e w' => e = .returned (.bool p) ∧ Below w.heap.size w w' := by
 subst hp
 by_cases h1 : 0 ≤ f
 ·
  by_cases h2 : f < u
  ·
   have e : spanB (f, u) = decide (u ≤ 1000000000) := by unfold spanB; simp [h1, h2]
   rw [e]
   go_enter Tryz.func57, Tryz.ntmps57
   go_wp2_with fail
   go_ret
   refine ⟨(by first | rfl | exact ret_bool (by first | rfl | (simp; done) | (simp; omega))), ?_⟩
   (repeat' (first | (with_reducible first | exact Below.refl _ _ | assumption | exact Bw.out (by assumption) | refine bw_alloc ?_ _ | refine bw_step ?_ (by assumption) | refine Below.alloc ?_ ?_ _ | refine Below.drew ?_ | refine below_drewN ?_ _ | refine Below.setCell ?_ ?_ _ | refine below_step ?_ (by assumption) ?_ | exact Nat.le_refl _) | omega | (simp; omega) | (simp; done)))
  ·
   have e : spanB (f, u) = false := by unfold spanB; simp; omega
   rw [e]
   go_enter Tryz.func57, Tryz.ntmps57
   go_wp2_with fail
   go_ret
   refine ⟨(by first | rfl | exact ret_bool (by first | rfl | (simp; done) | (simp; omega))), ?_⟩
   (repeat' (first | (with_reducible first | exact Below.refl _ _ | assumption | exact Bw.out (by assumption) | refine bw_alloc ?_ _ | refine bw_step ?_ (by assumption) | refine Below.alloc ?_ ?_ _ | refine Below.drew ?_ | refine below_drewN ?_ _ | refine Below.setCell ?_ ?_ _ | refine below_step ?_ (by assumption) ?_ | exact Nat.le_refl _) | omega | (simp; omega) | (simp; done)))
 ·
  have e : spanB (f, u) = false := by unfold spanB; simp; omega
  rw [e]
  go_enter Tryz.func57, Tryz.ntmps57
  go_wp2_with fail
  go_ret
  refine ⟨(by first | rfl | exact ret_bool (by first | rfl | (simp; done) | (simp; omega))), ?_⟩
  (repeat' (first | (with_reducible first | exact Below.refl _ _ | assumption | exact Bw.out (by assumption) | refine bw_alloc ?_ _ | refine bw_step ?_ (by assumption) | refine Below.alloc ?_ ?_ _ | refine Below.drew ?_ | refine below_drewN ?_ _ | refine Below.setCell ?_ ?_ _ | refine below_step ?_ (by assumption) ?_ | exact Nat.le_refl _) | omega | (simp; omega) | (simp; done)))
theorem spansB_nxt {l : List (Int × Int)} {k : Nat} {f u la : Int} (h : l[k]? = some (f, u)) : spansB la (l.drop k) = ((spanB (f, u) && decide (la < f)) && spansB u (l.drop (k + 1))) := spansB_step h
set_option maxRecDepth 100000 in
set_option maxHeartbeats 1600000 in
theorem R_spans_any (a : Option Addr) (n cap : Nat) (l : List (Int × Int)) (w : World) (hm : n ≤ 9223372036854775807) (hs : SlG spE w a n l) :
  Calls Tryz.prog 38 #[.slice a n cap] w fun e w' => ∃ v : Value, e = .returned v ∧ (∃ p, v = .bool p ∧ (p = true → validS l = true)) ∧ Below w.heap.size w w' := by
 have HS := Lib.hid hs
 have HL := Lib.hid hs.1
 clear hs
 go_enter Tryz.func38, Tryz.ntmps38
 go_wp2_with fail
 go_loopw [3, 4] (fun ix _ wr => ∃ (k : Nat) (la : Int), k ≤ n ∧ ix = .int .i64 k ∧ Hid (spansB (-1) l = spansB la (l.drop k)) ∧ Hid (k = 0 → la = -1) ∧ Hid (∀ j f u, k = j + 1 → l[j]? = some (f, u) → la = u) ∧ Hid (Below w.heap.size w wr)) (fun ix _ _ => n - (intOf ix).toNat)
 case atStart => exact ⟨0, -1, Nat.zero_le _, rfl, rfl, fun _ => rfl, (fun j f u h => by omega), Below.refl _ _⟩
 case round =>
  obtain ⟨k, la, hk, rfl, hT, h0, h1, hB⟩ := hrel
  by_cases hkn : k < n
  ·
   obtain ⟨f, u, b, off, hx, rfl, hlb, x0, x1⟩ := slS_get (HS.out.step hB.out) hkn
   have HX := Lib.hid (spansB_nxt (la := la) hx.out)
   have HXX := Lib.hid hx.out
   have i1 : (0 : Int) ≤ (k : Int) := by omega
   have i2 : (k : Int) < (n : Int) := by omega
   obtain ⟨p, hp⟩ : ∃ p, spanB (f, u) = p := ⟨_, rfl⟩
   have HP := Lib.hid hp
   clear hp hx
   go_wp2_with fail
   refine (R_span_p f u p HP.out _).mono ?_
   rintro e w2 ⟨rfl, hb2⟩
   have x0' := (hb2.cell (World.block_lt_of_cell? _ _ x0)).trans x0
   have HB2 : Hid (Below w.heap.size w w2) := hB.out.trans (hb2.mono hB.out.size)
   have hlb2 : b < w2.heap.size := Nat.lt_of_lt_of_le hlb hb2.size
   cases p with
   | false =>
    clear hb2 x0 x1
    go_wp2_with fail
    go_quiet (fail)
    go_wp2_with fail
    go_ret
    exact ⟨_, rfl, ⟨false, rfl, (fun h => by cases h)⟩, HB2.out.trans ⟨rfl, rfl, rfl, Nat.le_refl _, fun _ _ => rfl⟩⟩
   | true =>
    have hfb : 0 ≤ f := by
     have := HP.out
     unfold spanB at this
     simp only [Bool.and_eq_true, decide_eq_true_eq] at this
     exact this.1
    rcases Nat.eq_zero_or_pos k with hk0 | hkp
    ·
     subst hk0
     have hla := h0.out rfl
     have HT2 : Hid (spansB (-1) l = spansB u (l.drop 1)) := by show _ = _; rw [hT.out, HX.out, HP.out, hla, decide_eq_true (by omega)]; rfl
     have HXU : Hid (∀ j f' u', 1 = j + 1 → l[j]? = some (f', u') → u = u') := fun j f' u' h h' => by
      obtain rfl : j = 0 := by omega
      rw [HXX.out] at h'
      cases h'
      rfl
     clear hb2 x0 x1 hla
     go_wp2_with fail
     go_quiet (fail)
     go_wp2_with fail
     exact ⟨⟨1, u, by omega, by go_num, HT2.out, (fun h => by cases h), HXU.out, HB2.out.trans ⟨rfl, rfl, rfl, Nat.le_refl _, fun _ _ => rfl⟩⟩, by simp [intOf]; omega⟩
    ·
     obtain ⟨j, rfl⟩ : ∃ j, k = j + 1 := ⟨k - 1, by omega⟩
     obtain ⟨f', u', b', off', hx', hbe, hlb', y0, y1⟩ := slS_get (HS.out.step hB.out) (show j < n by omega)
     cases hbe
     have hla := h1.out j f' u' rfl hx'.out
     have y1' := (hb2.cell (World.block_lt_of_cell? _ _ y1)).trans y1
     have j1 : (0 : Int) ≤ (j : Int) := by omega
     have j2 : (j : Int) < (n : Int) := by omega
     have j3 : (0 : Int) < ((j + 1 : Nat) : Int) := by omega
     have HXU : Hid (∀ q f1 u1, j + 1 + 1 = q + 1 → l[q]? = some (f1, u1) → u = u1) := fun q f1 u1 h h' => by
      obtain rfl : q = j + 1 := by omega
      rw [HXX.out] at h'
      cases h'
      rfl
     by_cases hle : f ≤ u'
     ·
      clear hb2 x0 x1 y0 y1 hla
      go_wp2_with fail
      go_quiet (fail)
      go_wp2_with fail
      go_ret
      exact ⟨_, rfl, ⟨false, rfl, (fun h => by cases h)⟩, HB2.out.trans ⟨rfl, rfl, rfl, Nat.le_refl _, fun _ _ => rfl⟩⟩
     ·
      have HT2 : Hid (spansB (-1) l = spansB u (l.drop (j + 1 + 1))) := by show _ = _; rw [hT.out, HX.out, HP.out, hla, decide_eq_true (by omega)]; rfl
      clear hb2 x0 x1 y0 y1 hla
      go_wp2_with fail
      go_quiet (fail)
      go_wp2_with fail
      exact ⟨⟨j + 1 + 1, u, by omega, by go_num, HT2.out, (fun h => by cases h), HXU.out, HB2.out.trans ⟨rfl, rfl, rfl, Nat.le_refl _, fun _ _ => rfl⟩⟩, by simp [intOf]; omega⟩
  ·
   obtain rfl : k = n := by omega
   go_wp2_with fail
   go_ret
   refine ⟨_, rfl, ⟨_, rfl, fun h => ?_⟩, hB.out⟩
   have hh := hT.out
   rw [List.drop_of_length_le (by rw [HL.out]; omega)] at hh
   have hl := HL.out
   unfold validS
   rw [hh]
   have hk1 : (k : Int) ≤ 1000 := by simpa using h
   simp [spansB]
   omega
end
section
set_option linter.unusedSimpArgs false
set_option linter.unusedVariables false
open Go.RowKit Go.Shelf
theorem spansB_last : ∀ {l : List (Int × Int)} {la : Int} {k : Nat} {f u : Int}, spansB la l = true → l[k]? = some (f, u) → k + 1 = l.length → ∀ s ∈ l, s.2 ≤ u
 | [], _, _, _, _, _, h, _ => by simp at h
 | s :: r, la, 0, f, u, _, h, hl => by
  simp at h hl
  subst hl
  intro t ht
  simp at ht
  subst ht
  rw [h]
  exact Int.le_refl _
 | s :: r, la, k + 1, f, u, hs, h, hl => by
  unfold spansB at hs
  simp only [Bool.and_eq_true] at hs
  simp only [List.getElem?_cons_succ] at h
  simp only [List.length_cons, Nat.add_right_cancel_iff] at hl
  have ih := spansB_last hs.2 h hl
  intro t ht
  rcases List.mem_cons.1 ht with rfl | ht
  ·
   cases r with
   | nil => simp at h
   | cons y r =>
    have h2 := hs.2
    unfold spansB at h2
    simp only [Bool.and_eq_true, decide_eq_true_eq] at h2
    have h3 := h2.1.1
    unfold spanB at h3
    simp only [Bool.and_eq_true, decide_eq_true_eq] at h3
    have := ih y (by simp)
    omega
  ·
   exact ih t ht
set_option maxRecDepth 100000 in
set_option maxHeartbeats 3200000 in
theorem R_room_any (r : RoomV) (w : World) (hin : r.In w) :
  Calls Tryz.prog 14 #[.agg #[.int .i64 r.id, .int .i64 r.ho, .int .i64 r.kd, .int .i64 r.jn, .bool r.ac, .slice r.ba r.bl.length r.bc]] w fun e w' => ∃ v : Value, e = .returned v ∧ (∃ p, v = .bool p ∧ (p = true → formedR r = true)) ∧ Below w.heap.size w w' := by
 have HI := Lib.hid hin
 have hbig := hin.big
 clear hin
 obtain ⟨bx, hbx⟩ : ∃ bx, w.heap.size = bx := ⟨_, rfl⟩
 obtain ⟨w1, hw1⟩ : ∃ w1, w.alloc (.cells #[.int .i64 r.id, .int .i64 r.ho, .int .i64 r.kd, .int .i64 r.jn, .bool r.ac, .slice r.ba r.bl.length r.bc] 42) = w1 := ⟨_, rfl⟩
 have hb1 : Below w.heap.size w w1 := by rw [← hw1]; (repeat' (first | (with_reducible first | exact Below.refl _ _ | assumption | exact Bw.out (by assumption) | refine bw_alloc ?_ _ | refine bw_step ?_ (by assumption) | refine Below.alloc ?_ ?_ _ | refine Below.drew ?_ | refine below_drewN ?_ _ | refine Below.setCell ?_ ?_ _ | refine below_step ?_ (by assumption) ?_ | exact Nat.le_refl _) | omega | (simp; omega) | (simp; done)))
 have hr1 : Row w1 bx [.int .i64 r.id, .int .i64 r.ho, .int .i64 r.kd, .int .i64 r.jn, .bool r.ac, .slice r.ba r.bl.length r.bc] := by rw [← hw1, ← hbx]; exact Row.new' _ _ _ rfl
 have HB1 := Lib.hid hb1
 have HI1 := Lib.hid (HI.out.step hb1)
 have HR1 := Lib.hid hr1
 have z5 := hr1.cell 5 rfl
 clear hb1 hr1
 go_enter Tryz.func14, Tryz.ntmps14
 go_wp2_with fail
 refine (R_spans_any r.ba r.bl.length r.bc r.bl w1 hbig HI1.out.1).mono ?_
 rintro e w2 ⟨v, rfl, ⟨p, rfl, hp⟩, hb2⟩
 have HB2 : Hid (Below w.heap.size w w2) := HB1.out.trans (hb2.mono HB1.out.size)
 have HI2 := Lib.hid (HI1.out.step hb2)
 have r2 := HR1.out.step hb2
 have c0 := r2.cell 0 rfl
 have c1 := r2.cell 1 rfl
 have c2 := r2.cell 2 rfl
 have c3 := r2.cell 3 rfl
 have c4 := r2.cell 4 rfl
 have c5 := r2.cell 5 rfl
 have cl := r2.lt
 have HP := Lib.hid hp
 clear hb2 r2 z5 hp
 cases p with
 | false =>
  skip
  go_wp2_with fail
  go_ret
  exact ⟨_, rfl, ⟨false, rfl, (fun h => by cases h)⟩, HB2.out⟩
 | true =>
  have HV := Lib.hid (HP.out (by trivial))
  obtain ⟨p0, hp0⟩ : ∃ p, inZ r.id 1 1000000 = p := ⟨_, rfl⟩
  have HP0 := Lib.hid hp0
  clear hp0
  go_wp2_with fail
  refine (R_in_p r.id 1 1000000 p0 HP0.out w2).mono ?_
  rintro e w3 ⟨rfl, rfl⟩
  cases p0 with
  | false =>
   skip
   go_wp2_with fail
   go_ret
   exact ⟨_, rfl, ⟨false, rfl, (fun h => by cases h)⟩, HB2.out⟩
  | true =>
   obtain ⟨p1, hp1⟩ : ∃ p, inZ r.ho 1 20 = p := ⟨_, rfl⟩
   have HP1 := Lib.hid hp1
   clear hp1
   go_wp2_with fail
   refine (R_in_p r.ho 1 20 p1 HP1.out w3).mono ?_
   rintro e w4 ⟨rfl, rfl⟩
   cases p1 with
   | false =>
    skip
    go_wp2_with fail
    go_ret
    exact ⟨_, rfl, ⟨false, rfl, (fun h => by cases h)⟩, HB2.out⟩
   | true =>
    obtain ⟨p2, hp2⟩ : ∃ p, inZ r.kd 1 20 = p := ⟨_, rfl⟩
    have HP2 := Lib.hid hp2
    clear hp2
    go_wp2_with fail
    refine (R_in_p r.kd 1 20 p2 HP2.out w4).mono ?_
    rintro e w5 ⟨rfl, rfl⟩
    cases p2 with
    | false =>
     skip
     go_wp2_with fail
     go_ret
     exact ⟨_, rfl, ⟨false, rfl, (fun h => by cases h)⟩, HB2.out⟩
    | true =>
     obtain ⟨p3, hp3⟩ : ∃ p, inZ r.jn 0 1000000 = p := ⟨_, rfl⟩
     have HP3 := Lib.hid hp3
     clear hp3
     go_wp2_with fail
     refine (R_in_p r.jn 0 1000000 p3 HP3.out w5).mono ?_
     rintro e w6 ⟨rfl, rfl⟩
     cases p3 with
     | false =>
      skip
      go_wp2_with fail
      go_ret
      exact ⟨_, rfl, ⟨false, rfl, (fun h => by cases h)⟩, HB2.out⟩
     | true =>
      by_cases hji : r.jn = r.id
      ·
       skip
       go_wp2_with fail
       go_ret
       exact ⟨_, rfl, ⟨false, rfl, (fun h => by cases h)⟩, HB2.out⟩
      ·
       have HJI : Hid (decide (r.jn ≠ r.id) = true) := by show _ = _; simp [hji]
       have key : (!r.bl.any lateB) = true → formedR r = true := fun h => by
        unfold formedR
        rw [HP0.out, HP1.out, HP2.out, HP3.out, HJI.out, HV.out, h]
        rfl
       have HK := Lib.hid key
       clear key
       rcases Nat.eq_zero_or_pos r.bl.length with h0 | h0
       ·
        have hbl : r.bl = [] := List.eq_nil_of_length_eq_zero h0
        have HBL := Lib.hid hbl
        have h00 : (r.bl.length : Int) = 0 := by omega
        clear hbl h0
        go_wp2_with fail
        go_ret
        exact ⟨_, rfl, ⟨true, rfl, fun _ => HK.out (by rw [HBL.out]; rfl)⟩, HB2.out⟩
       ·
        obtain ⟨k, hk⟩ : ∃ k, r.bl.length = k + 1 := ⟨r.bl.length - 1, by omega⟩
        obtain ⟨f, u, b, off, hx, hba, hlb, x0, x1⟩ := slS_get HI2.out.1 (show k < r.bl.length by omega)
        have hlast : ∀ s ∈ r.bl, s.2 ≤ u := spansB_last (by have := HV.out; unfold validS at this; simp only [Bool.and_eq_true] at this; exact this.1) hx.out hk.symm
        have HLA := Lib.hid hlast
        rw [hba] at c5
        obtain ⟨n, hn⟩ : ∃ n, r.bl.length = n := ⟨_, rfl⟩
        rw [hn] at c5 hk hbig
        have k0 : ¬ ((n : Int) = 0) := by omega
        have k1 : (0 : Int) ≤ (n : Int) - 1 := by omega
        have k2 : (n : Int) - 1 < (n : Int) := by omega
        have hkk : ((n : Int) - 1).toNat = k := by omega
        clear hlast hx hn hba
        go_wp2_with fail
        go_ret
        refine ⟨_, rfl, ⟨_, rfl, fun h => HK.out ?_⟩, HB2.out⟩
        have hu : u ≤ 366 := by
         simp only [Bool.or_eq_true, beq_iff_eq, decide_eq_true_eq] at h
         rcases h with h | h
         ·
          omega
         ·
          exact h
        rw [Bool.not_eq_true', List.any_eq_false]
        intro s hs
        have := HLA.out s hs
        unfold lateB
        simp
        omega
set_option maxHeartbeats 1600000 in
theorem R_indexM_any (a : Option Addr) (n cap : Nat) (l : List RoomV) (id : Int) (w : World) (hm : n ≤ 100000) (hs : SlG rmE w a n l) :
  Calls Tryz.prog 15 #[.slice a n cap, .int .i64 id] w fun e w' => e = .returned (.int .i64 (idxP (fun x : RoomV => decide (x.id = id)) l 0)) ∧ w' = w := by
 have HS := Lib.hid hs
 have HL := Lib.hid hs.1
 obtain ⟨R, hR⟩ : ∃ R, idxP (fun x : RoomV => decide (x.id = id)) l 0 = R := ⟨_, rfl⟩
 have HR := Lib.hid hR
 rw [hR]
 clear hs hR
 go_enter Tryz.func15, Tryz.ntmps15
 go_wp2_with fail
 go_loopw [5] (fun i wr => ∃ k : Nat, k ≤ n ∧ i = .int .i64 k ∧ wr = w ∧ Hid (R = idxP (fun x : RoomV => decide (x.id = id)) (l.drop k) k)) (fun i _ => n - (intOf i).toNat)
 case atStart => exact ⟨0, Nat.zero_le _, rfl, rfl, HR.out.symm⟩
 case round =>
  obtain ⟨k, hk, rfl, rfl, hT⟩ := hrel
  by_cases hkn : k < n
  ·
   obtain ⟨x, b, off, hx, h1, h2, g⟩ := HS.out.get hkn
   subst h1
   have x0 := g 0 _ rfl
   rw [Nat.add_zero] at x0
   change World.cell? _ ⟨b, off + k * 6, none⟩ = _ at x0
   have HX := Lib.hid (idxP_step (p := fun x : RoomV => decide (x.id = id)) hx.out)
   have i1 : (0 : Int) ≤ (k : Int) := by omega
   have i2 : (k : Int) < (n : Int) := by omega
   clear hx g
   by_cases hxi : x.id = id
   ·
    have hr : R = k := by rw [hT.out, HX.out]; simp [hxi]
    subst hr
    clear HR hT HX
    go_wp2_with fail
    go_ret
    exact ⟨rfl, rfl⟩
   ·
    have HT2 : Hid (R = idxP (fun x : RoomV => decide (x.id = id)) (l.drop (k + 1)) (k + 1)) := by show _ = _; rw [hT.out, HX.out]; simp [hxi]
    go_wp2_with fail
    exact ⟨⟨k + 1, by omega, by go_num, trivial, HT2.out⟩, by simp [intOf]; omega⟩
  ·
   obtain rfl : k = n := by omega
   have hr : R = -1 := by
    rw [hT.out, List.drop_of_length_le (by rw [HL.out]; omega)]
    rfl
   subst hr
   go_wp2_with fail
   go_ret
   exact ⟨rfl, rfl⟩
set_option maxHeartbeats 1600000 in
theorem R_indexT_any (a : Option Addr) (n cap : Nat) (l : List StayV) (id : Int) (w : World) (hm : n ≤ 100000) (hs : SlG stE w a n l) :
  Calls Tryz.prog 10 #[.slice a n cap, .int .i64 id] w fun e w' => e = .returned (.int .i64 (idxP (fun x : StayV => decide (x.id = id)) l 0)) ∧ w' = w := by
 have HS := Lib.hid hs
 have HL := Lib.hid hs.1
 obtain ⟨R, hR⟩ : ∃ R, idxP (fun x : StayV => decide (x.id = id)) l 0 = R := ⟨_, rfl⟩
 have HR := Lib.hid hR
 rw [hR]
 clear hs hR
 go_enter Tryz.func10, Tryz.ntmps10
 go_wp2_with fail
 go_loopw [5] (fun i wr => ∃ k : Nat, k ≤ n ∧ i = .int .i64 k ∧ wr = w ∧ Hid (R = idxP (fun x : StayV => decide (x.id = id)) (l.drop k) k)) (fun i _ => n - (intOf i).toNat)
 case atStart => exact ⟨0, Nat.zero_le _, rfl, rfl, HR.out.symm⟩
 case round =>
  obtain ⟨k, hk, rfl, rfl, hT⟩ := hrel
  by_cases hkn : k < n
  ·
   obtain ⟨x, b, off, hx, h1, h2, g⟩ := HS.out.get hkn
   subst h1
   have x0 := g 0 _ rfl
   rw [Nat.add_zero] at x0
   change World.cell? _ ⟨b, off + k * 9, none⟩ = _ at x0
   have HX := Lib.hid (idxP_step (p := fun x : StayV => decide (x.id = id)) hx.out)
   have i1 : (0 : Int) ≤ (k : Int) := by omega
   have i2 : (k : Int) < (n : Int) := by omega
   clear hx g
   by_cases hxi : x.id = id
   ·
    have hr : R = k := by rw [hT.out, HX.out]; simp [hxi]
    subst hr
    clear HR hT HX
    go_wp2_with fail
    go_ret
    exact ⟨rfl, rfl⟩
   ·
    have HT2 : Hid (R = idxP (fun x : StayV => decide (x.id = id)) (l.drop (k + 1)) (k + 1)) := by show _ = _; rw [hT.out, HX.out]; simp [hxi]
    go_wp2_with fail
    exact ⟨⟨k + 1, by omega, by go_num, trivial, HT2.out⟩, by simp [intOf]; omega⟩
  ·
   obtain rfl : k = n := by omega
   have hr : R = -1 := by
    rw [hT.out, List.drop_of_length_le (by rw [HL.out]; omega)]
    rfl
   subst hr
   go_wp2_with fail
   go_ret
   exact ⟨rfl, rfl⟩
set_option maxRecDepth 100000 in
set_option maxHeartbeats 1600000 in
theorem R_few_any (a : Option Addr) (n cap : Nat) (l : List RoomV) (w : World) (hm : n ≤ 6) (hs : SlM w a n l) :
  Calls Tryz.prog 5 #[.slice a n cap] w fun e w' => ∃ v : Value, e = .returned v ∧ (∃ p, v = .bool p) ∧ w' = w := by
 have HS := Lib.hid hs
 have n1 : ¬ ((40 : Int) < (n : Int)) := by omega
 have n2 : ¬ ((410 : Int) < (n : Int)) := by omega
 clear hs
 go_enter Tryz.func5, Tryz.ntmps5
 go_wp2_with fail
 go_loopw [3] (fun i wr => ∃ k : Nat, k ≤ n ∧ i = .int .i64 k ∧ wr = w) (fun i _ => n - (intOf i).toNat)
 case atStart => exact ⟨0, Nat.zero_le _, rfl, rfl⟩
 case round =>
  obtain ⟨k, hk, rfl, rfl⟩ := hrel
  by_cases hkn : k < n
  ·
   obtain ⟨x, b, off, hx, hin, rfl, hlb, x0, x1, x2, x3, x4, x5⟩ := slM_get HS.out hkn
   have i1 : (0 : Int) ≤ (k : Int) := by omega
   have i2 : (k : Int) < (n : Int) := by omega
   clear hx hin
   by_cases hxl : (40 : Int) < (x.bl.length : Int)
   ·
    go_wp2_with fail
    go_ret
    exact ⟨_, rfl, ⟨_, rfl⟩, rfl⟩
   ·
    go_wp2_with fail
    exact ⟨⟨k + 1, by omega, by go_num, trivial⟩, by simp [intOf]; omega⟩
  ·
   obtain rfl : k = n := by omega
   go_wp2_with fail
   go_ret
   exact ⟨_, rfl, ⟨_, rfl⟩, rfl⟩
end
section
set_option linter.unusedSimpArgs false
set_option linter.unusedVariables false
open Go.RowKit Go.Shelf
/-- The first i rooms are well-formed, each is the first one of its number, and joins. -/
structure RValI (l : List RoomV) (i : Nat) : Prop where
 form : ∀ (j : Nat) (r : RoomV), j < i → l[j]? = some r → formedR r = true
 first : ∀ (j : Nat) (r : RoomV), j < i → l[j]? = some r → idxP (fun x : RoomV => decide (x.id = r.id)) l 0 = (j : Int)
 joins : ∀ (j : Nat) (r : RoomV), j < i → l[j]? = some r → joinsB l r = true
theorem RValI.zero (l : List RoomV) : RValI l 0 := ⟨fun _ _ h => absurd h (Nat.not_lt_zero _), fun _ _ h => absurd h (Nat.not_lt_zero _), fun _ _ h => absurd h (Nat.not_lt_zero _)⟩
theorem RValI.succ {l : List RoomV} {i : Nat} (h : RValI l i) {r : RoomV} (hr : l[i]? = some r) (h1 : formedR r = true) (h2 : idxP (fun x : RoomV => decide (x.id = r.id)) l 0 = (i : Int)) (h3 : joinsB l r = true) : RValI l (i + 1) := by
 have key : ∀ {P : Nat → RoomV → Prop}, (∀ j r, j < i → l[j]? = some r → P j r) → P i r → ∀ j q, j < i + 1 → l[j]? = some q → P j q := fun hP hi j q hj hq => by
  rcases Nat.lt_succ_iff_lt_or_eq.1 hj with hj | rfl
  ·
   exact hP j q hj hq
  ·
   rw [hr] at hq
   cases hq
   exact hi
 exact ⟨key (P := fun _ r => formedR r = true) h.form h1, key (P := fun j r => idxP (fun x : RoomV => decide (x.id = r.id)) l 0 = (j : Int)) h.first h2, key (P := fun _ r => joinsB l r = true) h.joins h3⟩
theorem RValI.valid {l : List RoomV} (h : RValI l l.length) (hl : l.length ≤ 400) : validM l = true := by
 unfold validM
 rw [Bool.and_eq_true, Bool.and_eq_true, Bool.and_eq_true]
 refine ⟨by simpa using hl, ⟨?_, ?_⟩, ?_⟩
 ·
  rw [List.all_eq_true]
  intro r hr
  obtain ⟨j, hj⟩ := List.getElem?_of_mem hr
  exact h.form j r (List.getElem?_eq_some_iff.1 hj).1 hj
 ·
  rw [decide_eq_true_eq, List.nodup_iff_pairwise_ne, List.pairwise_iff_getElem]
  intro i j hi hj hij e
  rw [List.length_map] at hi hj
  rw [List.getElem_map, List.getElem_map] at e
  have h1 := h.first i l[i] hi (List.getElem?_eq_getElem hi)
  have h2 := h.first j l[j] hj (List.getElem?_eq_getElem hj)
  rw [e] at h1
  rw [h1] at h2
  omega
 ·
  rw [List.all_eq_true]
  intro r hr
  obtain ⟨j, hj⟩ := List.getElem?_of_mem hr
  exact h.joins j r (List.getElem?_eq_some_iff.1 hj).1 hj
set_option maxRecDepth 100000 in
set_option maxHeartbeats 6400000 in
theorem R_rooms_any (a : Option Addr) (n cap : Nat) (l : List RoomV) (w : World) (hm : n ≤ 400) (hs : SlM w a n l) :
  Calls Tryz.prog 6 #[.slice a n cap] w fun e w' => ∃ v : Value, e = .returned v ∧ (∃ p, v = .bool p ∧ (p = true → validM l = true)) ∧ Below w.heap.size w w' := by
 have HS := Lib.hid hs
 have HL := Lib.hid hs.1.1
 have n1 : ¬ ((400 : Int) < (n : Int)) := by omega
 clear hs
 go_enter Tryz.func6, Tryz.ntmps6
 go_wp2_with fail
 go_loopw [3, 4, 5] (fun ix _ _ wr => ∃ k : Nat, k ≤ n ∧ ix = .int .i64 k ∧ Hid (RValI l k) ∧ Hid (Below w.heap.size w wr)) (fun ix _ _ _ => n - (intOf ix).toNat)
 case atStart => exact ⟨0, Nat.zero_le _, rfl, RValI.zero l, Below.refl _ _⟩
 case round =>
  obtain ⟨k, hk, rfl, hV, hB⟩ := hrel
  by_cases hkn : k < n
  ·
   obtain ⟨r, b, off, hx, hin, rfl, hlb, x0, x1, x2, x3, x4, x5⟩ := slM_get (HS.out.step hB.out) hkn
   have i1 : (0 : Int) ≤ (k : Int) := by omega
   have i2 : (k : Int) < (n : Int) := by omega
   have HX := Lib.hid hx.out
   have HI := Lib.hid hin.out
   clear hx hin
   go_wp2_with fail
   refine (R_room_any r wr HI.out).mono ?_
   rintro e w2 ⟨v, rfl, ⟨p, rfl, hp⟩, hb2⟩
   have HP := Lib.hid hp
   have HB2 : Hid (Below w.heap.size w w2) := hB.out.trans (hb2.mono hB.out.size)
   have y0 := (hb2.cell (World.block_lt_of_cell? _ _ x0)).trans x0
   have y1 := (hb2.cell (World.block_lt_of_cell? _ _ x1)).trans x1
   have y3 := (hb2.cell (World.block_lt_of_cell? _ _ x3)).trans x3
   have HS2 := Lib.hid ((HS.out.step hB.out).step hb2)
   have hlb2 : b < w2.heap.size := Nat.lt_of_lt_of_le hlb hb2.size
   clear hb2 hp x0 x1 x2 x3 x4 x5
   cases p with
   | false =>
    skip
    go_wp2_with fail
    go_ret
    exact ⟨_, rfl, ⟨false, rfl, (fun h => by cases h)⟩, HB2.out⟩
   | true =>
    have HFO := Lib.hid (HP.out (by trivial))
    go_wp2_with fail
    refine (R_indexM_any (some ⟨b, off, none⟩) n cap l r.id w2 (by omega) HS2.out.1).mono ?_
    rintro e w3 ⟨rfl, rfl⟩
    obtain ⟨q, hq⟩ : ∃ q, idxP (fun x : RoomV => decide (x.id = r.id)) l 0 = q := ⟨_, rfl⟩
    have HQ := Lib.hid hq
    rw [hq]
    clear hq
    by_cases hqk : q = (k : Int)
    ·
     have HQK : Hid (idxP (fun x : RoomV => decide (x.id = r.id)) l 0 = (k : Int)) := HQ.out.trans hqk
     subst hqk
     by_cases hj0 : r.jn = 0
     ·
      have HJB : Hid (joinsB l r = true) := by show _ = _; unfold joinsB; simp [hj0]
      go_wp2_with fail
      exact ⟨⟨k + 1, by omega, by go_num, hV.out.succ HX.out HFO.out HQK.out HJB.out, HB2.out⟩, by simp [intOf]; omega⟩
     ·
      go_wp2_with fail
      refine (R_indexM_any (some ⟨b, off, none⟩) n cap l r.jn w3 (by omega) HS2.out.1).mono ?_
      rintro e w4 ⟨rfl, rfl⟩
      rcases idxP_cases (fun x : RoomV => decide (x.id = r.jn)) l 0 with ⟨e1, e2⟩ | ⟨j, o, e1, e2, e3⟩
      ·
       rw [e1]
       obtain ⟨z, hz⟩ : ∃ z : Int, -1 = z := ⟨_, rfl⟩
       rw [hz]
       have hneg : z < 0 := by omega
       clear e1 e2 hz
       go_wp2_with fail
       go_quiet (fail)
       go_wp2_with fail
       go_ret
       exact ⟨_, rfl, ⟨false, rfl, (fun h => by cases h)⟩, HB2.out.trans ⟨rfl, rfl, rfl, Nat.le_refl _, fun _ _ => rfl⟩⟩
      ·
       rw [e1, Nat.zero_add]
       have hjl : j < n := by have := (List.getElem?_eq_some_iff.1 e2).1; rw [HL.out] at this; exact this
       obtain ⟨o', b', off', hx', hin', hbe, hlb', z0, z1, z2, z3, z4, z5⟩ := slM_get HS2.out hjl
       cases hbe
       have hoo : o' = o := by have := hx'.out; rw [e2] at this; cases this; rfl
       subst hoo
       have HOM : Hid (o' ∈ l ∧ o'.id = r.jn) := ⟨List.mem_of_getElem? e2, by simpa using e3⟩
       have j1 : (0 : Int) ≤ (j : Int) := by omega
       have j2 : (j : Int) < (n : Int) := by omega
       have j3 : ¬ ((j : Int) < 0) := by omega
       clear e1 e2 e3 hx' hin'
       by_cases hho : o'.ho = r.ho
       ·
        by_cases hjj : o'.jn = r.id
        ·
         have HJB : Hid (joinsB l r = true) := by
          show _ = _
          unfold joinsB
          rw [Bool.or_eq_true, List.any_eq_true]
          exact .inr ⟨o', HOM.out.1, by simp [HOM.out.2, hjj, hho]⟩
         go_wp2_with fail
         go_quiet (fail)
         go_wp2_with fail
         exact ⟨⟨k + 1, by omega, by go_num, hV.out.succ HX.out HFO.out HQK.out HJB.out, HB2.out.trans ⟨rfl, rfl, rfl, Nat.le_refl _, fun _ _ => rfl⟩⟩, by simp [intOf]; omega⟩
        ·
         go_wp2_with fail
         go_quiet (fail)
         go_wp2_with fail
         ·
          go_ret
          exact ⟨_, rfl, ⟨false, rfl, (fun h => by cases h)⟩, HB2.out.trans ⟨rfl, rfl, rfl, Nat.le_refl _, fun _ _ => rfl⟩⟩
         ·
          have hcon : 0 ≤ (j : Int) ∧ (o'.jn != r.id) = false := by assumption
          exact absurd hcon.2 (by simp [hjj])
       ·
        skip
        go_wp2_with fail
        go_quiet (fail)
        go_wp2_with fail
        go_ret
        exact ⟨_, rfl, ⟨false, rfl, (fun h => by cases h)⟩, HB2.out.trans ⟨rfl, rfl, rfl, Nat.le_refl _, fun _ _ => rfl⟩⟩
    ·
     skip
     go_wp2_with fail
     go_ret
     exact ⟨_, rfl, ⟨false, rfl, (fun h => by cases h)⟩, HB2.out⟩
  ·
   obtain rfl : k = n := by omega
   have hv := hV.out
   rw [← HL.out] at hv
   have HV := Lib.hid (hv.valid (by rw [HL.out]; exact hm))
   clear hv
   go_wp2_with fail
   go_ret
   exact ⟨_, rfl, ⟨true, rfl, fun _ => HV.out⟩, hB.out⟩
end
section
set_option linter.unusedSimpArgs false
set_option linter.unusedVariables false
open Go.RowKit Go.Shelf
abbrev kr1 : RoomV := ⟨1, 1, 1, 0, false, none, 0, []⟩
abbrev kr2 : RoomV := ⟨2, 1, 1, 0, false, none, 0, []⟩
abbrev kRL : List RoomV := [kr1, kr2]
abbrev ks9 : StayV := ⟨9, 1, 3, 5, 1, 0, 0, false, false⟩
abbrev ks9a : StayV := ⟨9, 1, 3, 5, 1, 1, 0, false, false⟩
abbrev ks9b : StayV := ⟨9, 1, 3, 5, 1, 1, 0, false, true⟩
abbrev ks4 : StayV := ⟨4, 1, 2, 4, 1, 0, 0, false, false⟩
abbrev ks4a : StayV := ⟨4, 1, 2, 4, 1, 2, 0, false, false⟩
abbrev ks5 : StayV := ⟨5, 1, 3, 4, 1, 0, 0, false, false⟩
theorem kvalid : validM kRL = true := by decide +kernel
theorem ksort : srtM kRL = kRL := by kernel_rfl
theorem suit_k {s : StayV} {r : RoomV} (hb : r.bl = []) (hf : freeB [] s.fr s.un = true) (hk : s.kd = r.kd) (hac : s.ac = false) : suitB s r = (!s.inn || decide (s.rm = r.id)) := by
 unfold suitB
 rw [hb, hf, hk, hac]
 simp
theorem free35 : freeB [] 3 5 = true := by decide +kernel
theorem free24 : freeB [] 2 4 = true := by decide +kernel
theorem free34 : freeB [] 3 4 = true := by decide +kernel
theorem nsL_nodup {q : Int} {l : List StayV} (hn : (l.map StayV.id).Nodup) : (nsL q l).Nodup := by
 rw [(nsL_perm hn).nodup_iff]
 have h1 : List.Sublist ((l.filter (onB q)).map StayV.id) (l.map StayV.id) := (List.filter_sublist).map _
 have h2 := h1.nodup hn
 rw [List.nodup_iff_pairwise_ne, List.pairwise_map] at h2
 rw [List.nodup_iff_pairwise_ne]
 exact h2.imp (fun h e => h (by rw [e]))
/-- Each stay of a night has a room of its own. -/
theorem match_by {q : Int} {l : List StayV} {H : List RoomV} (hn : (l.map StayV.id).Nodup) (f : Int → Nat) (hi : ∀ s ∈ l, onB q s = true → ∀ t ∈ l, onB q t = true → f s.id = f t.id → s = t) (hf : ∀ s ∈ l, onB q s = true → ∃ r, H[f s.id]? = some r ∧ suitB s r = true) : MatchOK (nsL q l) H := by
 have hm : ∀ s, s ∈ nsL q l → s ∈ l ∧ onB q s = true := fun s h => List.mem_filter.1 ((nsL_perm hn).mem_iff.1 h)
 refine ⟨fun i => match (nsL q l)[i]? with | some s => f s.id | none => 0, fun i h => ?_, fun i j hi' hj' e => ?_⟩
 ·
  have e := List.getElem?_eq_getElem h
  obtain ⟨h1, h2⟩ := hm _ (List.getElem_mem h)
  obtain ⟨r, hr, hs⟩ := hf _ h1 h2
  simp only [e]
  rw [sfits_at e hr]
  exact hs
 ·
  have e1 := List.getElem?_eq_getElem hi'
  have e2 := List.getElem?_eq_getElem hj'
  simp only [e1, e2] at e
  obtain ⟨a1, a2⟩ := hm _ (List.getElem_mem hi')
  obtain ⟨b1, b2⟩ := hm _ (List.getElem_mem hj')
  have := hi _ a1 a2 _ b1 b2 e
  exact nodup_at (nsL_nodup hn) e1 (by rw [e2, this])
abbrev kf : Int → Nat := fun x => if x = 9 then 0 else 1
theorem not_crowded {l : List StayV} {H : List RoomV} (h : ∀ s ∈ l, MatchOK (nsL s.fr l) (srtM H)) : ¬ Crowded H l := fun ⟨s, hs, hh⟩ => hh (h s hs)
theorem k1m (q : Int) : MatchOK (nsL q [ks9]) kRL := match_by (by decide) kf (fun s hs _ t ht _ _ => by simp at hs ht; rw [hs, ht]) (fun s hs _ => by
 simp at hs
 subst hs
 exact ⟨kr1, rfl, by decide +kernel⟩)
theorem k1n (q : Int) : MatchOK (nsL q [ks9b]) kRL := match_by (by decide) kf (fun s hs _ t ht _ _ => by simp at hs ht; rw [hs, ht]) (fun s hs _ => by
 simp at hs
 subst hs
 exact ⟨kr1, rfl, by decide +kernel⟩)
/-- The first guest gets the first room. -/
theorem kept1 {res : Option (List StayV)} {lm : Int} (h : PlaceR kRL 2 5000 [ks9] res lm) : res = some [ks9b] ∧ 0 ≤ lm := by
 have hc : ¬ Crowded kRL [ks9] := not_crowded (fun s hs => by rw [ksort]; exact k1m _)
 have hc2 : ¬ Crowded kRL [ks9b] := not_crowded (fun s hs => by rw [ksort]; exact k1n _)
 rcases h with ⟨h, _⟩ | ⟨_, ⟨h, _⟩ | ⟨i, s, hs, hin, h⟩⟩
 ·
  exact absurd h hc
 ·
  have := h ks9 (by simp)
  cases this
 ·
  have hi : i = 0 := by have := (List.getElem?_eq_some_iff.1 hs).1; simp at this; exact this
  subst hi
  simp at hs
  subst hs
  have hfit : fitL ks9 kRL = [1, 2] := by decide +kernel
  rw [hfit] at h
  rcases h with ⟨h, _⟩ | ⟨_, m, l2, hm, h⟩
  ·
   omega
  ·
   have hpl : placedL [ks9] 0 1 = [ks9b] := rfl
   rw [hpl] at hm
   rcases hm with ⟨hm, _⟩ | ⟨_, ⟨_, rfl, rfl⟩ | ⟨i, s, hs, hin, _⟩⟩
   ·
    exact absurd hm hc2
   ·
    rcases h with ⟨_, rfl, rfl⟩ | ⟨h, _⟩
    ·
     exact ⟨rfl, by omega⟩
    ·
     cases h
   ·
    have hi : i = 0 := by have := (List.getElem?_eq_some_iff.1 hs).1; simp at this; exact this
    subst hi
    simp at hs
    subst hs
    cases hin
theorem two_ids : (([ks9b, ks4] : List StayV).map StayV.id).Nodup := by decide
theorem mem2 {x a b : StayV} (h : x ∈ [a, b]) : x = a ∨ x = b := by simpa using h
theorem mem3 {x a b c : StayV} (h : x ∈ [a, b, c]) : x = a ∨ x = b ∨ x = c := by simpa using h
theorem k2m (q : Int) : MatchOK (nsL q [ks9b, ks4]) kRL := match_by (by decide) kf (fun s hs _ t ht _ e => by
  rcases mem2 hs with rfl | rfl <;> rcases mem2 ht with rfl | rfl <;> first | rfl | (exact absurd e (by decide)))
 (fun s hs _ => by
  rcases mem2 hs with rfl | rfl
  ·
   exact ⟨kr1, rfl, by decide +kernel⟩
  ·
   exact ⟨kr2, rfl, by decide +kernel⟩)
theorem k2n (q : Int) : MatchOK (nsL q [ks9b, ks4.into 2]) kRL := match_by (by decide) kf (fun s hs _ t ht _ e => by
  rcases mem2 hs with rfl | rfl <;> rcases mem2 ht with rfl | rfl <;> first | rfl | (exact absurd e (by decide)))
 (fun s hs _ => by
  rcases mem2 hs with rfl | rfl
  ·
   exact ⟨kr1, rfl, by decide +kernel⟩
  ·
   exact ⟨kr2, rfl, by decide +kernel⟩)
theorem k2c : Crowded kRL [ks9b, ks4.into 1] := by
 refine ⟨ks9b, by simp, fun hm => ?_⟩
 rw [ksort] at hm
 obtain ⟨g, h1, h2⟩ := hm
 have hn : (([ks9b, ks4.into 1] : List StayV).map StayV.id).Nodup := by decide
 obtain ⟨a, ha⟩ := nsL_at (q := ks9b.fr) (l := [ks9b, ks4.into 1]) hn (s := ks9b) (by simp) (by decide) (by decide)
 obtain ⟨b, hb⟩ := nsL_at (q := ks9b.fr) (l := [ks9b, ks4.into 1]) hn (s := ks4.into 1) (by simp) (by decide) (by decide)
 have hal := (List.getElem?_eq_some_iff.1 ha).1
 have hbl := (List.getElem?_eq_some_iff.1 hb).1
 have key : ∀ (c : Nat) (s : StayV), (nsL ks9b.fr [ks9b, ks4.into 1])[c]? = some s → s.inn = true → s.rm = 1 → sfits (nsL ks9b.fr [ks9b, ks4.into 1]) kRL c (g c) = true → g c = 0 := fun c s hc hin hrm hf => by
  obtain ⟨r, hr, hid, _⟩ := match_room hf hc hin
  rw [hrm] at hid
  match g c, hr with
  | 0, _ => rfl
  | 1, hr => cases hr; cases hid
  | (k + 2), hr => simp at hr
 have e := (key a _ ha rfl rfl (h1 a hal)).trans (key b _ hb rfl rfl (h1 b hbl)).symm
 have := h2 a b hal hbl e
 subst this
 rw [ha] at hb
 cases hb
/-- The second guest gets the second room. -/
theorem kept2 {res : Option (List StayV)} {lm : Int} (h : PlaceR kRL 3 5000 [ks9b, ks4] res lm) : res = some [ks9b, ks4.into 2] ∧ 0 ≤ lm := by
 have hc : ¬ Crowded kRL [ks9b, ks4] := not_crowded (fun s hs => by rw [ksort]; exact k2m _)
 have hc2 : ¬ Crowded kRL [ks9b, ks4.into 2] := not_crowded (fun s hs => by rw [ksort]; exact k2n _)
 rcases h with ⟨h, _⟩ | ⟨_, ⟨h, _⟩ | ⟨i, s, hs, hin, h⟩⟩
 ·
  exact absurd h hc
 ·
  have := h ks4 (by simp)
  cases this
 ·
  have hil := (List.getElem?_eq_some_iff.1 hs).1
  simp at hil
  have hi : i = 1 := by
   rcases Nat.lt_or_ge i 1 with h0 | h0
   ·
    have : i = 0 := by omega
    subst this
    cases hs
    cases hin
   ·
    omega
  subst hi
  simp at hs
  subst hs
  have hfit : fitL ks4 kRL = [1, 2] := by decide +kernel
  rw [hfit] at h
  have hp1 : placedL [ks9b, ks4] 1 1 = [ks9b, ks4.into 1] := rfl
  have hp2 : placedL [ks9b, ks4] 1 2 = [ks9b, ks4.into 2] := rfl
  rcases h with ⟨h, _⟩ | ⟨_, m, l2, hm, h⟩
  ·
   omega
  ·
   rw [hp1] at hm
   rcases hm with ⟨_, rfl, rfl⟩ | ⟨hm, _⟩
   ·
    rcases h with ⟨h | h, _⟩ | ⟨_, _, h⟩
    ·
     cases h
    ·
     omega
    ·
     rcases h with ⟨h, _⟩ | ⟨_, m, l2, hm, h⟩
     ·
      omega
     ·
      rw [hp2] at hm
      rcases hm with ⟨hm, _⟩ | ⟨_, ⟨_, rfl, rfl⟩ | ⟨i, s, hs, hin, _⟩⟩
      ·
       exact absurd hm hc2
      ·
       rcases h with ⟨_, rfl, rfl⟩ | ⟨h, _⟩
       ·
        exact ⟨rfl, by omega⟩
       ·
        cases h
      ·
       have := List.mem_of_getElem? hs
       rcases mem2 this with rfl | rfl <;> cases hin
   ·
    exact absurd k2c hm
end
section
set_option linter.unusedSimpArgs false
set_option linter.unusedVariables false
open Go.RowKit Go.Shelf
abbrev kl3 : List StayV := [ks9b, ks4a, ks5]
theorem kl3_ids : (kl3.map StayV.id).Nodup := by decide
theorem kl3_on {s : StayV} (h : s ∈ kl3) : onB 3 s = true := by
 rcases mem3 h with rfl | rfl | rfl <;> decide
theorem kl3_mem {j : Nat} {s : StayV} (h : (nsL 3 kl3)[j]? = some s) : s ∈ kl3 := (List.mem_filter.1 ((nsL_perm kl3_ids).mem_iff.1 (List.mem_of_getElem? h))).1
theorem kl3_len : (nsL 3 kl3).length = 3 := by
 rw [(nsL_perm kl3_ids).length_eq]
 decide
theorem kl3_fit {j k : Nat} (h : sfits (nsL 3 kl3) kRL j k = true) : j < 3 ∧ k < 2 := by
 have := sfits_lt h
 rw [kl3_len] at this
 exact this
theorem k3c : Crowded kRL kl3 := by
 refine ⟨ks9b, by simp, fun hm => ?_⟩
 rw [ksort] at hm
 obtain ⟨g, h1, h2⟩ := hm
 have hl : (nsL ks9b.fr kl3).length = 3 := kl3_len
 have := pigeon (A := [0, 1, 2]) (B := [0, 1]) (by decide) g (fun a ha => by
  have h3 : a < 3 := by simp at ha; omega
  have := (kl3_fit (h1 a (by rw [hl]; exact h3))).2
  have : g a = 0 ∨ g a = 1 := by omega
  simpa using this) (fun a ha b hb e => h2 a b (by rw [hl]; simp at ha; omega) (by rw [hl]; simp at hb; omega) e)
 simp at this
theorem kept3 {d : Nat} {res : Option (List StayV)} {lm : Int} (h : PlaceR kRL (d + 1) 5000 kl3 res lm) : res = none ∧ lm = 5000 := by
 rcases h with ⟨_, h⟩ | ⟨h, _⟩
 ·
  exact h
 ·
  exact absurd k3c h
theorem k3m : MatchOK (nsL 2 kl3) kRL := match_by kl3_ids kf (fun s hs h1 t ht h2 e => by
  rcases mem3 hs with rfl | rfl | rfl <;> rcases mem3 ht with rfl | rfl | rfl <;> first | rfl | (exact absurd h1 (by decide)) | (exact absurd h2 (by decide)))
 (fun s hs h1 => by
  rcases mem3 hs with rfl | rfl | rfl
  ·
   exact absurd h1 (by decide)
  ·
   exact ⟨kr2, rfl, by decide +kernel⟩
  ·
   exact absurd h1 (by decide))
theorem kept3r {s : StayV} {r : RefV} (hs : s ∈ kl3) (h : HallRef (nsL s.fr kl3) kRL s.fr r) : r.kd = 2 ∧ r.ni = 3 ∧ r.sn = 3 := by
 obtain ⟨R, T, hkd, hni, hsn, -, hh⟩ := h
 have hfr : s.fr = 3 := by
  rcases mem3 hs with rfl | rfl | rfl
  ·
   rfl
  ·
   exact absurd k3m hh.not
  ·
   rfl
 rw [hfr] at hkd hni hh
 obtain ⟨a, ha⟩ := nsL_at (q := 3) kl3_ids (s := ks9b) (by simp) (by decide) (by decide)
 have hal := (List.getElem?_eq_some_iff.1 ha).1
 rw [kl3_len] at hal
 have hoth : ∀ j ∈ R, j ≠ a → 0 ∈ T ∧ 1 ∈ T := fun j hj hne => by
  have hjl := hh.rn j hj
  have e := List.getElem?_eq_getElem hjl
  have hne9 : (nsL 3 kl3)[j] ≠ ks9b := fun e9 => hne (nodup_at (nsL_nodup kl3_ids) (by rw [e, e9]) ha)
  have hfits : ∀ r k, kRL[k]? = some r → suitB (nsL 3 kl3)[j] r = true := fun r k hk => by
   have hr : r = kr1 ∨ r = kr2 := by
    have := List.mem_of_getElem? hk
    simpa using this
   rcases mem3 (kl3_mem e) with h9 | h4 | h5
   ·
    exact absurd h9 hne9
   ·
    rw [h4]
    rcases hr with rfl | rfl <;> decide +kernel
   ·
    rw [h5]
    rcases hr with rfl | rfl <;> decide +kernel
  exact ⟨hh.shut j hj 0 (by rw [sfits_at e (r := kr1) rfl]; exact hfits kr1 0 rfl), hh.shut j hj 1 (by rw [sfits_at e (r := kr2) rfl]; exact hfits kr2 1 rfl)⟩
 have hT2 : T.length ≤ 2 := sub_len (B := [0, 1]) hh.nt (fun k hk => by
  have := hh.tm k hk
  have : k = 0 ∨ k = 1 := by simp at this; omega
  simpa using this)
 have hTl : T.length = 2 := by
  rcases Nat.lt_or_ge T.length 2 with hlt | hge
  ·
   exfalso
   have hall : ∀ j ∈ R, j ∈ [a] := fun j hj => by
    by_cases hja : j = a
    ·
     simp [hja]
    ·
     obtain ⟨h0, h1⟩ := hoth j hj hja
     have := sub_len (A := [0, 1]) (B := T) (by decide) (fun x hx => by
      have : x = 0 ∨ x = 1 := by simpa using hx
      rcases this with rfl | rfl
      ·
       exact h0
      ·
       exact h1)
     simp at this
     omega
   have hR1 := sub_len hh.nr hall
   simp at hR1
   have hlen := hh.len
   have hR : 0 < R.length := by omega
   obtain ⟨j, hj⟩ := List.exists_mem_of_length_pos hR
   have hja : j = a := by simpa using hall j hj
   subst hja
   have := hh.shut j hj 0 (by rw [sfits_at ha (r := kr1) rfl]; decide +kernel)
   have := List.length_pos_of_mem this
   omega
  ·
   omega
 have hRl : R.length = 3 := by have := hh.len; omega
 have h1T : 1 ∈ T := Classical.byContradiction fun hn => by
  have := sub_len (B := [0]) hh.nt (fun k hk => by
   have h2 := hh.tm k hk
   simp at h2
   have : k ≠ 1 := fun e => hn (by rw [← e]; exact hk)
   have : k = 0 := by omega
   simpa using this)
  simp at this
  omega
 have haR : a ∈ R := Classical.byContradiction fun hn => by
  have := sub_len (B := (List.range 3).erase a) hh.nr (fun j hj => by
   have h2 := hh.rn j hj
   rw [kl3_len] at h2
   exact (List.mem_erase_of_ne (fun e => hn (by rw [← e]; exact hj))).2 (List.mem_range.2 h2))
  rw [List.length_erase_of_mem (List.mem_range.2 hal)] at this
  simp at this
  omega
 refine ⟨?_, hni, by rw [hsn, hRl]⟩
 have hb : badK (sfits (nsL 3 kl3) kRL) R T = true := by
  unfold badK
  rw [List.any_eq_true]
  refine ⟨1, h1T, List.any_eq_true.2 ⟨a, haR, ?_⟩⟩
  rw [sfits_at ha (r := kr2) rfl]
  decide +kernel
 rw [hkd, hb]
 rfl
end
section
set_option linter.unusedSimpArgs false
set_option linter.unusedVariables false
open Go.RowKit Go.Shelf
theorem w17Room_any (id : Int) (w : World) : Calls Tryz.prog 11 #[.int .i64 id] w fun e w' => e = .returned (.agg #[.int .i64 id, .int .i64 1, .int .i64 1, .int .i64 0, .bool false, .slice none 0 0]) ∧ Below w.heap.size w w' := by
 go_enter Tryz.func11, Tryz.ntmps11
 go_wp2_with fail
 refine bodyPost_ret (v := .agg #[.int .i64 id, .int .i64 1, .int .i64 1, .int .i64 0, .bool false, .slice none 0 0]) (by simp [results, Tryz.results11, go_sem]) rfl ?_
 exact ⟨rfl, by (repeat' (first | (with_reducible first | exact Below.refl _ _ | assumption | exact Bw.out (by assumption) | refine bw_alloc ?_ _ | refine bw_step ?_ (by assumption) | refine Below.alloc ?_ ?_ _ | refine Below.drew ?_ | refine below_drewN ?_ _ | refine Below.setCell ?_ ?_ _ | refine below_step ?_ (by assumption) ?_ | exact Nat.le_refl _) | omega | (simp; omega) | (simp; done)))⟩
theorem kAsg1 {W : World} {base : Nat} {va : Option Addr} {vn vc : Nat} {r : RefV} {ok : Bool} {er : Int} (h : AsgOut kRL [ks9] 1 W base va vn vc r ok er) : ok = true ∧ er = 0 ∧ vn = 1 ∧ OwnG stE 37 W base (.slice va 1 vc) [ks9a] := by
 obtain ⟨res, lm, hP, h⟩ := h
 rw [ksort] at hP
 obtain ⟨rfl, h0⟩ := kept1 hP
 rcases h with ⟨h, _⟩ | ⟨_, h, _⟩ | ⟨_, out, e, h1, h2, h3, h4⟩
 ·
  omega
 ·
  cases h
 ·
  cases e
  exact ⟨h1, h2, h3, h4⟩
theorem kAsg2 {W : World} {base : Nat} {va : Option Addr} {vn vc : Nat} {r : RefV} {ok : Bool} {er : Int} (h : AsgOut kRL [ks9b, ks4] 2 W base va vn vc r ok er) : ok = true ∧ er = 0 ∧ vn = 2 ∧ OwnG stE 37 W base (.slice va 2 vc) [ks9b, ks4a] := by
 obtain ⟨res, lm, hP, h⟩ := h
 rw [ksort] at hP
 obtain ⟨rfl, h0⟩ := kept2 hP
 rcases h with ⟨h, _⟩ | ⟨_, h, _⟩ | ⟨_, out, e, h1, h2, h3, h4⟩
 ·
  omega
 ·
  cases h
 ·
  cases e
  exact ⟨h1, h2, h3, h4⟩
theorem kAsg3 {W : World} {base : Nat} {va : Option Addr} {vn vc : Nat} {r : RefV} {ok : Bool} {er : Int} (h : AsgOut kRL kl3 3 W base va vn vc r ok er) : ok = false ∧ er = 0 ∧ r.kd = 2 ∧ r.ni = 3 ∧ r.sn = 3 := by
 obtain ⟨res, lm, hP, h⟩ := h
 rw [ksort] at hP
 obtain ⟨rfl, h0⟩ := kept3 hP
 rcases h with ⟨h, _⟩ | ⟨_, _, h1, h2, h3⟩ | ⟨_, out, e, _⟩
 ·
  omega
 ·
  rw [ksort] at h3
  obtain ⟨s, hs, hh⟩ := h3 k3c
  rw [ksort] at hh
  exact ⟨h1, h2, kept3r hs hh⟩
 ·
  cases e
theorem kgood9 : ks9.Good := by unfold StayV.Good; decide
theorem kgood9a : GoodL [ks9a] := ⟨by intro s hs; simp at hs; subst hs; unfold StayV.Good; decide, by decide, by decide⟩
theorem kgood9b : GoodL [ks9b] := ⟨by intro s hs; simp at hs; subst hs; unfold StayV.Good; decide, by decide, by decide⟩
theorem kgood94 : GoodL [ks9b, ks4a] := ⟨by intro s hs; rcases mem2 hs with rfl | rfl <;> (unfold StayV.Good; decide), by decide, by decide⟩
theorem kgood0 : GoodL [] := ⟨by simp, by simp, by simp⟩
theorem kgood4 : ks4.Good := by unfold StayV.Good; decide
theorem kgood5 : ks5.Good := by unfold StayV.Good; decide
theorem karr : ∀ s ∈ [ks9a], s.id = 9 → s.inn = false ∧ (∃ r ∈ kRL, r.id = s.rm) ∧ (∀ r ∈ kRL, r.id = s.rm → suitB s r = true) ∧ ∀ t ∈ [ks9a], meetB s t = false := fun s hs _ => by
 simp at hs
 subst hs
 refine ⟨rfl, ⟨kr1, by simp, rfl⟩, fun r hr hid => ?_, fun t ht => ?_⟩
 ·
  have : r = kr1 ∨ r = kr2 := by simpa using hr
  rcases this with rfl | rfl
  ·
   decide +kernel
  ·
   exact absurd hid (by decide)
 ·
  simp at ht
  subst ht
  rfl
theorem OwnG.plA {α : Type} {E : Enc α} {T : TypeId} {w : World} {base n cap : Nat} {ad : Option Addr} {l : List α} (h : OwnG E T w base (.slice ad n cap) l) : PlA ad := by
 rcases h.plain with h | ⟨g, h⟩
 ·
  exact .inl h
 ·
  exact .inr ⟨g, 0, h⟩
set_option maxRecDepth 100000 in
set_option maxHeartbeats 6400000 in
theorem Kept_any (w : World) : Calls Tryz.prog 4 #[] w fun e w' => e = .returned (.bool true) ∧ Below w.heap.size w w' := by
 go_enter Tryz.func4, Tryz.ntmps4
 go_wp2_with fail
 refine (w17Room_any 1 w).mono ?_
 rintro e w1 ⟨rfl, hb1⟩
 have HB1 := Lib.hid hb1
 clear hb1
 go_wp2_with fail
 refine (w17Room_any 2 w1).mono ?_
 rintro e w2 ⟨rfl, hb2⟩
 have HB2 : Hid (Below w.heap.size w w2) := HB1.out.trans (hb2.mono HB1.out.size)
 obtain ⟨g, hg⟩ : ∃ g, w2.heap.size = g := ⟨_, rfl⟩
 obtain ⟨w3, hw3⟩ : ∃ w3, w2.alloc (.cells #[.int .i64 1, .int .i64 1, .int .i64 1, .int .i64 0, .bool false, .slice none 0 0, .int .i64 2, .int .i64 1, .int .i64 1, .int .i64 0, .bool false, .slice none 0 0] 42) = w3 := ⟨_, rfl⟩
 have hb3 : Below w2.heap.size w2 w3 := by rw [← hw3]; exact (Below.refl _ _).alloc (Nat.le_refl _) _
 have hM3 : SlM w3 (some ⟨g, 0, none⟩) 2 kRL := ⟨SlG.row (rest := []) (by rw [← hw3, ← hg]; exact Row.new' _ [.int .i64 1, .int .i64 1, .int .i64 1, .int .i64 0, .bool false, .slice none 0 0, .int .i64 2, .int .i64 1, .int .i64 1, .int .i64 0, .bool false, .slice none 0 0] _ rfl) rfl, fun r hr => by
  have : r = kr1 ∨ r = kr2 := by simpa using hr
  rcases this with rfl | rfl <;> exact ⟨SlG.nil _ _ _, Nat.le_refl _, Nat.zero_le _⟩⟩
 have HM3 := Lib.hid hM3
 have HB3 : Hid (Below w.heap.size w w3) := HB2.out.trans (hb3.mono HB2.out.size)
 clear hb2 hb3 hM3
 have hadd := Add_any (some ⟨g, 0, none⟩) none 2 2 0 0 kRL [] ks9 w3 (by omega) HM3.out kvalid (.inl rfl) (SlG.nil _ _ _) (Nat.le_refl _) kgood0 kgood9 rfl
 have HADD := Lib.hid hadd
 clear hadd
 go_wp2_with fail
 refine HADD.out.mono ?_
 rintro e w4 ⟨va, vn, vc, r, ok, er, rfl, hb4, hout⟩
 obtain ⟨rfl, rfl, rfl, hO⟩ : ok = true ∧ er = 0 ∧ vn = 1 ∧ OwnG stE 37 w4 w3.heap.size (.slice va 1 vc) [ks9a] := by
  rcases hout with ⟨_, _, ⟨t, ht, _⟩ | h⟩ | ⟨_, h⟩
  ·
   simp at ht
  ·
   cases h
  ·
   exact kAsg1 h
 obtain ⟨w5, hw5⟩ : ∃ w5, w4.alloc (.cells #[.int .i64 r.kd, .int .i64 r.ni, .slice r.sa r.sn r.sc, .slice r.ra r.rn r.rc, .slice r.ba r.bn r.bc] 47) = w5 := ⟨_, rfl⟩
 have hb45 : Below w4.heap.size w4 w5 := by rw [← hw5]; exact (Below.refl _ _).alloc (Nat.le_refl _) _
 have hb35 : Below w3.heap.size w3 w5 := hb4.trans (hb45.mono hb4.size)
 have HO5 := Lib.hid (hO.step hb45)
 have HM5 := Lib.hid (HM3.out.step hb35)
 have HB5 : Hid (Below w.heap.size w w5) := HB3.out.trans (hb35.mono HB3.out.size)
 clear hout hO hb4 hb45 hb35 HADD
 have harr := Arrive_any (some ⟨g, 0, none⟩) va 2 2 1 vc kRL [ks9a] 9 w5 (by omega) HM5.out kvalid HO5.out.plA HO5.out.sl kgood9a (by omega)
 have HARR := Lib.hid harr
 clear harr
 go_wp2_with fail
 refine HARR.out.mono ?_
 rintro e w6 ⟨vb, vm, vd, er, rfl, hb6, hout, hzero⟩
 have her := hzero ⟨ks9a, by simp, rfl⟩ karr
 subst her
 obtain ⟨rfl, hO⟩ := hout rfl
 have HO6 : Hid (OwnG stE 37 w6 w5.heap.size (.slice vb 1 vd) [ks9b]) := hO
 have HM6 := Lib.hid (HM5.out.step hb6)
 have HB6 : Hid (Below w.heap.size w w6) := HB5.out.trans (hb6.mono HB5.out.size)
 clear hout hO hb6 hzero HARR
 have hadd := Add_any (some ⟨g, 0, none⟩) vb 2 2 1 vd kRL [ks9b] ks4 w6 (by omega) HM6.out kvalid HO6.out.plA HO6.out.sl HO6.out.sizes.2.1 kgood9b kgood4 rfl
 have HADD := Lib.hid hadd
 clear hadd
 go_wp2_with fail
 refine HADD.out.mono ?_
 rintro e w7 ⟨vc3, vn, vx, r3, ok, er, rfl, hb7, hout⟩
 obtain ⟨rfl, rfl, rfl, hO⟩ : ok = true ∧ er = 0 ∧ vn = 2 ∧ OwnG stE 37 w7 w6.heap.size (.slice vc3 2 vx) [ks9b, ks4a] := by
  rcases hout with ⟨_, _, ⟨t, ht, he⟩ | h⟩ | ⟨_, h⟩
  ·
   simp at ht
   subst ht
   cases he
  ·
   cases h
  ·
   exact kAsg2 h
 obtain ⟨w8, hw8⟩ : ∃ w8, w7.alloc (.cells #[.int .i64 r3.kd, .int .i64 r3.ni, .slice r3.sa r3.sn r3.sc, .slice r3.ra r3.rn r3.rc, .slice r3.ba r3.bn r3.bc] 47) = w8 := ⟨_, rfl⟩
 have hb78 : Below w7.heap.size w7 w8 := by rw [← hw8]; exact (Below.refl _ _).alloc (Nat.le_refl _) _
 have hb68 : Below w6.heap.size w6 w8 := hb7.trans (hb78.mono hb7.size)
 have HO8 := Lib.hid (hO.step hb78)
 have HM8 := Lib.hid (HM6.out.step hb68)
 have HB8 : Hid (Below w.heap.size w w8) := HB6.out.trans (hb68.mono HB6.out.size)
 clear hout hO hb7 hb78 hb68 HADD
 have hadd := Add_any (some ⟨g, 0, none⟩) vc3 2 2 2 vx kRL [ks9b, ks4a] ks5 w8 (by omega) HM8.out kvalid HO8.out.plA HO8.out.sl HO8.out.sizes.2.1 kgood94 kgood5 rfl
 have HADD := Lib.hid hadd
 clear hadd
 go_wp2_with fail
 refine HADD.out.mono ?_
 rintro e w9 ⟨vz, vn, vy, r4, ok, er, rfl, hb9, hout⟩
 obtain ⟨rfl, rfl, hk1, hk2, hk3⟩ : ok = false ∧ er = 0 ∧ r4.kd = 2 ∧ r4.ni = 3 ∧ r4.sn = 3 := by
  rcases hout with ⟨_, _, ⟨t, ht, he⟩ | h⟩ | ⟨_, h⟩
  ·
   rcases mem2 ht with rfl | rfl <;> cases he
  ·
   cases h
  ·
   exact kAsg3 h
 obtain ⟨Bt, hBt⟩ : ∃ Bt, w9.heap.size = Bt := ⟨_, rfl⟩
 obtain ⟨wa, hwa⟩ : ∃ wa, w9.alloc (.cells #[.int .i64 r4.kd, .int .i64 r4.ni, .slice r4.sa r4.sn r4.sc, .slice r4.ra r4.rn r4.rc, .slice r4.ba r4.bn r4.bc] 47) = wa := ⟨_, rfl⟩
 have hba : Below w9.heap.size w9 wa := by rw [← hwa]; exact (Below.refl _ _).alloc (Nat.le_refl _) _
 have hrt : Row wa Bt r4.cs := by rw [← hwa, ← hBt]; exact Row.new' _ _ _ rfl
 have hb8a : Below w8.heap.size w8 wa := hb9.trans (hba.mono hb9.size)
 have hOa := HO8.out.step hb8a
 have HBa : Hid (Below w.heap.size w wa) := HB8.out.trans (hb8a.mono HB8.out.size)
 obtain ⟨gc, cq, rest, hde, _, hrr, _⟩ := hOa.at (by simp)
 simp only [Value.slice.injEq] at hde
 obtain ⟨rfl, -, -⟩ := hde
 have y5 := hrr.cell 5 rfl
 have y8 := hrr.cell 8 rfl
 have y14 := hrr.cell 14 rfl
 have yl := hrr.lt
 have t0 := hrt.cell 0 rfl
 have t1 := hrt.cell 1 rfl
 have t2 := hrt.cell 2 rfl
 have tl := hrt.lt
 rw [hk1] at t0
 rw [hk2] at t1
 rw [hk3] at t2
 clear hout hb9 hba hrt hb8a hOa hrr hk1 hk2 hk3 HADD
 go_wp2_with fail
 go_ret
 exact ⟨rfl, HBa.out⟩
end
section
set_option linter.unusedSimpArgs false
set_option linter.unusedVariables false
open Go.RowKit Go.Shelf
/-- What a change leaves of the stays: all but maybe the one that is taken out; who is in a room keeps it, and the first night. -/
def KeptL (gone : Bool) (id : Int) (l l' : List StayV) : Prop := ∀ s ∈ l, (∃ t ∈ l', t.id = s.id ∧ (s.inn = true → t.inn = true ∧ t.rm = s.rm ∧ t.fr = s.fr)) ∨ (gone = true ∧ s.id = id ∧ ∀ t ∈ l', t.id ≠ s.id)
theorem asg_kept {l out : List StayV} (h : AsgL l out) {s : StayV} (hs : s ∈ l) : ∃ t ∈ out, t.id = s.id ∧ (s.inn = true → t.inn = true ∧ t.rm = s.rm ∧ t.fr = s.fr) := by
 obtain ⟨i, hi⟩ := List.getElem?_of_mem hs
 obtain ⟨t, ht, hst⟩ := h.each i s hi
 refine ⟨t, List.mem_of_getElem? ht, hst.id.1, fun hin => ?_⟩
 rcases hst with rfl | ⟨hno, _⟩
 ·
  exact ⟨hin, rfl, rfl⟩
 ·
  rw [hin] at hno
  cases hno
theorem asgOut_ok {H : List RoomV} {l : List StayV} {n : Nat} {W : World} {base : Nat} {va : Option Addr} {vn vc : Nat} {r : RefV} {er : Int} (hv : validM H = true) (hg : GoodL l) (h : AsgOut H l n W base va vn vc r true er) : ∃ out, vn = n ∧ OwnG stE 37 W base (.slice va n vc) out ∧ GoodL out ∧ PlacedL H out ∧ AsgL l out := by
 obtain ⟨res, lm, hP, h⟩ := h
 rcases h with ⟨_, h, _⟩ | ⟨_, _, h, _⟩ | ⟨_, out, rfl, _, _, h1, h2⟩
 ·
  cases h
 ·
  cases h
 ·
  obtain ⟨g1, g2, g3⟩ := assigned (by rw [validM_perm (srtM_perm H)]; exact hv) hg hP
  exact ⟨_, h1, h2, g1, ⟨fun s hs => by
   obtain ⟨r, hr, hh⟩ := g2.room s hs
   exact ⟨r, (srtM_perm H).mem_iff.1 hr, hh⟩, g2.apart⟩, g3⟩
/-- A guest arrives. -/
theorem arr_goodL {H : List RoomV} {l : List StayV} {id : Int} (hv : validM H = true) (hg : GoodL l) (hp : PlacedL H l) : GoodL (l.map (arrF id)) := by
 refine ⟨fun y hy => ?_, ?_, by rw [List.length_map]; exact hg.few⟩
 ·
  obtain ⟨x, hx, rfl⟩ := List.mem_map.1 hy
  obtain ⟨g1, g2, g3, g4, g5, g6, g7⟩ := hg.each x hx
  refine ⟨g1, g2, g3, g4, g5, g6, fun _ => ?_⟩
  obtain ⟨r, hr, hid, _⟩ := hp.room x hx
  have := (formedR_in ((validM_in hv).2.1 r hr)).1
  show x.rm ≠ 0
  rw [← hid]
  omega
 ·
  rw [List.map_map, show StayV.id ∘ arrF id = StayV.id from rfl]
  exact hg.ids
theorem arr_placed {H : List RoomV} {l : List StayV} {id : Int} (hp : PlacedL H l) : PlacedL H (l.map (arrF id)) := by
 refine ⟨fun y hy => ?_, fun i k s t hik hs ht hrm => ?_⟩
 ·
  obtain ⟨x, hx, rfl⟩ := List.mem_map.1 hy
  obtain ⟨r, hr, h1, h2⟩ := hp.room x hx
  exact ⟨r, hr, h1, suit_out h2 _ h1⟩
 ·
  rw [List.getElem?_map] at hs ht
  cases hsi : l[i]? with
  | none => rw [hsi] at hs; cases hs
  | some s' =>
   cases htk : l[k]? with
   | none => rw [htk] at ht; cases ht
   | some t' =>
    rw [hsi] at hs
    rw [htk] at ht
    cases hs
    cases ht
    exact hp.apart i k s' t' hik hsi htk hrm
theorem arr_kept {l : List StayV} {id : Int} (b : Bool) : KeptL b id l (l.map (arrF id)) := fun s hs => .inl ⟨arrF id s, List.mem_map_of_mem hs, rfl, fun hin => ⟨by show (s.inn || _) = true; rw [hin]; rfl, rfl, rfl⟩⟩
/-- One is taken out. -/
theorem del_at {l : List StayV} {i j : Nat} {s : StayV} (h : (l.eraseIdx i)[j]? = some s) : ∃ k, l[k]? = some s ∧ (j < i ∧ k = j ∨ i ≤ j ∧ k = j + 1) := by
 rw [List.getElem?_eraseIdx] at h
 by_cases hji : j < i
 ·
  rw [if_pos hji] at h
  exact ⟨j, h, .inl ⟨hji, rfl⟩⟩
 ·
  rw [if_neg hji] at h
  exact ⟨j + 1, h, .inr ⟨by omega, rfl⟩⟩
theorem del_goodL {l : List StayV} {i : Nat} (hg : GoodL l) : GoodL (l.eraseIdx i) := by
 have hsub := List.eraseIdx_sublist l i
 exact ⟨fun s hs => hg.each s (hsub.subset hs), (hsub.map StayV.id).nodup hg.ids, Nat.le_trans hsub.length_le hg.few⟩
theorem del_placed {H : List RoomV} {l : List StayV} {i : Nat} (hp : PlacedL H l) : PlacedL H (l.eraseIdx i) := by
 refine ⟨fun s hs => hp.room s ((List.eraseIdx_sublist l i).subset hs), fun a b s t hab hs ht hrm => ?_⟩
 obtain ⟨a', h1, h2⟩ := del_at hs
 obtain ⟨b', h3, h4⟩ := del_at ht
 exact hp.apart a' b' s t (by omega) h1 h3 hrm
theorem del_kept {l : List StayV} {i : Nat} {s : StayV} (hn : (l.map StayV.id).Nodup) (hs : l[i]? = some s) : KeptL true s.id l (l.eraseIdx i) := fun x hx => by
 obtain ⟨k, hk⟩ := List.getElem?_of_mem hx
 by_cases hki : k = i
 ·
  subst hki
  rw [hs] at hk
  cases hk
  refine .inr ⟨rfl, rfl, fun t ht e => ?_⟩
  obtain ⟨j, hj⟩ := List.getElem?_of_mem ht
  obtain ⟨q, hq, hqj⟩ := del_at hj
  have := nodup_at hn (i := q) (j := k) (x := s.id) (by rw [List.getElem?_map, hq]; exact congrArg some e) (by rw [List.getElem?_map, hs]; rfl)
  omega
 ·
  refine .inl ⟨x, ?_, rfl, fun h => ⟨h, rfl, rfl⟩⟩
  by_cases hlt : k < i
  ·
   exact List.mem_of_getElem? (i := k) (by rw [List.getElem?_eraseIdx, if_pos hlt]; exact hk)
  ·
   obtain ⟨q, rfl⟩ : ∃ q, k = q + 1 := ⟨k - 1, by omega⟩
   exact List.mem_of_getElem? (i := q) (by rw [List.getElem?_eraseIdx, if_neg (by omega)]; exact hk)
/-- Other nights. -/
theorem ext_kept {l out : List StayV} {id fr un : Int} (hx : ∀ x ∈ l, x.id = id → x.inn = true → x.fr = fr) (h : AsgL (l.map (extF id fr un)) out) (b : Bool) (i : Int) : KeptL b i l out := fun s hs => by
 obtain ⟨t, ht, h1, h2⟩ := asg_kept h (List.mem_map_of_mem (f := extF id fr un) hs)
 refine .inl ⟨t, ht, h1.trans (extF_id id fr un s), fun hin => ?_⟩
 have e1 : (extF id fr un s).inn = s.inn := by unfold extF; split <;> rfl
 have e2 : (extF id fr un s).rm = s.rm := by unfold extF; split <;> rfl
 have e3 : (extF id fr un s).fr = s.fr := by
  unfold extF
  split
  ·
   rename_i h
   exact (hx s hs h hin).symm
  ·
   rfl
 obtain ⟨q1, q2, q3⟩ := h2 (e1.trans hin)
 exact ⟨q1, q2.trans e2, q3.trans e3⟩
theorem add_kept {l out : List StayV} {s : StayV} (h : AsgL (l ++ [s]) out) (b : Bool) (i : Int) : KeptL b i l out := fun x hx => .inl (asg_kept h (List.mem_append_left _ hx))
end
section
set_option linter.unusedSimpArgs false
set_option linter.unusedVariables false
open Go.RowKit Go.Shelf
/-- What a change that was made leaves. -/
def DoOut (H : List RoomV) (gone : Bool) (id : Int) (l : List StayV) (W : World) (base : Nat) (va : Option Addr) (vn vc : Nat) : Prop := ∃ out, OwnG stE 37 W base (.slice va vn vc) out ∧ GoodL out ∧ PlacedL H out ∧ KeptL gone id l out
theorem DoOut.step {H : List RoomV} {gone : Bool} {id : Int} {l : List StayV} {W W' : World} {base base' : Nat} {va : Option Addr} {vn vc : Nat} (h : DoOut H gone id l W base va vn vc) (hb : Below W.heap.size W W') (hbb : base' ≤ base) : DoOut H gone id l W' base' va vn vc := by
 obtain ⟨out, h1, h2⟩ := h
 exact ⟨out, (h1.step hb).mono hbb, h2⟩
set_option maxRecDepth 100000 in
set_option maxHeartbeats 6400000 in
theorem Do_any (a b : Option Addr) (m mc n cap : Nat) (RL : List RoomV) (l : List StayV) (d0 d1 d2 d3 d4 : Int) (w : World) (hm : m ≤ 1000) (hr : SlM w a m RL) (hv : validM RL = true) (hpb : PlA b) (hs : SlG stE w b n l) (hcap : n ≤ cap) (hg : GoodL l) (hp : PlacedL RL l) (w0 : 0 ≤ d0 ∧ d0 ≤ 255) (w1 : 0 ≤ d1 ∧ d1 ≤ 255) (w2 : 0 ≤ d2 ∧ d2 ≤ 255) (w3 : 0 ≤ d3 ∧ d3 ≤ 255) (w4 : 0 ≤ d4 ∧ d4 ≤ 255) :
  Calls Tryz.prog 7 #[.slice a m mc, .slice b n cap, .agg #[.int .u8 d0, .int .u8 d1, .int .u8 d2, .int .u8 d3, .int .u8 d4]] w fun e w' => ∃ (va : Option Addr) (vn vc : Nat) (ok : Bool), e = .returned (.tuple #[.slice va vn vc, .bool ok]) ∧ Below w.heap.size w w' ∧ (ok = true → DoOut RL (decide (d0 % 5 = 4)) (1 + d1 % 8) l w' w.heap.size va vn vc) := by
 have HS := Lib.hid hs
 have HG := Lib.hid hg
 have HR := Lib.hid hr
 have HV := Lib.hid hv
 have HP := Lib.hid hp
 have HPB := Lib.hid hpb
 clear hs hg hr hv hp hpb
 obtain ⟨bx, hbx⟩ : ∃ bx, w.heap.size = bx := ⟨_, rfl⟩
 obtain ⟨wx, hwx⟩ : ∃ wx, w.alloc (.cells #[.int .u8 d0, .int .u8 d1, .int .u8 d2, .int .u8 d3, .int .u8 d4] 28) = wx := ⟨_, rfl⟩
 have hb1 : Below w.heap.size w wx := by rw [← hwx]; (repeat' (first | (with_reducible first | exact Below.refl _ _ | assumption | exact Bw.out (by assumption) | refine bw_alloc ?_ _ | refine bw_step ?_ (by assumption) | refine Below.alloc ?_ ?_ _ | refine Below.drew ?_ | refine below_drewN ?_ _ | refine Below.setCell ?_ ?_ _ | refine below_step ?_ (by assumption) ?_ | exact Nat.le_refl _) | omega | (simp; omega) | (simp; done)))
 have hrx : Row wx bx [.int .u8 d0, .int .u8 d1, .int .u8 d2, .int .u8 d3, .int .u8 d4] := by rw [← hwx, ← hbx]; (repeat' (first | (with_reducible assumption) | (with_reducible refine Row.new' _ _ _ (by first | rfl | (simp; done) | omega)) | (with_reducible first | refine Row.alloc ?_ _ | refine Row.drew ?_ | refine Row.step ?_ (by assumption) | refine Row.drewN ?_ _) | (with_reducible refine Row.set2' ?_ _ _; first | exact ⟨_, _, by assumption⟩ | exact ⟨_, _, Row.alloc (by assumption) _⟩) | (with_reducible refine Row.other ?_ (by first | omega | (simp; omega)) _)))
 have c0 := hrx.cell 0 rfl
 have c1 := hrx.cell 1 rfl
 have c2 := hrx.cell 2 rfl
 have c3 := hrx.cell 3 rfl
 have c4 := hrx.cell 4 rfl
 have HB1 := Lib.hid hb1
 have HS1 := Lib.hid (HS.out.step hb1)
 have HR1 := Lib.hid (HR.out.step hb1)
 have HRX := Lib.hid hrx
 obtain ⟨wy, hwy⟩ : ∃ wy, wx.drew = wy := ⟨_, rfl⟩
 have hby : Below wx.heap.size wx wy := by rw [← hwy]; exact (Below.refl _ _).drew
 have HS2 := Lib.hid (HS1.out.step hby)
 have HR2 := Lib.hid (HR1.out.step hby)
 have HX2 := Lib.hid (HRX.out.step hby)
 have HB2 : Hid (Below w.heap.size w wy) := HB1.out.trans (hby.mono HB1.out.size)
 have hsz := HB2.out.size
 have HWY := Lib.hid hwy
 have q1 : 0 ≤ d1 % 8 ∧ d1 % 8 < 8 := by omega
 have q2 : 0 ≤ d2 % 20 ∧ d2 % 20 < 20 := by omega
 have q3 : 0 ≤ d3 % 4 ∧ d3 % 4 < 4 := by omega
 have q4 : 0 ≤ d4 % 2 ∧ d4 % 2 < 2 := by omega
 have q0 : 0 ≤ d0 % 5 ∧ d0 % 5 < 5 := by omega
 clear hb1 hrx hwy hby
 go_enter Tryz.func7, Tryz.ntmps7
 go_wp2_with fail
 go_region
 rw [HWY.out]
 clear c0 c1 c2 c3 c4 HWY
 have c0 := HX2.out.cell 0 rfl
 have c3 := HX2.out.cell 3 rfl
 have c4 := HX2.out.cell 4 rfl
 have cl := HX2.out.lt
 by_cases h2 : d0 % 5 = 2
 ·
  go_wp2_with fail
  refine (Extend_any a b m mc n cap RL l (1 + d1 % 8) (d2 % 20) (d2 % 20 + 1 + d3 % 4) wy hm HR2.out HV.out HPB.out HS2.out HG.out (by omega) (by omega)).mono ?_
  rintro e w5 ⟨va, vn, vc, r, ok, er, rfl, hb5, hout⟩
  obtain ⟨w6, hw6⟩ : ∃ w6, w5.alloc (.cells #[.int .i64 r.kd, .int .i64 r.ni, .slice r.sa r.sn r.sc, .slice r.ra r.rn r.rc, .slice r.ba r.bn r.bc] 47) = w6 := ⟨_, rfl⟩
  have hb56 : Below w5.heap.size w5 w6 := by rw [← hw6]; exact (Below.refl _ _).alloc (Nat.le_refl _) _
  have HB6 : Hid (Below w.heap.size w w6) := (HB2.out.trans (hb5.mono HB2.out.size)).trans (hb56.mono (Nat.le_trans HB2.out.size hb5.size))
  cases ok with
  | false =>
   clear hout hb5 hb56
   go_wp2_with fail
   refine bodyPost_ret (v := .tuple #[.slice va vn vc, .bool false]) (by simp [results, Tryz.results7, go_sem]) rfl ?_
   exact ⟨va, vn, vc, false, rfl, HB6.out, (fun h => by cases h)⟩
  | true =>
   have HD : Hid (er = 0 ∧ DoOut RL (decide (d0 % 5 = 4)) (1 + d1 % 8) l w6 w.heap.size va vn vc) := by
    rcases hout with ⟨h, _⟩ | ⟨hx, hA⟩
    ·
     cases h
    ·
     obtain ⟨out, hvn, ho, g1, g2, g3⟩ := asgOut_ok HV.out (ext_goodL HG.out (by omega)) hA
     subst hvn
     refine ⟨?_, DoOut.step (W := w5) (base := wy.heap.size) ⟨out, ho, g1, g2, ext_kept hx g3 _ _⟩ hb56 hsz⟩
     obtain ⟨_, _, _, h⟩ := hA
     rcases h with ⟨_, h, _⟩ | ⟨_, _, h, _⟩ | ⟨_, _, _, _, h, _⟩
     ·
      cases h
     ·
      cases h
     ·
      exact h
   obtain ⟨rfl, hD⟩ := HD.out
   have HDO := Lib.hid hD
   clear hout hb5 hb56 HD hD
   go_wp2_with fail
   refine bodyPost_ret (v := .tuple #[.slice va vn vc, .bool true]) (by simp [results, Tryz.results7, go_sem]) rfl ?_
   exact ⟨va, vn, vc, true, rfl, HB6.out, fun _ => HDO.out⟩
 ·
  by_cases h3 : d0 % 5 = 3
  ·
   go_wp2_with fail
   refine (Arrive_any a b m mc n cap RL l (1 + d1 % 8) wy hm HR2.out HV.out HPB.out HS2.out HG.out (by omega)).mono ?_
   rintro e w5 ⟨va, vn, vc, er, rfl, hb5, hout, -⟩
   have HB5 : Hid (Below w.heap.size w w5) := HB2.out.trans (hb5.mono HB2.out.size)
   have HOUT := Lib.hid hout
   clear hout hb5
   obtain ⟨q, hq⟩ : ∃ q, (er == 0) = q := ⟨_, rfl⟩
   have HQ := Lib.hid hq
   go_wp2_with fail
   try rw [hq]
   refine bodyPost_ret (v := .tuple #[.slice va vn vc, .bool q]) (by simp [results, Tryz.results7, go_sem]) rfl ?_
   refine ⟨va, vn, vc, q, rfl, HB5.out, fun h => ?_⟩
   have her : er = 0 := by have := HQ.out; rw [h] at this; simpa using this
   obtain ⟨_, ho⟩ := HOUT.out her
   exact ⟨_, ho.mono hsz, arr_goodL HV.out HG.out HP.out, arr_placed HP.out, arr_kept _⟩
  ·
   by_cases h4 : d0 % 5 = 4
   ·
    go_wp2_with fail
    refine (Remove_any b n cap l (1 + d1 % 8) wy HPB.out HS2.out HG.out (by omega)).mono ?_
    rintro e w5 ⟨va, vn, vc, er, rfl, hb5, hout⟩
    have HB5 : Hid (Below w.heap.size w w5) := HB2.out.trans (hb5.mono HB2.out.size)
    have HOUT := Lib.hid hout
    have H4 : Hid (decide (d0 % 5 = 4) = true) := by show _ = _; simp [h4]
    clear hout hb5
    obtain ⟨q, hq⟩ : ∃ q, (er == 0) = q := ⟨_, rfl⟩
    have HQ := Lib.hid hq
    go_wp2_with fail
    try rw [hq]
    refine bodyPost_ret (v := .tuple #[.slice va vn vc, .bool q]) (by simp [results, Tryz.results7, go_sem]) rfl ?_
    refine ⟨va, vn, vc, q, rfl, HB5.out, fun h => ?_⟩
    have her : er = 0 := by have := HQ.out; rw [h] at this; simpa using this
    obtain ⟨i, s, hsi, hid, ho⟩ := HOUT.out her
    have hk := del_kept HG.out.ids hsi
    rw [hid] at hk
    exact ⟨_, ho.mono hsz, del_goodL HG.out, del_placed HP.out, by rw [H4.out]; exact hk⟩
   ·
    obtain ⟨ac, hac⟩ : ∃ ac, (d4 % 7 == 0) = ac := ⟨_, rfl⟩
    have hsg : (⟨1 + d1 % 8, 1 + d4 % 2, d2 % 20, d2 % 20 + 1 + d3 % 4, 1, 0, 0, ac, false⟩ : StayV).Good := by
     unfold StayV.Good
     refine ⟨?_, ?_, ?_, ?_, ?_, rfl, (fun h => by cases h)⟩ <;> simp only <;> omega
    have HADD := Lib.hid (Add_any a b m mc n cap RL l ⟨1 + d1 % 8, 1 + d4 % 2, d2 % 20, d2 % 20 + 1 + d3 % 4, 1, 0, 0, ac, false⟩ wy hm HR2.out HV.out HPB.out HS2.out hcap HG.out hsg rfl)
    clear hsg
    go_wp2_with fail
    try rw [hac]
    refine HADD.out.mono ?_
    rintro e w5 ⟨va, vn, vc, r, ok, er, rfl, hb5, hout⟩
    obtain ⟨w6, hw6⟩ : ∃ w6, w5.alloc (.cells #[.int .i64 r.kd, .int .i64 r.ni, .slice r.sa r.sn r.sc, .slice r.ra r.rn r.rc, .slice r.ba r.bn r.bc] 47) = w6 := ⟨_, rfl⟩
    have hb56 : Below w5.heap.size w5 w6 := by rw [← hw6]; exact (Below.refl _ _).alloc (Nat.le_refl _) _
    have HB6 : Hid (Below w.heap.size w w6) := (HB2.out.trans (hb5.mono HB2.out.size)).trans (hb56.mono (Nat.le_trans HB2.out.size hb5.size))
    cases ok with
    | false =>
     clear hout hb5 hb56 HADD
     go_wp2_with fail
     refine bodyPost_ret (v := .tuple #[.slice va vn vc, .bool false]) (by simp [results, Tryz.results7, go_sem]) rfl ?_
     exact ⟨va, vn, vc, false, rfl, HB6.out, (fun h => by cases h)⟩
    | true =>
     have HD : Hid (er = 0 ∧ DoOut RL (decide (d0 % 5 = 4)) (1 + d1 % 8) l w6 w.heap.size va vn vc) := by
      rcases hout with ⟨h, _⟩ | ⟨hgl, hA⟩
      ·
       cases h
      ·
       obtain ⟨out, hvn, ho, g1, g2, g3⟩ := asgOut_ok HV.out hgl hA
       subst hvn
       refine ⟨?_, DoOut.step (W := w5) (base := wy.heap.size) ⟨out, ho, g1, g2, add_kept g3 _ _⟩ hb56 hsz⟩
       obtain ⟨_, _, _, h⟩ := hA
       rcases h with ⟨_, h, _⟩ | ⟨_, _, h, _⟩ | ⟨_, _, _, _, h, _⟩
       ·
        cases h
       ·
        cases h
       ·
        exact h
     obtain ⟨rfl, hD⟩ := HD.out
     have HDO := Lib.hid hD
     clear hout hb5 hb56 HD hD HADD
     go_wp2_with fail
     refine bodyPost_ret (v := .tuple #[.slice va vn vc, .bool true]) (by simp [results, Tryz.results7, go_sem]) rfl ?_
     exact ⟨va, vn, vc, true, rfl, HB6.out, fun _ => HDO.out⟩
end
section
set_option linter.unusedSimpArgs false
set_option linter.unusedVariables false
open Go.ChangeShapes Go.WideShapes Go.ChangeAt Go.RowKit Go.Deep
section
variable {H : Type} {enc : TypeId × Value → H} {P : Program} {w : World} {base : Nat} {spare : Nat → Bool} {held : Bool}
/-- An argument that is a slice of structs, all of whose fields are one cell. -/
theorem open_slice_fields {t e : TypeId} {fs : Array Field} {fuel : Nat} {cs : List Value} {x : DataW H × List MemPlace} (ht : P.underlying t = some (.slice e)) (he : P.underlying e = some (.struct fs))
  (hone : oneCellFields P fs = true) (hC : P.cellsOf e = fs.size) (h : DataW.trod enc P w base spare held fuel t cs = some x) :
  (cs = [.slice none 0 0] ∧ x = (.nil, [])) ∨
  ∃ (a : Addr) (len cap m : Nat), cs = [.slice (some a) len cap] ∧ base ≤ a.block ∧ len ≤ cap ∧ cap ≤ maxLen ∧ m = (if spare a.block then cap else len) ∧
   ∀ i, i < m → ∃ (n : Nat),
    ∀ (j : Nat) (f : Field), fs[j]? = some f → ∃ (v : Value) (y : DataW H × List MemPlace), w.cell? (a.add (i * fs.size + j)) = some v ∧ DataW.trod enc P w base spare held n f.type [v] = some y := by
 rcases open_slice ht h with h0 | ⟨a, len, cap, m, n, D, Pl, hcs, hb, hl, hm, hmm, hx, hi⟩
 ·
  exact .inl h0
 ·
  refine .inr ⟨a, len, cap, m, hcs, hb, hl, hm, hmm, fun i him => ?_⟩
  obtain ⟨cs', hc, ht'⟩ := hi i him
  rw [hC] at hc
  obtain ⟨ys, n', hn', hy, hlen, hyl, hf⟩ := DataW.trod_struct he ht'
  obtain ⟨_, hcl, hat⟩ := World.cells?_some hc
  refine ⟨n', fun j f hj => ?_⟩
  obtain ⟨ho, hk⟩ := hone_of hone j f hj
  have hjl : j < fs.size := (Array.getElem?_eq_some_iff.1 hj).1
  have hcell := hat j hjl
  have hv : cs'[j]? = some (cs'[j]'(by omega)) := List.getElem?_eq_getElem (by omega)
  have h1 := hf j f hj
  rw [ho, hk] at h1
  have hone' : (cs'.drop j).take 1 = [cs'[j]'(by omega)] := by
   rw [List.drop_eq_getElem_cons (by omega)]
   rfl
  rw [hone'] at h1
  have hys : ys[j]? = some (ys[j]'(by omega)) := List.getElem?_eq_getElem (by omega)
  refine ⟨_, _, ?_, h1.trans hys⟩
  rw [← Go.Deep.add_add, hcell, hv]
end
theorem addr_plain {w : World} {a : Addr} {v : Value} (h : w.cell? (a.add 0) = some v) : a = ⟨a.block, a.off, none⟩ := by
 obtain ⟨b, off, spot⟩ := a
 cases spot with
 | none => rfl
 | some s => simp only [World.cell?, Addr.add] at h; split at h <;> simp at h
theorem add_plain (b off k : Nat) : (⟨b, off, none⟩ : Addr).add k = ⟨b, off + k, none⟩ := by simp [Addr.add]
theorem choose_list {α : Type} {p : Nat → α → Prop} : ∀ (n : Nat), (∀ i, i < n → ∃ x, p i x) → ∃ l : List α, l.length = n ∧ ∀ i x, l[i]? = some x → p i x
 | 0, _ => ⟨[], rfl, fun i x h => by simp at h⟩
 | n + 1, h => by
  obtain ⟨l, hl, hp⟩ := choose_list n (fun i hi => h i (by omega))
  obtain ⟨x, hx⟩ := h n (by omega)
  refine ⟨l ++ [x], by simp [hl], fun i y hy => ?_⟩
  by_cases hi : i < n
  ·
   rw [List.getElem?_append_left (by omega)] at hy; exact hp i y hy
  ·
   have hlt := (List.getElem?_eq_some_iff.1 hy).1
   simp [hl] at hlt
   obtain rfl : i = n := by omega
   rw [List.getElem?_append_right (by omega)] at hy
   simp [hl] at hy
   subst hy; exact hx
/-- A slice from what each of its places holds. -/
theorem slg_of {α : Type} (E : Enc α) {w : World} {a : Addr} {len : Nat} {p : α → Prop} (hpl : 0 < len → a = ⟨a.block, a.off, none⟩) (h : ∀ i, i < len → ∃ x : α, (∀ j v, (E.c x)[j]? = some v → w.cell? ⟨a.block, a.off + i * E.k + j, none⟩ = some v) ∧ p x) :
  ∃ l, SlG E w (some a) len l ∧ ∀ x ∈ l, p x := by
 obtain ⟨l, hl, hp⟩ := choose_list len h
 refine ⟨l, ⟨hl, fun i x hx => ⟨a.block, a.off, ?_, (hp i x hx).1⟩⟩, fun x hx => ?_⟩
 ·
  have := (List.getElem?_eq_some_iff.1 hx).1
  exact congrArg some (hpl (by omega))
 ·
  obtain ⟨i, hi⟩ := List.getElem?_of_mem hx
  exact (hp i x hi).2
theorem cells_span : Tryz.prog.cellsOf 83 = 2 := by kernel_rfl
theorem slg_of_spans {H : Type} {enc : TypeId × Value → H} {w : World} {fuel : Nat} {v : Value} {x : DataW H × List MemPlace} (h : DataW.trod enc Tryz.prog w 0 (fun _ => true) true fuel 40 [v] = some x) :
  ∃ a n cap l, v = .slice a n cap ∧ n ≤ cap ∧ cap ≤ maxLen ∧ SlG spE w a n l := by
 rcases open_slice_fields Tryz.underlying40 Tryz.underlying83 (by kernel_rfl) cells_span h with ⟨hcs, _⟩ | ⟨a, len, cap, m, hcs, _, hl, hm, hmm, hf⟩
 ·
  simp only [List.cons.injEq, and_true] at hcs
  subst hcs
  exact ⟨none, 0, 0, [], rfl, Nat.le_refl _, by unfold maxLen; omega, SlG.nil _ _ _⟩
 ·
  simp only [List.cons.injEq, and_true] at hcs
  subst hcs
  simp only [if_true] at hmm
  have hpl : 0 < len → a = ⟨a.block, a.off, none⟩ := fun h0 => by
   obtain ⟨n, hn⟩ := hf 0 (by omega)
   obtain ⟨v0, y0, c0, _⟩ := hn 0 _ rfl
   exact addr_plain c0
  obtain ⟨l, hl', _⟩ := slg_of spE (p := fun _ => True) hpl (fun i hi => by
   obtain ⟨n, hn⟩ := hf i (by omega)
   obtain ⟨v0, y0, c0, t0⟩ := hn 0 _ rfl
   obtain ⟨v1, y1, c1, t1⟩ := hn 1 _ rfl
   obtain ⟨z0, e0, _, _⟩ := DataW.trod_int Tryz.underlying3 t0
   obtain ⟨z1, e1, _, _⟩ := DataW.trod_int Tryz.underlying3 t1
   simp only [List.cons.injEq, and_true] at e0 e1
   subst e0 e1
   have ha := hpl (by omega)
   rw [ha, add_plain] at c0 c1
   refine ⟨(z0, z1), fun j v hj => ?_, trivial⟩
   match j, hj with
   | 0, hj => cases hj; exact c0
   | 1, hj => cases hj; exact c1)
  exact ⟨some a, len, cap, l, rfl, hl, hm, hl'⟩
theorem cells_room : Tryz.prog.cellsOf 42 = 6 := by kernel_rfl
theorem slm_of_rooms {H : Type} {enc : TypeId × Value → H} {w : World} {fuel : Nat} {v : Value} {x : DataW H × List MemPlace} (h : DataW.trod enc Tryz.prog w 0 (fun _ => true) true fuel 22 [v] = some x) :
  ∃ a n cap l, v = .slice a n cap ∧ n ≤ cap ∧ cap ≤ maxLen ∧ SlM w a n l ∧ ∀ x ∈ l, x.bl.length ≤ x.bc := by
 rcases open_slice_fields Tryz.underlying22 Tryz.underlying42 (by kernel_rfl) cells_room h with ⟨hcs, _⟩ | ⟨a, len, cap, m, hcs, _, hl, hm, hmm, hf⟩
 ·
  simp only [List.cons.injEq, and_true] at hcs
  subst hcs
  exact ⟨none, 0, 0, [], rfl, Nat.le_refl _, by unfold maxLen; omega, ⟨SlG.nil _ _ _, by simp⟩, by simp⟩
 ·
  simp only [List.cons.injEq, and_true] at hcs
  subst hcs
  simp only [if_true] at hmm
  have hpl : 0 < len → a = ⟨a.block, a.off, none⟩ := fun h0 => by
   obtain ⟨n, hn⟩ := hf 0 (by omega)
   obtain ⟨v0, y0, c0, _⟩ := hn 0 _ rfl
   exact addr_plain c0
  obtain ⟨l, hl', hin⟩ := slg_of rmE (p := fun r => r.In w) hpl (fun i hi => by
   obtain ⟨n, hn⟩ := hf i (by omega)
   obtain ⟨v0, y0, c0, t0⟩ := hn 0 _ rfl
   obtain ⟨v1, y1, c1, t1⟩ := hn 1 _ rfl
   obtain ⟨v2, y2, c2, t2⟩ := hn 2 _ rfl
   obtain ⟨v3, y3, c3, t3⟩ := hn 3 _ rfl
   obtain ⟨v4, y4, c4, t4⟩ := hn 4 _ rfl
   obtain ⟨v5, y5, c5, t5⟩ := hn 5 _ rfl
   obtain ⟨z0, e0, _, _⟩ := DataW.trod_int Tryz.underlying3 t0
   obtain ⟨z1, e1, _, _⟩ := DataW.trod_int Tryz.underlying3 t1
   obtain ⟨z2, e2, _, _⟩ := DataW.trod_int Tryz.underlying3 t2
   obtain ⟨z3, e3, _, _⟩ := DataW.trod_int Tryz.underlying3 t3
   obtain ⟨z4, e4, _⟩ := DataW.trod_bool Tryz.underlying4 t4
   obtain ⟨ba, bn, bc, bl, rfl, hb1, hb2, hb3⟩ := slg_of_spans t5
   simp only [List.cons.injEq, and_true] at e0 e1 e2 e3 e4
   subst e0 e1 e2 e3 e4
   have hbn : bl.length = bn := hb3.1
   subst hbn
   have ha := hpl (by omega)
   rw [ha, add_plain] at c0 c1 c2 c3 c4 c5
   refine ⟨⟨z0, z1, z2, z3, z4, ba, bc, bl⟩, fun j v hj => ?_, ⟨hb3, hb1, hb2⟩⟩
   match j, hj with
   | 0, hj => cases hj; exact c0
   | 1, hj => cases hj; exact c1
   | 2, hj => cases hj; exact c2
   | 3, hj => cases hj; exact c3
   | 4, hj => cases hj; exact c4
   | 5, hj => cases hj; exact c5)
  exact ⟨some a, len, cap, l, rfl, hl, hm, ⟨hl', hin⟩, fun x hx => (hin x hx).2.1⟩
/-- Changes. -/
structure DeedV where
 d0 : Int
 d1 : Int
 d2 : Int
 d3 : Int
 d4 : Int
def deE : Enc DeedV := ⟨5, fun x => [.int .u8 x.d0, .int .u8 x.d1, .int .u8 x.d2, .int .u8 x.d3, .int .u8 x.d4], fun _ => rfl, fun x u hu => by simp only [List.mem_cons, List.not_mem_nil, or_false] at hu; rcases hu with rfl | rfl | rfl | rfl | rfl <;> rfl, by decide⟩
def DeedWf (x : DeedV) : Prop := (0 ≤ x.d0 ∧ x.d0 ≤ 255) ∧ (0 ≤ x.d1 ∧ x.d1 ≤ 255) ∧ (0 ≤ x.d2 ∧ x.d2 ≤ 255) ∧ (0 ≤ x.d3 ∧ x.d3 ≤ 255) ∧ (0 ≤ x.d4 ∧ x.d4 ≤ 255)
theorem cells_deed : Tryz.prog.cellsOf 28 = 5 := by kernel_rfl
theorem sld_of_deeds {H : Type} {enc : TypeId × Value → H} {w : World} {fuel : Nat} {v : Value} {x : DataW H × List MemPlace} (h : DataW.trod enc Tryz.prog w 0 (fun _ => true) true fuel 23 [v] = some x) :
  ∃ a n cap l, v = .slice a n cap ∧ n ≤ cap ∧ cap ≤ maxLen ∧ SlG deE w a n l ∧ ∀ x ∈ l, DeedWf x := by
 rcases open_slice_fields Tryz.underlying23 Tryz.underlying28 (by kernel_rfl) cells_deed h with ⟨hcs, _⟩ | ⟨a, len, cap, m, hcs, _, hl, hm, hmm, hf⟩
 ·
  simp only [List.cons.injEq, and_true] at hcs
  subst hcs
  exact ⟨none, 0, 0, [], rfl, Nat.le_refl _, by unfold maxLen; omega, SlG.nil _ _ _, by simp⟩
 ·
  simp only [List.cons.injEq, and_true] at hcs
  subst hcs
  simp only [if_true] at hmm
  have hpl : 0 < len → a = ⟨a.block, a.off, none⟩ := fun h0 => by
   obtain ⟨n, hn⟩ := hf 0 (by omega)
   obtain ⟨v0, y0, c0, _⟩ := hn 0 _ rfl
   exact addr_plain c0
  obtain ⟨l, hl', hwf⟩ := slg_of deE (p := DeedWf) hpl (fun i hi => by
   obtain ⟨n, hn⟩ := hf i (by omega)
   obtain ⟨v0, y0, c0, t0⟩ := hn 0 _ rfl
   obtain ⟨v1, y1, c1, t1⟩ := hn 1 _ rfl
   obtain ⟨v2, y2, c2, t2⟩ := hn 2 _ rfl
   obtain ⟨v3, y3, c3, t3⟩ := hn 3 _ rfl
   obtain ⟨v4, y4, c4, t4⟩ := hn 4 _ rfl
   obtain ⟨z0, e0, _, w0⟩ := DataW.trod_int Tryz.underlying5 t0
   obtain ⟨z1, e1, _, w1⟩ := DataW.trod_int Tryz.underlying5 t1
   obtain ⟨z2, e2, _, w2⟩ := DataW.trod_int Tryz.underlying5 t2
   obtain ⟨z3, e3, _, w3⟩ := DataW.trod_int Tryz.underlying5 t3
   obtain ⟨z4, e4, _, w4⟩ := DataW.trod_int Tryz.underlying5 t4
   simp only [List.cons.injEq, and_true] at e0 e1 e2 e3 e4
   subst e0 e1 e2 e3 e4
   have ha := hpl (by omega)
   rw [ha, add_plain] at c0 c1 c2 c3 c4
   refine ⟨⟨z0, z1, z2, z3, z4⟩, fun j v hj => ?_, bd_u8 w0, bd_u8 w1, bd_u8 w2, bd_u8 w3, bd_u8 w4⟩
   match j, hj with
   | 0, hj => cases hj; exact c0
   | 1, hj => cases hj; exact c1
   | 2, hj => cases hj; exact c2
   | 3, hj => cases hj; exact c3
   | 4, hj => cases hj; exact c4)
  exact ⟨some a, len, cap, l, rfl, hl, hm, hl', hwf⟩
end
end Go.Proofs.YtlmajlfhjbhdpaaGreat
