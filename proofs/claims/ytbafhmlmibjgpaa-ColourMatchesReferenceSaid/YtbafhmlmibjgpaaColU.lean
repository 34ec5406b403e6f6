/-
  The reference's Clique and Fits.
-/
import Derived.Test.YtbafhmlmibjgpaaColT
namespace Go.Proofs.Ytbafhmlmibjgpaa
set_option linter.unusedSimpArgs false
set_option linter.unusedVariables false
open Go.RowKit

theorem firL_spec (l : List SpV) (h : Int) : ((firL l h).2 = false ∧ (firL l h).1 = 0 ∧ ∀ i : Nat, i < l.length → (cntP l (frP l i) : Int) ≤ h) ∨
    ((firL l h).2 = true ∧ (∃ i : Nat, i < l.length ∧ (firL l h).1 = frP l i ∧ h < cntP l (frP l i)) ∧ ∀ i : Nat, i < l.length → h < cntP l (frP l i) → (firL l h).1 ≤ frP l i) := firK_spec l h l.length
/-- What Clique's loop holds. -/
def CqI (l : List SpV) (t : Int) (h : Nat) : Prop := (h = 0 ∧ t = 0) ∨ (1 ≤ h ∧ (∃ i : Nat, i < l.length ∧ t = frP l i) ∧ cntP l t = h ∧ ∀ j : Nat, j < l.length → frP l j < t → cntP l (frP l j) < h)
theorem cq_next {l : List SpV} {h : Nat} {t : Int} (hf : firL l h = (t, true)) : CqI l t (cntP l t) ∧ h < cntP l t ∧ cntP l t ≤ l.length := by
  rcases firL_spec l h with ⟨h1, _⟩ | ⟨_, ⟨i, h2, h3, h4⟩, h5⟩
  · rw [hf] at h1; cases h1
  · rw [hf] at h3 h5
    simp only [] at h3 h5
    rw [← h3] at h4
    refine ⟨Or.inr ⟨by omega, ⟨i, h2, h3⟩, rfl, fun j hj hlt => ?_⟩, by omega, onK_length l t l.length⟩
    by_cases hh : (h : Int) < cntP l (frP l j)
    · have := h5 j hj hh; omega
    · omega
theorem cq_none {l : List SpV} (ho : OkS l) {t nx : Int} {h : Nat} (hf : firL l h = (nx, false)) (hi : CqI l t h) : (h = 0 → clqL l = (0, 0) ∧ onL l 0 = []) ∧ (h ≠ 0 → (clqL l).1 = t) := by
  have hle : ∀ i : Nat, i < l.length → (cntP l (frP l i) : Int) ≤ h := by
    rcases firL_spec l h with ⟨_, _, h3⟩ | ⟨h1, _⟩
    · exact h3
    · rw [hf] at h1; cases h1
  constructor
  · rintro rfl
    have hn : l = [] := by
      cases l with
      | nil => rfl
      | cons x r =>
        have h1 := hle 0 (by simp)
        have h2 := cnt_pos ho (i := 0) (by omega) (by simp)
        exfalso
        have h3 : (cntP (x :: r) (frP (x :: r) ((0 : Nat) : Int)) : Int) = cntP (x :: r) (frP (x :: r) 0) := rfl
        omega
    subst hn
    exact ⟨rfl, rfl⟩
  · intro h0
    rcases hi with ⟨h1, _⟩ | ⟨h1, ⟨i, h2, h3⟩, h4, h5⟩
    · exact absurd h1 h0
    · rcases clqL_spec ho with ⟨rfl, _⟩ | ⟨_, ⟨j, j0, j1, j2⟩, q2, _, q4, q5⟩
      · exact absurd h2 (Nat.not_lt_zero _)
      · obtain ⟨jn, rfl⟩ := Int.eq_ofNat_of_zero_le j0
        have a1 := q4 t
        have a2 := hle jn (by omega)
        rw [← j2] at a2
        rcases Int.lt_trichotomy (clqL l).1 t with g | g | g
        · have := h5 jn (by omega) (by rw [← j2]; exact g)
          rw [← j2] at this
          omega
        · exact g
        · have := q5 t g; omega
theorem fit_fir {l : List SpV} (ho : OkS l) {rooms t : Int} {fd : Bool} (hf : firL l rooms = (t, fd)) :
    (fd = false → fitA l rooms = colO l ∧ fitB l rooms = []) ∧ (fd = true → fitA l rooms = [] ∧ fitB l rooms = (onL l t).take (rooms.toNat + 1) ∧ rooms < (onL l t).length) := by
  have hs := firL_spec l rooms
  rw [hf] at hs
  simp only [] at hs
  constructor
  · rintro rfl
    rcases hs with ⟨_, _, h3⟩ | ⟨h1, _⟩
    · have e : fitF l rooms = none := find_none _ (fun y hy => by
        obtain ⟨j, hj, rfl, _⟩ := htY_mem ho _ (Nat.le_refl _) y hy
        obtain ⟨o, h0⟩ := Int.eq_ofNat_of_zero_le (oL_in hj).1
        have := h3 o (by have := (oL_in hj).2; omega)
        rw [h0]
        simp only [decide_eq_false_iff_not]
        omega)
      unfold fitA fitB
      rw [e]
      exact ⟨rfl, rfl⟩
    · cases h1
  · rintro rfl
    rcases hs with ⟨h1, _⟩ | ⟨_, ⟨i, h2, h3, h4⟩, h5⟩
    · cases h1
    · have hm := htY_at ho (i := (i : Int)) (by omega) (by omega)
      cases hF : fitF l rooms with
      | none =>
        have := List.find?_eq_none.1 hF _ hm
        simp only [decide_eq_true_eq] at this
        omega
      | some y =>
        have g1 := List.find?_some hF
        obtain ⟨j, hj, rfl, _⟩ := htY_mem ho _ (Nat.le_refl _) y (List.mem_of_find?_eq_some hF)
        simp only [decide_eq_true_eq] at g1
        obtain ⟨o, h0⟩ := Int.eq_ofNat_of_zero_le (oL_in hj).1
        have hol : o < l.length := by have := (oL_in hj).2; omega
        have ht : t = frP l (oL l j) := by
          have a1 := h5 o hol (by rw [← h0]; exact g1)
          rw [← h0] at a1
          obtain ⟨_, pa, pb, hbs, hno⟩ := List.find?_eq_some_iff_append.1 hF
          have hsort := htY_sorted ho _ (Nat.le_refl _)
          rw [hbs] at hm hsort
          rw [List.pairwise_append] at hsort
          rcases List.mem_append.1 hm with hm | hm
          · have := hno _ hm
            simp at this; omega
          · rcases List.mem_cons.1 hm with hm | hm
            · simp only [Prod.mk.injEq] at hm; omega
            · have := (List.pairwise_cons.1 hsort.2.1).1 _ hm
              simp only [] at this; omega
        subst ht
        refine ⟨by unfold fitA; rw [hF], by unfold fitB; rw [hF], ?_⟩
        exact g1

set_option maxRecDepth 100000 in
set_option maxHeartbeats 1600000 in
theorem R_Clique_err (a : Option Addr) (n cap : Nat) (l : List SpV) (w : World) (hm : n ≤ 9223372036854775807) (hs : SlP w a n l) (E : Int) (hE : chkE l = E) (h0 : E ≠ 0) :
    Calls Try.prog 15 #[.slice a n cap] w fun e w' => e = .returned (.tuple #[.slice none 0 0, .int .i64 0, .int .i64 E]) ∧ Below w.heap.size w w' := by
  have HS := Lib.hid hs
  have HE := Lib.hid hE
  have h1 : (E == 0) = false := by simpa using h0
  clear hs hE
  go_enter Try.func15, Try.ntmps15
  go_wp2_with fail
  refine (R_check_any a n cap l _ (by omega) HS.out).mono ?_
  rintro e w' ⟨rfl, q, rfl⟩
  rw [HE.out]
  go_wp2_with fail
  go_ret3
  refine ⟨rfl, ?_⟩
  (repeat' (first | (with_reducible exact Below.refl _ _) | (with_reducible assumption) | (with_reducible exact Bw.out (by with_reducible assumption)) | (with_reducible refine bw_alloc ?_ _) | (with_reducible refine bw_step ?_ (by with_reducible assumption)) | (with_reducible refine Below.alloc ?_ ?_ _) | (with_reducible refine Below.drew ?_) | (with_reducible refine below_drewN ?_ _) | (with_reducible refine Below.setCell ?_ ?_ _) | (with_reducible refine below_step ?_ (by with_reducible assumption) ?_) | (with_reducible exact Nat.le_refl _) | omega | (simp; omega) | (simp; done)))

set_option maxRecDepth 100000 in
set_option maxHeartbeats 3200000 in
theorem R_Clique_ok (a : Option Addr) (n cap : Nat) (l : List SpV) (w : World) (hm : n ≤ 3000) (hs : SlP w a n l) (hE : chkE l = 0) (t0 : Int) (ht0 : (clqL l).1 = t0) :
    Calls Try.prog 15 #[.slice a n cap] w fun e w' => ∃ v, e = .returned (.tuple #[v, .int .i64 t0, .int .i64 0]) ∧ SlV w' v (onL l t0) ∧ Below w.heap.size w w' := by
  have HS := Lib.hid hs
  have HE := Lib.hid hE
  have HL := Lib.hid hs.1
  have HO := Lib.hid (chkE_ok hE).1
  have HT0 := Lib.hid ht0
  clear hs hE ht0
  obtain ⟨nx0, fd0, hf0⟩ : ∃ nx fd, firL l 0 = (nx, fd) := ⟨_, _, rfl⟩
  have HF0 := Lib.hid hf0
  clear hf0
  go_enter Try.func15, Try.ntmps15
  go_wp2_with fail
  refine (R_check_any a n cap l _ (by omega) HS.out).mono ?_
  rintro e w1 ⟨rfl, q1, hw1⟩
  rw [HE.out]
  have HB1 : Hid (Below w.heap.size w w1) := by show Below _ _ _; rw [hw1]; exact below_drewN (Below.refl _ _) q1
  clear hw1
  go_wp2_with fail
  refine (R_first_any a n cap l 0 _ (by omega) (HS.out.below HB1.out)).mono ?_
  rintro e w2 ⟨rfl, hb2⟩
  rw [HF0.out]
  have HB2 : Hid (Below w.heap.size w w2) := HB1.out.trans (hb2.mono HB1.out.size)
  clear hb2
  go_wp2_with fail
  go_loopw [6, 7, 8, 9] (fun vt vh vn vf wr => ∃ (t nx : Int) (h : Nat) (fd : Bool), h ≤ n ∧ vt = .int .i64 t ∧ vh = .int .i64 h ∧ vn = .int .i64 nx ∧ vf = .bool fd ∧ Hid (firL l h = (nx, fd)) ∧ Hid (CqI l t h) ∧ Hid (Below w.heap.size w wr)) (fun _ vh _ _ _ => n - (intOf vh).toNat)
  case atStart => exact ⟨0, nx0, 0, fd0, Nat.zero_le _, rfl, rfl, rfl, rfl, HF0.out, Or.inl ⟨rfl, rfl⟩, HB2.out⟩
  case round =>
    obtain ⟨t, nx, h, fd, hh, rfl, rfl, rfl, rfl, hF, hC, hB⟩ := hrel
    cases fd with
    | true =>
      obtain ⟨hc1, hc2, hc3⟩ := cq_next hF.out
      obtain ⟨h2, hh2⟩ : ∃ c, cntP l nx = c := ⟨_, rfl⟩
      rw [hh2] at hc1 hc2 hc3
      rw [HL.out] at hc3
      have HC2 := Lib.hid hc1
      have HH2 := Lib.hid (show (onL l nx).length = h2 from hh2)
      obtain ⟨nx2, fd2, hf2⟩ : ∃ nx fd, firL l h2 = (nx, fd) := ⟨_, _, rfl⟩
      have HF2 := Lib.hid hf2
      clear hc1 hh2 hf2
      go_wp2_with fail
      refine (R_on_any a n cap l nx _ (by omega) (HS.out.below hB.out)).mono ?_
      rintro e w4 ⟨v4, rfl, hv4, hb4⟩
      obtain ⟨a4, c4, rfl, _⟩ := hv4.sl.form (m := h2) HH2.out
      have HB4 : Hid (Below w.heap.size w w4) := hB.out.trans (hb4.mono hB.out.size)
      clear hb4 hv4
      go_wp2_with fail
      refine (R_first_any a n cap l h2 _ (by omega) (HS.out.below HB4.out)).mono ?_
      rintro e w5 ⟨rfl, hb5⟩
      rw [HF2.out]
      have HB5 : Hid (Below w.heap.size w w5) := HB4.out.trans (hb5.mono HB4.out.size)
      clear hb5
      go_wp2_with fail
      go_roundw
      case rel => exact ⟨nx, nx2, h2, fd2, hc3, rfl, rfl, rfl, rfl, HF2.out, HC2.out, HB5.out⟩
      case measure => simp [intOf]; omega
    | false =>
      obtain ⟨z1, z2⟩ := cq_none HO.out hF.out hC.out
      by_cases h0 : h = 0
      · have e1 := (z1 h0).1
        have e2 := (z1 h0).2
        have ht : t0 = 0 := by rw [← HT0.out, e1]
        subst ht
        have hz : ((h : Int) == 0) = true := by simp; omega
        have HE2 := Lib.hid e2
        clear z1 z2 e1 e2 h0 hF hC
        go_wp2_with fail
        go_ret3
        refine ⟨_, rfl, by rw [HE2.out]; exact SlV.nil _, hB.out⟩
      · have ht : t0 = t := by rw [← HT0.out]; exact z2 h0
        subst ht
        have hz : ((h : Int) == 0) = false := by simp; omega
        clear z1 z2 h0 hF hC
        go_wp2_with fail
        refine (R_on_any a n cap l t0 _ (by omega) (HS.out.below hB.out)).mono ?_
        rintro e w4 ⟨v4, rfl, hv4, hb4⟩
        have HB4 : Hid (Below w.heap.size w w4) := hB.out.trans (hb4.mono hB.out.size)
        have HV4 := Lib.hid hv4.sl
        clear hb4 hv4
        go_wp2_with fail
        go_ret3
        exact ⟨_, rfl, HV4.out, HB4.out⟩

set_option maxRecDepth 100000 in
set_option maxHeartbeats 1600000 in
theorem R_Fits_arg (a : Option Addr) (n cap : Nat) (rooms : Int) (w : World) (hr : rooms < 0 ∨ 400 < rooms) :
    Calls Try.prog 17 #[.slice a n cap, .int .i64 rooms] w fun e w' => e = .returned (.tuple #[.slice none 0 0, .slice none 0 0, .int .i64 1]) ∧ Below w.heap.size w w' := by
  by_cases h0 : rooms < 0
  · go_enter Try.func17, Try.ntmps17
    go_wp2_with fail
    go_ret3
    refine ⟨rfl, ?_⟩
    (repeat' (first | (with_reducible exact Below.refl _ _) | (with_reducible assumption) | (with_reducible exact Bw.out (by with_reducible assumption)) | (with_reducible refine bw_alloc ?_ _) | (with_reducible refine bw_step ?_ (by with_reducible assumption)) | (with_reducible refine Below.alloc ?_ ?_ _) | (with_reducible refine Below.drew ?_) | (with_reducible refine below_drewN ?_ _) | (with_reducible refine Below.setCell ?_ ?_ _) | (with_reducible refine below_step ?_ (by with_reducible assumption) ?_) | (with_reducible exact Nat.le_refl _) | omega | (simp; omega) | (simp; done)))
  · have h1 : 400 < rooms := by omega
    go_enter Try.func17, Try.ntmps17
    go_wp2_with fail
    go_ret3
    refine ⟨rfl, ?_⟩
    (repeat' (first | (with_reducible exact Below.refl _ _) | (with_reducible assumption) | (with_reducible exact Bw.out (by with_reducible assumption)) | (with_reducible refine bw_alloc ?_ _) | (with_reducible refine bw_step ?_ (by with_reducible assumption)) | (with_reducible refine Below.alloc ?_ ?_ _) | (with_reducible refine Below.drew ?_) | (with_reducible refine below_drewN ?_ _) | (with_reducible refine Below.setCell ?_ ?_ _) | (with_reducible refine below_step ?_ (by with_reducible assumption) ?_) | (with_reducible exact Nat.le_refl _) | omega | (simp; omega) | (simp; done)))

set_option maxRecDepth 100000 in
set_option maxHeartbeats 1600000 in
theorem R_Fits_err (a : Option Addr) (n cap : Nat) (l : List SpV) (rooms : Int) (w : World) (hm : n ≤ 9223372036854775807) (hs : SlP w a n l) (hr0 : 0 ≤ rooms) (hr1 : rooms ≤ 400) (E : Int) (hE : chkE l = E) (h0 : E ≠ 0) :
    Calls Try.prog 17 #[.slice a n cap, .int .i64 rooms] w fun e w' => e = .returned (.tuple #[.slice none 0 0, .slice none 0 0, .int .i64 E]) ∧ Below w.heap.size w w' := by
  have HS := Lib.hid hs
  have HE := Lib.hid hE
  have h1 : (E == 0) = false := by simpa using h0
  have d0 : ¬ rooms < 0 := by omega
  have d1 : ¬ 400 < rooms := by omega
  clear hs hE
  go_enter Try.func17, Try.ntmps17
  go_wp2_with fail
  refine (R_check_any a n cap l _ (by omega) HS.out).mono ?_
  rintro e w' ⟨rfl, q, rfl⟩
  rw [HE.out]
  go_wp2_with fail
  go_ret3
  refine ⟨rfl, ?_⟩
  (repeat' (first | (with_reducible exact Below.refl _ _) | (with_reducible assumption) | (with_reducible exact Bw.out (by with_reducible assumption)) | (with_reducible refine bw_alloc ?_ _) | (with_reducible refine bw_step ?_ (by with_reducible assumption)) | (with_reducible refine Below.alloc ?_ ?_ _) | (with_reducible refine Below.drew ?_) | (with_reducible refine below_drewN ?_ _) | (with_reducible refine Below.setCell ?_ ?_ _) | (with_reducible refine below_step ?_ (by with_reducible assumption) ?_) | (with_reducible exact Nat.le_refl _) | omega | (simp; omega) | (simp; done)))

set_option maxRecDepth 100000 in
set_option maxHeartbeats 3200000 in
theorem R_Fits_nat (a : Option Addr) (n cap : Nat) (l : List SpV) (R : Nat) (rooms : Int) (w : World) (hm : n ≤ 3000) (hs : SlP w a n l) (hr0 : rooms = R) (hr1 : rooms ≤ 400) (hE : chkE l = 0) :
    Calls Try.prog 17 #[.slice a n cap, .int .i64 rooms] w fun e w' => ∃ v1 v2, e = .returned (.tuple #[v1, v2, .int .i64 0]) ∧ SlV w' v1 (fitA l rooms) ∧ SlV w' v2 (fitB l rooms) ∧ Below w.heap.size w w' := by
  have HS := Lib.hid hs
  have HE := Lib.hid hE
  have HL := Lib.hid hs.1
  have HO := Lib.hid (chkE_ok hE).1
  obtain ⟨t, fd, hf⟩ : ∃ nx fd, firL l rooms = (nx, fd) := ⟨_, _, rfl⟩
  have HFF := Lib.hid (fit_fir (chkE_ok hE).1 hf)
  have HF := Lib.hid hf
  have HR : Hid (rooms = (R : Int)) := hr0
  have d0 : ¬ rooms < 0 := by omega
  have d1 : ¬ 400 < rooms := by omega
  clear hs hE hf hr0
  go_enter Try.func17, Try.ntmps17
  go_wp2_with fail
  refine (R_check_any a n cap l _ (by omega) HS.out).mono ?_
  rintro e w1 ⟨rfl, q1, hw1⟩
  rw [HE.out]
  have HB1 : Hid (Below w.heap.size w w1) := by show Below _ _ _; rw [hw1]; exact below_drewN (Below.refl _ _) q1
  clear hw1
  go_wp2_with fail
  refine (R_first_any a n cap l rooms _ (by omega) (HS.out.below HB1.out)).mono ?_
  rintro e w2 ⟨rfl, hb2⟩
  rw [HF.out]
  have HB2 : Hid (Below w.heap.size w w2) := HB1.out.trans (hb2.mono HB1.out.size)
  clear hb2
  cases fd with
  | true =>
    obtain ⟨f1, f2, f3⟩ := HFF.out.2 rfl
    obtain ⟨C, hC⟩ : ∃ C, (onL l t).length = C := ⟨_, rfl⟩
    rw [hC] at f3
    have HA := Lib.hid f1
    have hRt : rooms.toNat = R := by have := HR.out; omega
    rw [hRt] at f2
    have HBb := Lib.hid f2
    have HCC := Lib.hid hC
    have hRC : R + 1 ≤ C := by have := HR.out; omega
    have hCn : C ≤ n := by rw [← hC, ← HL.out]; exact onK_length l t l.length
    obtain ⟨R1, hR1⟩ : ∃ R1, R + 1 = R1 := ⟨_, rfl⟩
    have hW : IntKind.i64.wrap (rooms + 1) = (R1 : Int) := by rw [IntWalk.i64_in _ (by omega)]; have := HR.out; omega
    have HR1 := Lib.hid hR1
    rw [hR1] at hRC
    clear f1 f2 f3 hC hRt hR1 HFF
    go_upto_region 8 with fail
    refine AnyJ.beginP (fun _ : World => True) (fun _ => true) (by kernel_rfl) trivial (fun hS => ?_)
    clear hS
    refine AnyJ.takeD (i := 0) (d := some 31) (v := ?_) rfl (by kernel_rfl) (by kernel_rfl) (by kernel_rfl) (by kernel_rfl) (by kernel_rfl) (fun _ _ _ h => h) (Or.inl ⟨by kernel_rfl, ?_⟩) trivial ?_
    rotate_left
    · intro w' hS
      clear hS
      go_simp
      try with_reducible rfl
    refine AnyJ.takeD (i := 1) (d := some 32) (v := ?_) rfl (by kernel_rfl) (by kernel_rfl) (by kernel_rfl) (by kernel_rfl) (by kernel_rfl) (fun _ _ _ h => h) (Or.inl ⟨by kernel_rfl, ?_⟩) trivial ?_
    rotate_left
    · intro w' hS
      clear hS
      go_simp
      try with_reducible rfl
    refine AnyJ.takeD (i := 3) (d := some 34) (v := ?_) rfl (by kernel_rfl) (by kernel_rfl) (by kernel_rfl) (by kernel_rfl) (by kernel_rfl) (fun _ _ _ h => h) (Or.inl ⟨by kernel_rfl, ?_⟩) trivial ?_
    rotate_left
    · intro w' hS
      clear hS
      go_simp
      try with_reducible rfl
    refine AnyJ.takeD (i := 4) (d := some 35) (v := ?_) rfl (by kernel_rfl) (by kernel_rfl) (by kernel_rfl) (by kernel_rfl) (by kernel_rfl) (fun _ _ _ h => h) (Or.inl ⟨by kernel_rfl, ?_⟩) trivial ?_
    rotate_left
    · intro w' hS
      clear hS
      go_simp
      try with_reducible rfl
    refine AnyJ.one (i := 2) (by kernel_rfl) rfl (fun Kz hKz => ?_)
    go_simp
    refine (R_on_any a n cap l t _ (by omega) (HS.out.below (HB2.out.trans ((Below.refl _ w2).drew.mono HB2.out.size)))).mono ?_
    rintro e w4 ⟨v4, rfl, hv4, hb4⟩
    obtain ⟨a4, c4, rfl, hw4⟩ := hv4.sl.form (m := C) HCC.out
    have HB4 : Hid (Below w.heap.size w w4) := HB2.out.trans (((Below.refl _ w2).drew.trans hb4).mono HB2.out.size)
    have hc4 : C ≤ c4 := hw4.sli.2.1
    have hRc : R1 ≤ c4 := by omega
    have hRc2 : (R1 : Int) ≤ (c4 : Int) := by omega
    have HV5 := Lib.hid (hw4.takeP HCC.out hRC)
    refine hKz _ _ (fun _ => trivial) ?_
    clear hKz Kz hv4 hw4 hb4
    refine AnyJ.takeD (i := 5) (d := some 36) (v := ?_) rfl (by kernel_rfl) (by kernel_rfl) (by kernel_rfl) (by kernel_rfl) (by kernel_rfl) (fun _ _ _ h => h) (Or.inl ⟨by kernel_rfl, ?_⟩) trivial ?_
    rotate_left
    · intro w' hS
      clear hS
      go_simp
      try with_reducible rfl
    refine AnyJ.takeD (i := 6) (d := some 4) (v := ?_) rfl (by kernel_rfl) (by kernel_rfl) (by kernel_rfl) (by kernel_rfl) (by kernel_rfl) (fun _ _ _ h => h) (Or.inl ⟨by kernel_rfl, ?_⟩) trivial ?_
    rotate_left
    · intro w' hS
      clear hS
      go_simp
      try with_reducible rfl
    refine AnyJ.takeD (i := 7) (d := some 5) (v := ?_) rfl (by kernel_rfl) (by kernel_rfl) (by kernel_rfl) (by kernel_rfl) (by kernel_rfl) (fun _ _ _ h => h) (Or.inl ⟨by kernel_rfl, ?_⟩) trivial ?_
    rotate_left
    · intro w' hS
      clear hS
      go_simp
      try with_reducible rfl
    refine AnyJ.takeD (i := 8) (d := some 6) (v := ?_) rfl (by kernel_rfl) (by kernel_rfl) (by kernel_rfl) (by kernel_rfl) (by kernel_rfl) (fun _ _ _ h => h) (Or.inl ⟨by kernel_rfl, ?_⟩) trivial ?_
    rotate_left
    · intro w' hS
      clear hS
      go_simp
      try with_reducible rfl
    refine AnyJ.done (by kernel_rfl) ?_ _
    try simp only [Act.put, List.setIfInBounds_toArray, List.set_cons_zero, List.set_cons_succ]
    go_wp2_with fail
    go_ret3
    exact ⟨_, _, rfl, by rw [HA.out]; exact SlV.nil _, by rw [HBb.out, HR1.out]; exact HV5.out, HB4.out⟩
  | false =>
    obtain ⟨f1, f2⟩ := HFF.out.1 rfl
    have HA := Lib.hid f1
    have HBb := Lib.hid f2
    clear f1 f2 HFF
    go_wp2_with fail
    refine (R_Colours_ok a n cap l _ hm (HS.out.below HB2.out) HE.out).mono ?_
    rintro e w3 ⟨v3, rfl, hv3, hb3⟩
    have HB3 : Hid (Below w.heap.size w w3) := HB2.out.trans (hb3.mono HB2.out.size)
    have HV3 := Lib.hid hv3
    obtain ⟨M, hM⟩ : ∃ M : Nat, (colE l).length = M := ⟨_, rfl⟩
    try rw [hM]
    clear hb3 hv3 hM
    go_wp2_with fail
    go_ret3
    exact ⟨_, _, rfl, by rw [HA.out]; exact HV3.out, by rw [HBb.out]; exact SlV.nil _, HB3.out⟩

end Go.Proofs.Ytbafhmlmibjgpaa
