/-
  TypesParts: all parts of an expression that has a type have one, and whatever other numbers stand in it, as long as it is well-formed, it has the same type.
  No condition: for every input (what is not few, or not well-formed, is not looked at).
-/
import Derived.Test.YtcmodmchnokmgaaTyM
import Derived.Test.YtcmodmchnokmgaaTyO
namespace Go.Proofs.Ytcmodmchnokmgaa
set_option linter.unusedSimpArgs false
set_option linter.unusedVariables false
open Go.ChangeShapes Go.WideShapes Go.ChangeAt Go.RowKit

theorem valid8_p (x : Ex) (w : World) (h : x.In w) (p : Bool) (hp : validE x = p) :
    Calls Try.prog 22 #[.agg #[.int .i64 x.op, .int .i64 x.n, .slice x.at' x.ks.length x.cap]] w fun e w' => e = .returned (.bool p) ∧ Below w.heap.size w w' := by
  subst hp; exact R_valid8 x w h
theorem infer_is {x : Ex} (hv : validE x = true) : inferV x = x.ty ∧ inferE x = if x.ty = 0 then 20 else 0 := by
  unfold inferV inferE; rw [if_pos hv, if_pos hv]; exact ⟨rfl, rfl⟩
theorem kid_type {x y : Ex} {k : Nat} (hv : validE x = true) (ht : x.ty ≠ 0) (hy : x.ks[k]? = some y) : inferV y = y.ty ∧ inferE y = 0 ∧ 1 ≤ y.ty ∧ y.ty ≤ 3 := by
  obtain ⟨e1, e2⟩ := infer_is (validE_kid hv hy)
  have h0 := ty_kid ht hy
  have hr := y.ty_range
  rw [if_neg h0] at e2
  exact ⟨e1, e2, by omega, hr.2⟩
theorem renum_p (x : Ex) (w : World) (q : Int) (h : x.In w) (hv : validE x = true) (h0 : 0 ≤ q) (h1 : q ≤ 65535) (V E : Int) (hV : inferV x = V) (hE : inferE x = E) :
    Calls Try.prog 23 #[.agg #[.int .i64 x.op, .int .i64 x.n, .slice x.at' x.ks.length x.cap], .int .i64 q] w fun e w' => ∃ z : Ex, e = .returned (.agg #[.int .i64 z.op, .int .i64 z.n, .slice z.at' z.ks.length z.cap]) ∧ z.In w' ∧ (inferV z = V ∧ inferE z = E) ∧ Below w.heap.size w w' := by
  have hd : x.depth ≤ 30 := by
    unfold validE at hv; simp only [Bool.and_eq_true, decide_eq_true_eq] at hv; exact hv.2.1
  refine (renum_all x.size x (Nat.le_refl _) w q h (validE_ok hv) h0 (by omega)).mono ?_
  rintro e w' ⟨z, rfl, hz, ha, _, hb⟩
  subst hV hE
  exact ⟨z, rfl, hz, ha.infer hv, hb⟩

set_option maxRecDepth 100000 in
set_option maxHeartbeats 6400000 in
theorem parts_walk (x : Ex) (q : Int) (_ : x.Wf) (wq : (Lit.int .u16 q).wf = true) (w : World) (hx : x.In w) :
    Calls Try.prog 4 #[x.val, .int .u16 q] w fun e w' => e = .returned (.bool true) ∧ Below w.heap.size w w' := by
  obtain ⟨q0, q1⟩ := bd_u16 wq
  have HX := Lib.hid hx
  obtain ⟨p1, hp⟩ : ∃ p, fewE x = p := ⟨_, rfl⟩
  have P1 := Lib.hid hp
  clear hp
  obtain ⟨p2, hp⟩ : ∃ p, validE x = p := ⟨_, rfl⟩
  have P2 := Lib.hid hp
  clear hp
  obtain ⟨V, hp⟩ : ∃ p, inferV x = p := ⟨_, rfl⟩
  have HV := Lib.hid hp
  clear hp
  obtain ⟨E, hp⟩ : ∃ p, inferE x = p := ⟨_, rfl⟩
  have HE := Lib.hid hp
  clear hp hx wq
  obtain ⟨ad, had⟩ : ∃ ad, x.at' = ad := ⟨_, rfl⟩
  obtain ⟨m, hm⟩ : ∃ m, x.ks.length = m := ⟨_, rfl⟩
  have HAM := Lib.hid (And.intro had hm)
  have hml : Hid (m ≤ 9223372036854775807) := by show _ ≤ _; rw [← hm]; exact HX.out.len
  have HC := fun (w : World) (h : x.In w) => R_few_p x w h p1 P1.out
  have HC8 := fun (w : World) (h : x.In w) => valid8_p x w h p2 P2.out
  have HCI := fun (w : World) (h : x.In w) => infer_p x w h V E HV.out HE.out
  have HCR := fun (w : World) (h : x.In w) (hv : validE x = true) => renum_p x w q h hv q0 q1 V E HV.out HE.out
  rw [show x.val = .agg #[.int .i64 x.op, .int .i64 x.n, .slice x.at' x.ks.length x.cap] from rfl]
  rw [had, hm] at HC HC8 HCI HCR ⊢
  have H1 := Lib.hid HC
  have H2 := Lib.hid HC8
  have H3 := Lib.hid HCI
  have H4 := Lib.hid HCR
  clear had hm HC HC8 HCI HCR
  go_enter Try.func4, Try.ntmps4
  go_wp2_with fail
  refine (head_any _).mono ?_
  rintro e w1 ⟨rfl, hb1⟩
  have R_e_1 : Row w1 (w.heap.size) [.int .i64 x.op, .int .i64 x.n, .slice ad m x.cap] := by (repeat' (first | (with_reducible assumption) | (with_reducible refine Row.new' _ _ _ (by first | rfl | (simp; done) | omega)) | (with_reducible refine Row.alloc ?_ _) | (with_reducible refine Row.drew ?_) | (with_reducible refine Row.drewN ?_ _) | (with_reducible refine Row.step ?_ (by with_reducible assumption)) | (with_reducible refine Row.set2' ?_ _ _; first | exact ⟨_, _, by with_reducible assumption⟩ | exact ⟨_, _, Row.alloc (by with_reducible assumption) _⟩ | exact ⟨_, _, Row.alloc (Row.alloc (by with_reducible assumption) _) _⟩) | (with_reducible refine Row.other ?_ (by first | omega | (simp; done) | (simp; omega)) _)))
  have c_e_0_1 := R_e_1.cell 0 rfl
  have c_e_1_1 := R_e_1.cell 1 rfl
  have c_e_2_1 := R_e_1.cell 2 rfl
  have l_e_1 := R_e_1.lt
  have HB1 : Below w.heap.size w w1 := by (repeat' (first | (with_reducible exact Below.refl _ _) | (with_reducible assumption) | (with_reducible exact Bw.out (by with_reducible assumption)) | (with_reducible refine bw_alloc ?_ _) | (with_reducible refine bw_step ?_ (by with_reducible assumption)) | (with_reducible refine Below.alloc ?_ ?_ _) | (with_reducible refine Below.drew ?_) | (with_reducible refine below_drewN ?_ _) | (with_reducible refine Below.setCell ?_ ?_ _) | (with_reducible refine below_step ?_ (by with_reducible assumption) ?_) | (with_reducible exact Nat.le_refl _) | omega | (simp; omega) | (simp; done)))
  go_wp2_with fail
  refine (H1.out _ (HX.out.step HB1)).mono ?_
  rintro e w2 ⟨rfl, hb2⟩
  have R_e_2 : Row w2 (w.heap.size) [.int .i64 x.op, .int .i64 x.n, .slice ad m x.cap] := by (repeat' (first | (with_reducible assumption) | (with_reducible refine Row.new' _ _ _ (by first | rfl | (simp; done) | omega)) | (with_reducible refine Row.alloc ?_ _) | (with_reducible refine Row.drew ?_) | (with_reducible refine Row.drewN ?_ _) | (with_reducible refine Row.step ?_ (by with_reducible assumption)) | (with_reducible refine Row.set2' ?_ _ _; first | exact ⟨_, _, by with_reducible assumption⟩ | exact ⟨_, _, Row.alloc (by with_reducible assumption) _⟩ | exact ⟨_, _, Row.alloc (Row.alloc (by with_reducible assumption) _) _⟩) | (with_reducible refine Row.other ?_ (by first | omega | (simp; done) | (simp; omega)) _)))
  have c_e_0_2 := R_e_2.cell 0 rfl
  have c_e_1_2 := R_e_2.cell 1 rfl
  have c_e_2_2 := R_e_2.cell 2 rfl
  have l_e_2 := R_e_2.lt
  have HB2 : Below w.heap.size w w2 := by (repeat' (first | (with_reducible exact Below.refl _ _) | (with_reducible assumption) | (with_reducible exact Bw.out (by with_reducible assumption)) | (with_reducible refine bw_alloc ?_ _) | (with_reducible refine bw_step ?_ (by with_reducible assumption)) | (with_reducible refine Below.alloc ?_ ?_ _) | (with_reducible refine Below.drew ?_) | (with_reducible refine below_drewN ?_ _) | (with_reducible refine Below.setCell ?_ ?_ _) | (with_reducible refine below_step ?_ (by with_reducible assumption) ?_) | (with_reducible exact Nat.le_refl _) | omega | (simp; omega) | (simp; done)))
  clear R_e_1 c_e_0_1 c_e_1_1 c_e_2_1 hb1 HB1
  cases p1 with
  | false =>
    go_wp2_with fail
    go_ret
    refine ⟨(by first | rfl | exact ret_bool (by first | rfl | (simp; done) | (simp; omega))), ?_⟩
    (repeat' (first | (with_reducible exact Below.refl _ _) | (with_reducible assumption) | (with_reducible exact Bw.out (by with_reducible assumption)) | (with_reducible refine bw_alloc ?_ _) | (with_reducible refine bw_step ?_ (by with_reducible assumption)) | (with_reducible refine Below.alloc ?_ ?_ _) | (with_reducible refine Below.drew ?_) | (with_reducible refine below_drewN ?_ _) | (with_reducible refine Below.setCell ?_ ?_ _) | (with_reducible refine below_step ?_ (by with_reducible assumption) ?_) | (with_reducible exact Nat.le_refl _) | omega | (simp; omega) | (simp; done)))
  | true =>
    go_wp2_with fail
    refine (H2.out _ (HX.out.step HB2)).mono ?_
    rintro e w3 ⟨rfl, hb3⟩
    have R_e_3 : Row w3 (w.heap.size) [.int .i64 x.op, .int .i64 x.n, .slice ad m x.cap] := by (repeat' (first | (with_reducible assumption) | (with_reducible refine Row.new' _ _ _ (by first | rfl | (simp; done) | omega)) | (with_reducible refine Row.alloc ?_ _) | (with_reducible refine Row.drew ?_) | (with_reducible refine Row.drewN ?_ _) | (with_reducible refine Row.step ?_ (by with_reducible assumption)) | (with_reducible refine Row.set2' ?_ _ _; first | exact ⟨_, _, by with_reducible assumption⟩ | exact ⟨_, _, Row.alloc (by with_reducible assumption) _⟩ | exact ⟨_, _, Row.alloc (Row.alloc (by with_reducible assumption) _) _⟩) | (with_reducible refine Row.other ?_ (by first | omega | (simp; done) | (simp; omega)) _)))
    have c_e_0_3 := R_e_3.cell 0 rfl
    have c_e_1_3 := R_e_3.cell 1 rfl
    have c_e_2_3 := R_e_3.cell 2 rfl
    have l_e_3 := R_e_3.lt
    have HB3 : Below w.heap.size w w3 := by (repeat' (first | (with_reducible exact Below.refl _ _) | (with_reducible assumption) | (with_reducible exact Bw.out (by with_reducible assumption)) | (with_reducible refine bw_alloc ?_ _) | (with_reducible refine bw_step ?_ (by with_reducible assumption)) | (with_reducible refine Below.alloc ?_ ?_ _) | (with_reducible refine Below.drew ?_) | (with_reducible refine below_drewN ?_ _) | (with_reducible refine Below.setCell ?_ ?_ _) | (with_reducible refine below_step ?_ (by with_reducible assumption) ?_) | (with_reducible exact Nat.le_refl _) | omega | (simp; omega) | (simp; done)))
    clear R_e_2 c_e_0_2 c_e_1_2 c_e_2_2 hb2 HB2
    cases p2 with
    | false =>
      go_wp2_with fail
      go_ret
      refine ⟨(by first | rfl | exact ret_bool (by first | rfl | (simp; done) | (simp; omega))), ?_⟩
      (repeat' (first | (with_reducible exact Below.refl _ _) | (with_reducible assumption) | (with_reducible exact Bw.out (by with_reducible assumption)) | (with_reducible refine bw_alloc ?_ _) | (with_reducible refine bw_step ?_ (by with_reducible assumption)) | (with_reducible refine Below.alloc ?_ ?_ _) | (with_reducible refine Below.drew ?_) | (with_reducible refine below_drewN ?_ _) | (with_reducible refine Below.setCell ?_ ?_ _) | (with_reducible refine below_step ?_ (by with_reducible assumption) ?_) | (with_reducible exact Nat.le_refl _) | omega | (simp; omega) | (simp; done)))
    | true =>
      go_wp2_with fail
      refine (H3.out _ (HX.out.step HB3)).mono ?_
      rintro e w4 ⟨rfl, hb4⟩
      have R_e_4 : Row w4 (w.heap.size) [.int .i64 x.op, .int .i64 x.n, .slice ad m x.cap] := by (repeat' (first | (with_reducible assumption) | (with_reducible refine Row.new' _ _ _ (by first | rfl | (simp; done) | omega)) | (with_reducible refine Row.alloc ?_ _) | (with_reducible refine Row.drew ?_) | (with_reducible refine Row.drewN ?_ _) | (with_reducible refine Row.step ?_ (by with_reducible assumption)) | (with_reducible refine Row.set2' ?_ _ _; first | exact ⟨_, _, by with_reducible assumption⟩ | exact ⟨_, _, Row.alloc (by with_reducible assumption) _⟩ | exact ⟨_, _, Row.alloc (Row.alloc (by with_reducible assumption) _) _⟩) | (with_reducible refine Row.other ?_ (by first | omega | (simp; done) | (simp; omega)) _)))
      have c_e_0_4 := R_e_4.cell 0 rfl
      have c_e_1_4 := R_e_4.cell 1 rfl
      have c_e_2_4 := R_e_4.cell 2 rfl
      have l_e_4 := R_e_4.lt
      have HB4 : Below w.heap.size w w4 := by (repeat' (first | (with_reducible exact Below.refl _ _) | (with_reducible assumption) | (with_reducible exact Bw.out (by with_reducible assumption)) | (with_reducible refine bw_alloc ?_ _) | (with_reducible refine bw_step ?_ (by with_reducible assumption)) | (with_reducible refine Below.alloc ?_ ?_ _) | (with_reducible refine Below.drew ?_) | (with_reducible refine below_drewN ?_ _) | (with_reducible refine Below.setCell ?_ ?_ _) | (with_reducible refine below_step ?_ (by with_reducible assumption) ?_) | (with_reducible exact Nat.le_refl _) | omega | (simp; omega) | (simp; done)))
      clear R_e_3 c_e_0_3 c_e_1_3 c_e_2_3 hb3 HB3
      by_cases h0 : x.ty = 0
      · have hv : V = 0 := by rw [← HV.out, (infer_is P2.out).1, h0]
        have he : E = 20 := by rw [← HE.out, (infer_is P2.out).2, if_pos h0]
        clear h0
        subst hv he
        go_wp2_with fail
        go_ret
        refine ⟨(by first | rfl | exact ret_bool (by first | rfl | (simp; done) | (simp; omega))), ?_⟩
        (repeat' (first | (with_reducible exact Below.refl _ _) | (with_reducible assumption) | (with_reducible exact Bw.out (by with_reducible assumption)) | (with_reducible refine bw_alloc ?_ _) | (with_reducible refine bw_step ?_ (by with_reducible assumption)) | (with_reducible refine Below.alloc ?_ ?_ _) | (with_reducible refine Below.drew ?_) | (with_reducible refine below_drewN ?_ _) | (with_reducible refine Below.setCell ?_ ?_ _) | (with_reducible refine below_step ?_ (by with_reducible assumption) ?_) | (with_reducible exact Nat.le_refl _) | omega | (simp; omega) | (simp; done)))
      · have he : E = 0 := by rw [← HE.out, (infer_is P2.out).2, if_neg h0]
        have H0 := Lib.hid h0
        clear h0
        subst he
        have hm2 := hml.out
        go_wp2_with fail
        go_loopw [9, 10, 11, 44] (fun _ _ _ i wr => ∃ (k : Nat), k ≤ m ∧ i = .int .i64 k ∧ Hid (Below w4.heap.size w4 wr)) (fun _ _ _ i _ => m - (intOf i).toNat)
        case atStart => exact ⟨0, Nat.zero_le _, rfl, Below.refl _ _⟩
        case round =>
          obtain ⟨k, hk, rfl, hB⟩ := hrel
          have hBw : Hid (Below w.heap.size w wr) := HB4.trans (hB.out.mono HB4.size)
          by_cases hkm : k < m
          · obtain ⟨y, b, off, hy, hyin, e, hlb, c0, c1, c2⟩ := HX.out.kidAt hBw.out (k := k) (by have := HAM.out.2; omega)
            have hh := HAM.out.1
            rw [e] at hh
            subst hh
            obtain ⟨t1, t2, t3, t4⟩ := kid_type P2.out H0.out hy.out
            obtain ⟨t, ht⟩ : ∃ t, y.ty = t := ⟨_, rfl⟩
            rw [ht] at t1 t3 t4
            have T1 := Lib.hid t1
            have T2 := Lib.hid t2
            have HYI := Lib.hid (hyin.step hBw.out)
            clear ht t1 t2 hyin e
            go_wp2_with fail
            refine (infer_p y _ (HYI.out.step ((Below.refl _ _).alloc (Nat.le_refl _) _)) t 0 T1.out T2.out).mono ?_
            rintro e w5 ⟨rfl, hb5⟩
            have HB5 : Hid (Below w4.heap.size w4 w5) := by
              have h1 : Below wr.heap.size wr w5 := ((Below.refl _ wr).alloc (Nat.le_refl _) _).trans (hb5.mono (by simp))
              exact hB.out.trans (h1.mono hB.out.size)
            clear hb5
            go_wp2_with fail
            go_roundw
            case rel => exact ⟨k + 1, by omega, by go_num, HB5.out⟩
            case measure => simp [intOf]; omega
          · obtain rfl : m = k := by omega
            obtain ⟨w5, hw5⟩ : ∃ wd, wd = wr := ⟨_, rfl⟩
            subst hw5
            have hb5 := hB.out
            have R_e_5 : Row w5 (w.heap.size) [.int .i64 x.op, .int .i64 x.n, .slice ad m x.cap] := by (repeat' (first | (with_reducible assumption) | (with_reducible refine Row.new' _ _ _ (by first | rfl | (simp; done) | omega)) | (with_reducible refine Row.alloc ?_ _) | (with_reducible refine Row.drew ?_) | (with_reducible refine Row.drewN ?_ _) | (with_reducible refine Row.step ?_ (by with_reducible assumption)) | (with_reducible refine Row.set2' ?_ _ _; first | exact ⟨_, _, by with_reducible assumption⟩ | exact ⟨_, _, Row.alloc (by with_reducible assumption) _⟩ | exact ⟨_, _, Row.alloc (Row.alloc (by with_reducible assumption) _) _⟩) | (with_reducible refine Row.other ?_ (by first | omega | (simp; done) | (simp; omega)) _)))
            have c_e_0_5 := R_e_5.cell 0 rfl
            have c_e_1_5 := R_e_5.cell 1 rfl
            have c_e_2_5 := R_e_5.cell 2 rfl
            have l_e_5 := R_e_5.lt
            have HB5 : Below w.heap.size w w5 := by (repeat' (first | (with_reducible exact Below.refl _ _) | (with_reducible assumption) | (with_reducible exact Bw.out (by with_reducible assumption)) | (with_reducible refine bw_alloc ?_ _) | (with_reducible refine bw_step ?_ (by with_reducible assumption)) | (with_reducible refine Below.alloc ?_ ?_ _) | (with_reducible refine Below.drew ?_) | (with_reducible refine below_drewN ?_ _) | (with_reducible refine Below.setCell ?_ ?_ _) | (with_reducible refine below_step ?_ (by with_reducible assumption) ?_) | (with_reducible exact Nat.le_refl _) | omega | (simp; omega) | (simp; done)))
            clear R_e_4 c_e_0_4 c_e_1_4 c_e_2_4 hb4 HB4
            go_wp2_with fail
            refine (H4.out _ (HX.out.step HB5) P2.out).mono ?_
            rintro e w6 ⟨z, rfl, hz, hzi, hb6⟩
            have R_e_6 : Row w6 (w.heap.size) [.int .i64 x.op, .int .i64 x.n, .slice ad m x.cap] := by (repeat' (first | (with_reducible assumption) | (with_reducible refine Row.new' _ _ _ (by first | rfl | (simp; done) | omega)) | (with_reducible refine Row.alloc ?_ _) | (with_reducible refine Row.drew ?_) | (with_reducible refine Row.drewN ?_ _) | (with_reducible refine Row.step ?_ (by with_reducible assumption)) | (with_reducible refine Row.set2' ?_ _ _; first | exact ⟨_, _, by with_reducible assumption⟩ | exact ⟨_, _, Row.alloc (by with_reducible assumption) _⟩ | exact ⟨_, _, Row.alloc (Row.alloc (by with_reducible assumption) _) _⟩) | (with_reducible refine Row.other ?_ (by first | omega | (simp; done) | (simp; omega)) _)))
            have c_e_0_6 := R_e_6.cell 0 rfl
            have c_e_1_6 := R_e_6.cell 1 rfl
            have c_e_2_6 := R_e_6.cell 2 rfl
            have l_e_6 := R_e_6.lt
            have HB6 : Below w.heap.size w w6 := by (repeat' (first | (with_reducible exact Below.refl _ _) | (with_reducible assumption) | (with_reducible exact Bw.out (by with_reducible assumption)) | (with_reducible refine bw_alloc ?_ _) | (with_reducible refine bw_step ?_ (by with_reducible assumption)) | (with_reducible refine Below.alloc ?_ ?_ _) | (with_reducible refine Below.drew ?_) | (with_reducible refine below_drewN ?_ _) | (with_reducible refine Below.setCell ?_ ?_ _) | (with_reducible refine below_step ?_ (by with_reducible assumption) ?_) | (with_reducible exact Nat.le_refl _) | omega | (simp; omega) | (simp; done)))
            clear R_e_5 c_e_0_5 c_e_1_5 c_e_2_5 hb5 HB5
            have HZ := Lib.hid hz
            have HZI := Lib.hid hzi
            clear hz hzi
            go_wp2_with fail
            refine (infer_p z _ (HZ.out.step ((Below.refl _ _).alloc (Nat.le_refl _) _)) V 0 HZI.out.1 HZI.out.2).mono ?_
            rintro e w7 ⟨rfl, hb7⟩
            have R_e_7 : Row w7 (w.heap.size) [.int .i64 x.op, .int .i64 x.n, .slice ad m x.cap] := by (repeat' (first | (with_reducible assumption) | (with_reducible refine Row.new' _ _ _ (by first | rfl | (simp; done) | omega)) | (with_reducible refine Row.alloc ?_ _) | (with_reducible refine Row.drew ?_) | (with_reducible refine Row.drewN ?_ _) | (with_reducible refine Row.step ?_ (by with_reducible assumption)) | (with_reducible refine Row.set2' ?_ _ _; first | exact ⟨_, _, by with_reducible assumption⟩ | exact ⟨_, _, Row.alloc (by with_reducible assumption) _⟩ | exact ⟨_, _, Row.alloc (Row.alloc (by with_reducible assumption) _) _⟩) | (with_reducible refine Row.other ?_ (by first | omega | (simp; done) | (simp; omega)) _)))
            have c_e_0_7 := R_e_7.cell 0 rfl
            have c_e_1_7 := R_e_7.cell 1 rfl
            have c_e_2_7 := R_e_7.cell 2 rfl
            have l_e_7 := R_e_7.lt
            have HB7 : Below w.heap.size w w7 := by (repeat' (first | (with_reducible exact Below.refl _ _) | (with_reducible assumption) | (with_reducible exact Bw.out (by with_reducible assumption)) | (with_reducible refine bw_alloc ?_ _) | (with_reducible refine bw_step ?_ (by with_reducible assumption)) | (with_reducible refine Below.alloc ?_ ?_ _) | (with_reducible refine Below.drew ?_) | (with_reducible refine below_drewN ?_ _) | (with_reducible refine Below.setCell ?_ ?_ _) | (with_reducible refine below_step ?_ (by with_reducible assumption) ?_) | (with_reducible exact Nat.le_refl _) | omega | (simp; omega) | (simp; done)))
            clear R_e_6 c_e_0_6 c_e_1_6 c_e_2_6 hb6 HB6
            go_wp2_with fail
            go_ret
            refine ⟨(by first | rfl | exact ret_bool (by first | rfl | (simp; done) | (simp; omega))), ?_⟩
            (repeat' (first | (with_reducible exact Below.refl _ _) | (with_reducible assumption) | (with_reducible exact Bw.out (by with_reducible assumption)) | (with_reducible refine bw_alloc ?_ _) | (with_reducible refine bw_step ?_ (by with_reducible assumption)) | (with_reducible refine Below.alloc ?_ ?_ _) | (with_reducible refine Below.drew ?_) | (with_reducible refine below_drewN ?_ _) | (with_reducible refine Below.setCell ?_ ?_ _) | (with_reducible refine below_step ?_ (by with_reducible assumption) ?_) | (with_reducible exact Nat.le_refl _) | omega | (simp; omega) | (simp; done)))


set_option maxRecDepth 100000 in
theorem typesParts_lifted (os : Os) (started : os.Started) (H : Type) (enc : TypeId × Value → H) :
    ReturnsInHanded {} Try.checked os 4 .any (Rows.typesPartsSpec.pre6 enc Try.prog Try.f4 Rows.typesPartsRow.domain false) (Rows.typesPartsSpec.post enc Try.prog Try.f4 false true false false) := by
  refine returnsInHanded_of_change (C := Try.checked) own started (by kernel_rfl) Try.func4
    (ChangeSpec.witness6 (enc := enc) (C := Try.checked) false ⟨#[], #[.agg #[.int .i64 0, .int .i64 0, .slice none 0 0], .int .u16 0], []⟩ 8 (by kernel_rfl) (by kernel_rfl) (by kernel_rfl) (by kernel_rfl)) ?_
  intro W base args ds gs before hval0 hW _ _
  have hval : ∀ (j : Nat) t v, Try.f4.params[j]? = some t → args[j]? = some v → Value.okWide Try.prog W .any base t v := hval0
  have hW' := hW
  obtain ⟨p, q, hA0, hV, rfl, hfz, hnd⟩ := hW
  obtain ⟨rfl, rfl⟩ := trodVars_none hV
  have hA : DataW.TrodAll enc Try.prog W 0 (fun _ => true) true Try.f4.params.toList args.toList ds p := hA0
  rw [Try.params4] at hA hval
  obtain ⟨v0, vs0, d0, ds0, p0, q0, hargs, rfl, rfl, h0, r0⟩ := trodAll_cons hA
  obtain ⟨v1, vs1, d1, ds1, p1, q1, rfl, rfl, rfl, h1, r1⟩ := trodAll_cons r0
  obtain ⟨rfl, rfl, rfl⟩ := trodAll_nil r1
  obtain rfl : args = #[v0, v1] := by cases args; simp_all
  obtain ⟨x, rfl, hs_x, wf_x⟩ := expr_arg (hval 0 24 v0 rfl rfl) h0
  obtain ⟨q, rfl, rfl, rfl, wq⟩ := open_int Try.underlying41 (hval 1 41 v1 rfl rfl) h1
  clear hA0 hval0
  refine (parts_walk x q wf_x wq W hs_x).mono fun e W' ⟨he, hb⟩ => ?_
  subst he
  exact ⟨_, rfl, law_post (B := 4) laidOut (by rw [Try.params4]; simp only [List.mem_cons, List.not_mem_nil, or_false, forall_eq_or_imp, forall_eq]; first | exact readable_typesParts | (repeat' apply And.intro) <;> first | exact of_decide_eq_true (by kernel_rfl) | kernel_rfl) rfl Try.underlying4 rfl rfl hW' hb⟩

theorem typesParts_over : Rows.typesPartsRow.holds Try.pinned (OpenSpec.ofChange Rows.typesPartsSpec) :=
  OpenClaim.holds_of_wide 4 Try.f4 rfl rfl rfl rfl rfl rfl rfl ⟨rfl, rfl, rfl, rfl, rfl⟩ rfl rfl rfl rfl rfl (by kernel_rfl) Try.func4 (by kernel_rfl)
    (of_decide_eq_true (by kernel_rfl)) (by unfold Func.isWrapper; first | (rw [if_pos (by decide +kernel)]; kernel_rfl) | (rw [if_neg (by decide +kernel)]; exact ⟨rfl, rfl⟩))
    (fun os started H enc _ => typesParts_lifted os started H enc)

theorem typesParts_holds : Rows.TypesPartsSaid := typesParts_over
#print axioms typesParts_holds

end Go.Proofs.Ytcmodmchnokmgaa
