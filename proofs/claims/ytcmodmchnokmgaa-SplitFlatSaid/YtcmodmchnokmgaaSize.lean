/-
 The walks: the reference's Size, Valid of layer 8; left, FewExpr of layer 10.
-/
import Derived.Test.YtcmodmchnokmgaaFits
namespace Go.Proofs.Ytcmodmchnokmgaa
set_option linter.unusedSimpArgs false
set_option linter.unusedVariables false
open Go.RowKit
theorem sizeV_no {x : Ex} {lv : Nat} {left : Int} (h : fitsE x lv left = false) : sizeV x lv left = -1 := by unfold sizeV; rw [if_neg (by simp [h])]
theorem sizeV_yes {x : Ex} {lv : Nat} {left : Int} (h : fitsE x lv left = true) : sizeV x lv left = left - x.size := by unfold sizeV; rw [if_pos h]
set_option maxRecDepth 100000 in
set_option maxHeartbeats 4000000 in
theorem R_size_all : ∀ (N : Nat) (x : Ex), x.size ≤ N → ∀ (w : World), x.In w → ∀ (lv left : Int), 0 ≤ lv → lv ≤ 30 → 0 ≤ left → left ≤ 200 →
  Calls Try.prog 47 #[x.val, .int .i64 lv, .int .i64 left] w fun e w' => e = .returned (.int .i64 (sizeV x lv.toNat left)) ∧ Below w.heap.size w w' := by
 intro N
 induction N with
 | zero => intro x hx; have := x.size_pos; omega
 | succ N ih =>
  intro x hx w hin lv left hl0 hl1 h0 h1
  have HIN := Lib.hid hin
  have HX := Lib.hid hx
  have HF := Lib.hid (fitsE_eq x lv.toNat left)
  obtain ⟨R, hRR⟩ : ∃ R, sizeV x lv.toNat left = R := ⟨_, rfl⟩
  have HRR := Lib.hid hRR
  have HCAP := Lib.hid hin.len
  rw [hRR]
  clear hRR hin hx
  obtain ⟨op, hop⟩ : ∃ op, x.op = op := ⟨_, rfl⟩
  obtain ⟨n, hn⟩ : ∃ n, x.n = n := ⟨_, rfl⟩
  obtain ⟨ad, had⟩ : ∃ ad, x.at' = ad := ⟨_, rfl⟩
  obtain ⟨m, hm⟩ : ∃ m, x.ks.length = m := ⟨_, rfl⟩
  obtain ⟨cap, hcap⟩ : ∃ cap, x.cap = cap := ⟨_, rfl⟩
  rw [show x.val = .agg #[.int .i64 x.op, .int .i64 x.n, .slice x.at' x.ks.length x.cap] from rfl, hop, hn, had, hm, hcap]
  have hmb : m ≤ 9223372036854775807 := by rw [← hm]; exact HCAP.out
  have HE := Lib.hid (And.intro hop (And.intro hn (And.intro had hm)))
  clear hop hn had hm hcap HCAP
  obtain ⟨nb, hnb⟩ : ∃ nb, nodeB op n m = nb := ⟨_, rfl⟩
  have HNB := Lib.hid hnb
  clear hnb
  go_enter Try.func47, Try.ntmps47
  go_wp2_with fail
  refine (q_node op n ad m cap _).mono ?_
  rintro e w1 ⟨rfl, hb1⟩
  have R_e_1 : Row w1 (w.heap.size) [.int .i64 op, .int .i64 n, .slice ad m cap] := by (repeat' (first | (with_reducible assumption) | (with_reducible refine Row.new' _ _ _ (by first | rfl | (simp; done) | omega)) | (with_reducible first | refine Row.alloc ?_ _ | refine Row.drew ?_ | refine Row.step ?_ (by assumption) | refine Row.drewN ?_ _) | (with_reducible refine Row.set2' ?_ _ _; first | exact ⟨_, _, by assumption⟩ | exact ⟨_, _, Row.alloc (by assumption) _⟩) | (with_reducible refine Row.other ?_ (by first | omega | (simp; omega)) _)))
  have c_e_0_1 := R_e_1.cell 0 rfl
  have c_e_1_1 := R_e_1.cell 1 rfl
  have c_e_2_1 := R_e_1.cell 2 rfl
  have l_e_1 := R_e_1.lt
  have HB1 : Below w.heap.size w w1 := by (repeat' (first | (with_reducible first | exact Below.refl _ _ | assumption | exact Bw.out (by assumption) | refine bw_alloc ?_ _ | refine bw_step ?_ (by assumption) | refine Below.alloc ?_ ?_ _ | refine Below.drew ?_ | refine below_drewN ?_ _ | refine Below.setCell ?_ ?_ _ | refine below_step ?_ (by assumption) ?_ | exact Nat.le_refl _) | omega | (simp; omega) | (simp; done)))
  rw [HNB.out]
  cases nb with
  | false =>
   have hr : R = -1 := by rw [← HRR.out]; exact sizeV_no (by rw [HF.out, HE.out.1, HE.out.2.1, HE.out.2.2.2, HNB.out]; simp)
   subst hr
   go_wp2_with fail
   go_ret
   refine ⟨(by first | rfl | exact ret_bool (by first | rfl | (simp; done) | (simp; omega))), ?_⟩
   (repeat' (first | (with_reducible first | exact Below.refl _ _ | assumption | exact Bw.out (by assumption) | refine bw_alloc ?_ _ | refine bw_step ?_ (by assumption) | refine Below.alloc ?_ ?_ _ | refine Below.drew ?_ | refine below_drewN ?_ _ | refine Below.setCell ?_ ?_ _ | refine below_step ?_ (by assumption) ?_ | exact Nat.le_refl _) | omega | (simp; omega) | (simp; done)))
  | true =>
   by_cases hlv : lv < 1
   ·
    have hr : R = -1 := by rw [← HRR.out]; exact sizeV_no (by rw [HF.out]; simp; intro _ h; omega)
    subst hr
    go_wp2_with fail
    go_ret
    refine ⟨(by first | rfl | exact ret_bool (by first | rfl | (simp; done) | (simp; omega))), ?_⟩
    (repeat' (first | (with_reducible first | exact Below.refl _ _ | assumption | exact Bw.out (by assumption) | refine bw_alloc ?_ _ | refine bw_step ?_ (by assumption) | refine Below.alloc ?_ ?_ _ | refine Below.drew ?_ | refine below_drewN ?_ _ | refine Below.setCell ?_ ?_ _ | refine below_step ?_ (by assumption) ?_ | exact Nat.le_refl _) | omega | (simp; omega) | (simp; done)))
   by_cases hle : left < 1
   ·
    have hr : R = -1 := by rw [← HRR.out]; exact sizeV_no (by rw [HF.out]; simp; intro _ _ h; omega)
    subst hr
    go_wp2_with fail
    go_ret
    refine ⟨(by first | rfl | exact ret_bool (by first | rfl | (simp; done) | (simp; omega))), ?_⟩
    (repeat' (first | (with_reducible first | exact Below.refl _ _ | assumption | exact Bw.out (by assumption) | refine bw_alloc ?_ _ | refine bw_step ?_ (by assumption) | refine Below.alloc ?_ ?_ _ | refine Below.drew ?_ | refine below_drewN ?_ _ | refine Below.setCell ?_ ?_ _ | refine below_step ?_ (by assumption) ?_ | exact Nat.le_refl _) | omega | (simp; omega) | (simp; done)))
   have HRL : Hid (fitsE x lv.toNat left = fitsL x.ks (lv - 1).toNat (left - 1)) := by
    show _ = _
    rw [HF.out, HE.out.1, HE.out.2.1, HE.out.2.2.2, HNB.out]
    have a1 : decide (1 ≤ lv.toNat) = true := by simp; omega
    have a2 : decide (1 ≤ left) = true := by simp; omega
    rw [a1, a2, show lv.toNat - 1 = (lv - 1).toNat by omega]
    simp
   have HS : Hid ((x.size : Int) = 1 + szL x.ks) := by show _ = _; rw [x.size_eq]; simp
   go_wp2_with fail
   go_loopw [8, 9] (fun l i wr => ∃ k : Nat, k ≤ m ∧ i = .int .i64 k ∧ l = .int .i64 (left - 1 - szL (x.ks.take k)) ∧ Hid (fitsL (x.ks.take k) (lv - 1).toNat (left - 1) = true) ∧ Hid (Below w.heap.size w wr) ∧ Hid (Row wr w.heap.size [.int .i64 op, .int .i64 n, .slice ad m cap])) (fun _ i _ => m - (intOf i).toNat)
   case atStart => exact ⟨0, Nat.zero_le _, rfl, by rw [List.take_zero]; simp [szL], by show _ = _; rw [List.take_zero]; exact fitsL_nil (by omega), HB1, R_e_1⟩
   case round =>
    obtain ⟨k, hk, rfl, hlq, hfk, hB, hRk⟩ := hrel
    obtain ⟨q, hq⟩ : ∃ q, left - 1 - (szL (x.ks.take k) : Int) = q := ⟨_, rfl⟩
    rw [hq] at hlq
    subst hlq
    have hm := HE.out.2.2.2
    have hqb : 0 ≤ q ∧ q ≤ 200 := by
     have := fitsL_left hfk.out
     omega
    have cE := hRk.out.cell 2 rfl
    have lE := hRk.out.lt
    have HQ := Lib.hid hq
    clear hq
    by_cases hkm : k < m
    ·
     obtain ⟨y, b, off, hy, hyin, e, hlb, c0, c1, c2⟩ := HIN.out.kidAt hB.out (k := k) (by omega)
     have hh := HE.out.2.2.1
     rw [e] at hh
     subst hh
     have hys : y.size ≤ N := by
      have := szL_mem hy.out
      have h2 := HX.out
      rw [x.size_eq] at h2
      omega
     have HYS := Lib.hid hys
     have HYI := Lib.hid (hyin.step hB.out)
     obtain ⟨r, hr⟩ : ∃ r, fitsE y (lv - 1).toNat q = r := ⟨_, rfl⟩
     have HR2 := Lib.hid hr
     clear hm hys hyin hr e
     go_wp2_with fail
     refine (ih y HYS.out _ HYI.out (lv - 1) q (by omega) (by omega) hqb.1 hqb.2).mono ?_
     rintro e w2 ⟨rfl, hb2⟩
     have HB2 : Hid (Below w.heap.size w w2) := hB.out.trans (hb2.mono hB.out.size)
     have HR3 : Hid (Row w2 w.heap.size [.int .i64 op, .int .i64 n, .slice (some ⟨b, off, none⟩) m cap]) := hRk.out.step hb2
     clear hb2
     cases r with
     | false =>
      rw [sizeV_no HR2.out]
      have hr : R = -1 := by rw [← HRR.out]; exact sizeV_no (by rw [HRL.out]; exact fitsL_no hy.out (by rw [HQ.out]; exact HR2.out))
      subst hr
      go_wp2_with fail
      go_ret
      exact ⟨rfl, HB2.out⟩
     | true =>
      rw [sizeV_yes HR2.out]
      obtain ⟨p, hp⟩ : ∃ p, q - (y.size : Int) = p := ⟨_, rfl⟩
      have hp0 : 0 ≤ p := by
       have := fitsE_left HR2.out
       omega
      have hpn : ¬ p < 0 := by omega
      rw [hp]
      have HP := Lib.hid hp
      clear hp
      go_wp2_with fail
      go_roundw
      case rel => exact ⟨k + 1, by omega, by go_num, by
       rw [szL_take hy.out, ← HP.out, ← HQ.out]; congr 1; simp; omega, by show _ = _; rw [fitsL_take hy.out, hfk.out, HQ.out, HR2.out]; rfl, HB2, HR3⟩
      case measure => simp [intOf]; omega
    ·
     obtain rfl : k = m := by omega
     have hr : R = q := by
      rw [← HRR.out, sizeV_yes (by rw [HRL.out]; rw [List.take_of_length_le (by omega)] at hfk; exact hfk.out), HS.out, ← HQ.out, List.take_of_length_le (by omega)]
      omega
     subst hr
     clear hm
     go_wp2_with fail
     go_ret
     exact ⟨rfl, hB.out⟩
set_option maxHeartbeats 1600000 in
theorem R_valid8 (x : Ex) (w : World) (h : x.In w) :
  Calls Try.prog 22 #[x.val] w fun e w' => e = .returned (.bool (validE x)) ∧ Below w.heap.size w w' := by
 have HIN := Lib.hid h
 have hxv : x.val = .agg #[.int .i64 x.op, .int .i64 x.n, .slice x.at' x.ks.length x.cap] := rfl
 clear h
 rw [hxv]
 obtain ⟨q, hq⟩ : ∃ q, sizeV x (30 : Int).toNat 200 = q := ⟨_, rfl⟩
 have hv : validE x = decide (0 ≤ q) := by
  rw [validE_fits, ← hq]
  show _ = decide (0 ≤ sizeV x 30 200)
  unfold sizeV
  cases hf : fitsE x 30 200 with
  | true => have := fitsE_left hf; simp; omega
  | false => simp
 rw [hv]
 have HQ := Lib.hid hq
 clear hq hv
 go_enter Try.func22, Try.ntmps22
 go_wp2_with fail
 refine (R_size_all x.size x (Nat.le_refl _) _ (HIN.out.step (by (repeat' (first | (with_reducible first | exact Below.refl _ _ | assumption | exact Bw.out (by assumption) | refine bw_alloc ?_ _ | refine bw_step ?_ (by assumption) | refine Below.alloc ?_ ?_ _ | refine Below.drew ?_ | refine below_drewN ?_ _ | refine Below.setCell ?_ ?_ _ | refine below_step ?_ (by assumption) ?_ | exact Nat.le_refl _) | omega | (simp; omega) | (simp; done))))) 30 200 (by omega) (by omega) (by omega) (by omega)).mono ?_
 rintro e w1 ⟨rfl, hb1⟩
 have R_e_1 : Row w1 (w.heap.size) [.int .i64 x.op, .int .i64 x.n, .slice x.at' x.ks.length x.cap] := by (repeat' (first | (with_reducible assumption) | (with_reducible refine Row.new' _ _ _ (by first | rfl | (simp; done) | omega)) | (with_reducible first | refine Row.alloc ?_ _ | refine Row.drew ?_ | refine Row.step ?_ (by assumption) | refine Row.drewN ?_ _) | (with_reducible refine Row.set2' ?_ _ _; first | exact ⟨_, _, by assumption⟩ | exact ⟨_, _, Row.alloc (by assumption) _⟩) | (with_reducible refine Row.other ?_ (by first | omega | (simp; omega)) _)))
 have c_e_0_1 := R_e_1.cell 0 rfl
 have c_e_1_1 := R_e_1.cell 1 rfl
 have c_e_2_1 := R_e_1.cell 2 rfl
 have l_e_1 := R_e_1.lt
 have HB1 : Below w.heap.size w w1 := by (repeat' (first | (with_reducible first | exact Below.refl _ _ | assumption | exact Bw.out (by assumption) | refine bw_alloc ?_ _ | refine bw_step ?_ (by assumption) | refine Below.alloc ?_ ?_ _ | refine Below.drew ?_ | refine below_drewN ?_ _ | refine Below.setCell ?_ ?_ _ | refine below_step ?_ (by assumption) ?_ | exact Nat.le_refl _) | omega | (simp; omega) | (simp; done)))
 rw [HQ.out]
 go_wp2_with fail
 go_ret
 refine ⟨(by first | rfl | exact ret_bool (by first | rfl | (simp; done) | (simp; omega))), ?_⟩
 (repeat' (first | (with_reducible first | exact Below.refl _ _ | assumption | exact Bw.out (by assumption) | refine bw_alloc ?_ _ | refine bw_step ?_ (by assumption) | refine Below.alloc ?_ ?_ _ | refine Below.drew ?_ | refine below_drewN ?_ _ | refine Below.setCell ?_ ?_ _ | refine below_step ?_ (by assumption) ?_ | exact Nat.le_refl _) | omega | (simp; omega) | (simp; done)))
theorem leftV_no {x : Ex} {most : Int} (h : ¬ (x.size : Int) ≤ most) : leftV x most = -1 := by unfold leftV; rw [if_neg h]
theorem leftV_yes {x : Ex} {most : Int} (h : (x.size : Int) ≤ most) : leftV x most = most - x.size := by unfold leftV; rw [if_pos h]
theorem szL_take_le (l : List Ex) (k : Nat) : szL (l.take k) ≤ szL l := by
 conv => rhs; rw [← List.take_append_drop k l, szL_append]
 omega
set_option maxRecDepth 100000 in
set_option maxHeartbeats 4000000 in
theorem R_left_all : ∀ (N : Nat) (x : Ex), x.size ≤ N → ∀ (w : World), x.In w → ∀ (left : Int), 0 ≤ left → left ≤ 300 →
  Calls Try.prog 39 #[x.val, .int .i64 left] w fun e w' => e = .returned (.int .i64 (leftV x left)) ∧ Below w.heap.size w w' := by
 intro N
 induction N with
 | zero => intro x hx; have := x.size_pos; omega
 | succ N ih =>
  intro x hx w hin left h0 h1
  have HIN := Lib.hid hin
  have HX := Lib.hid hx
  obtain ⟨R, hRR⟩ : ∃ R, leftV x left = R := ⟨_, rfl⟩
  have HRR := Lib.hid hRR
  have HCAP := Lib.hid hin.len
  have HS : Hid ((x.size : Int) = 1 + szL x.ks) := by show _ = _; rw [x.size_eq]; simp
  rw [hRR]
  clear hRR hin hx
  obtain ⟨op, hop⟩ : ∃ op, x.op = op := ⟨_, rfl⟩
  obtain ⟨n, hn⟩ : ∃ n, x.n = n := ⟨_, rfl⟩
  obtain ⟨ad, had⟩ : ∃ ad, x.at' = ad := ⟨_, rfl⟩
  obtain ⟨m, hm⟩ : ∃ m, x.ks.length = m := ⟨_, rfl⟩
  obtain ⟨cap, hcap⟩ : ∃ cap, x.cap = cap := ⟨_, rfl⟩
  rw [show x.val = .agg #[.int .i64 x.op, .int .i64 x.n, .slice x.at' x.ks.length x.cap] from rfl, hop, hn, had, hm, hcap]
  have hmb : m ≤ 9223372036854775807 := by rw [← hm]; exact HCAP.out
  have HE := Lib.hid (And.intro hop (And.intro hn (And.intro had hm)))
  clear hop hn had hm hcap HCAP
  by_cases hle : left < 1
  ·
   have hr : R = -1 := by rw [← HRR.out]; exact leftV_no (by rw [HS.out]; omega)
   subst hr
   go_enter Try.func39, Try.ntmps39
   go_wp2_with fail
   go_ret
   refine ⟨(by first | rfl | exact ret_bool (by first | rfl | (simp; done) | (simp; omega))), ?_⟩
   (repeat' (first | (with_reducible first | exact Below.refl _ _ | assumption | exact Bw.out (by assumption) | refine bw_alloc ?_ _ | refine bw_step ?_ (by assumption) | refine Below.alloc ?_ ?_ _ | refine Below.drew ?_ | refine below_drewN ?_ _ | refine Below.setCell ?_ ?_ _ | refine below_step ?_ (by assumption) ?_ | exact Nat.le_refl _) | omega | (simp; omega) | (simp; done)))
  have RE : Row (w.alloc (.cells #[.int .i64 op, .int .i64 n, .slice ad m cap] 24)) w.heap.size [.int .i64 op, .int .i64 n, .slice ad m cap] := by (repeat' (first | (with_reducible assumption) | (with_reducible refine Row.new' _ _ _ (by first | rfl | (simp; done) | omega)) | (with_reducible refine Row.alloc ?_ _) | (with_reducible refine Row.drew ?_) | (with_reducible refine Row.drewN ?_ _) | (with_reducible refine Row.step ?_ (by with_reducible assumption))))
  have HB1 : Below w.heap.size w (w.alloc (.cells #[.int .i64 op, .int .i64 n, .slice ad m cap] 24)) := by (repeat' (first | (with_reducible first | exact Below.refl _ _ | assumption | exact Bw.out (by assumption) | refine bw_alloc ?_ _ | refine bw_step ?_ (by assumption) | refine Below.alloc ?_ ?_ _ | refine Below.drew ?_ | refine below_drewN ?_ _ | refine Below.setCell ?_ ?_ _ | refine below_step ?_ (by assumption) ?_ | exact Nat.le_refl _) | omega | (simp; omega) | (simp; done)))
  go_enter Try.func39, Try.ntmps39
  go_wp2_with fail
  go_loopw [5, 6] (fun l i wr => ∃ k : Nat, k ≤ m ∧ i = .int .i64 k ∧ l = .int .i64 (left - 1 - szL (x.ks.take k)) ∧ Hid ((szL (x.ks.take k) : Int) ≤ left - 1) ∧ Hid (Below w.heap.size w wr) ∧ Hid (Row wr w.heap.size [.int .i64 op, .int .i64 n, .slice ad m cap])) (fun _ i _ => m - (intOf i).toNat)
  case atStart => exact ⟨0, Nat.zero_le _, rfl, by rw [List.take_zero]; simp [szL], by show _ ≤ _; rw [List.take_zero]; simp [szL]; omega, HB1, RE⟩
  case round =>
   obtain ⟨k, hk, rfl, hlq, hfk, hB, hRk⟩ := hrel
   obtain ⟨q, hq⟩ : ∃ q, left - 1 - (szL (x.ks.take k) : Int) = q := ⟨_, rfl⟩
   rw [hq] at hlq
   subst hlq
   have hm := HE.out.2.2.2
   have hqb : 0 ≤ q ∧ q ≤ 300 := by
    have := hfk.out
    omega
   have cE := hRk.out.cell 2 rfl
   have lE := hRk.out.lt
   have HQ := Lib.hid hq
   clear hq
   by_cases hkm : k < m
   ·
    obtain ⟨y, b, off, hy, hyin, e, hlb, c0, c1, c2⟩ := HIN.out.kidAt hB.out (k := k) (by omega)
    have hh := HE.out.2.2.1
    rw [e] at hh
    subst hh
    have hys : y.size ≤ N := by
     have := szL_mem hy.out
     have h2 := HX.out
     rw [x.size_eq] at h2
     omega
    have HYS := Lib.hid hys
    have HYI := Lib.hid (hyin.step hB.out)
    clear hm hys hyin e
    go_wp2_with fail
    refine (ih y HYS.out _ HYI.out q hqb.1 hqb.2).mono ?_
    rintro e w2 ⟨rfl, hb2⟩
    have HB2 : Hid (Below w.heap.size w w2) := hB.out.trans (hb2.mono hB.out.size)
    have HR3 : Hid (Row w2 w.heap.size [.int .i64 op, .int .i64 n, .slice (some ⟨b, off, none⟩) m cap]) := hRk.out.step hb2
    clear hb2
    by_cases hyq : (y.size : Int) ≤ q
    ·
     rw [leftV_yes hyq]
     obtain ⟨p, hp⟩ : ∃ p, q - (y.size : Int) = p := ⟨_, rfl⟩
     have hpn : ¬ p < 0 := by omega
     rw [hp]
     have HP := Lib.hid hp
     have HYQ := Lib.hid hyq
     clear hp hyq
     go_wp2_with fail
     go_roundw
     case rel => exact ⟨k + 1, by omega, by go_num, by
      rw [szL_take hy.out, ← HP.out, ← HQ.out]; congr 1; simp; omega, by
      show _ ≤ _
      have h1 := HYQ.out
      have h2 := HQ.out
      rw [szL_take hy.out]; simp; omega, HB2, HR3⟩
     case measure => simp [intOf]; omega
    ·
     rw [leftV_no hyq]
     have hr : R = -1 := by
      rw [← HRR.out]
      refine leftV_no ?_
      have h1 := HQ.out
      have h2 := szL_take hy.out
      have h3 := szL_take_le x.ks (k + 1)
      rw [HS.out]
      omega
     subst hr
     clear hyq
     go_wp2_with fail
     go_ret
     exact ⟨rfl, HB2.out⟩
   ·
    obtain rfl : k = m := by omega
    have hr : R = q := by
     have h1 := HQ.out
     have h2 := HS.out
     rw [List.take_of_length_le (by omega)] at h1
     rw [← HRR.out, leftV_yes (by omega)]
     omega
    subst hr
    clear hm
    go_wp2_with fail
    go_ret
    exact ⟨rfl, hB.out⟩
set_option maxHeartbeats 1600000 in
theorem R_fewE (x : Ex) (w : World) (h : x.In w) :
  Calls Try.prog 14 #[x.val] w fun e w' => e = .returned (.bool (fewE x)) ∧ Below w.heap.size w w' := by
 have HIN := Lib.hid h
 have hxv : x.val = .agg #[.int .i64 x.op, .int .i64 x.n, .slice x.at' x.ks.length x.cap] := rfl
 clear h
 rw [hxv]
 obtain ⟨q, hq⟩ : ∃ q, leftV x 300 = q := ⟨_, rfl⟩
 have hv : fewE x = decide (0 ≤ q) := by
  rw [← hq]
  unfold fewE leftV
  by_cases h : (x.size : Int) ≤ 300
  ·
   rw [if_pos h]; rw [Bool.eq_iff_iff]; simp; omega
  ·
   rw [if_neg h]; rw [Bool.eq_iff_iff]; simp; omega
 rw [hv]
 have HQ := Lib.hid hq
 clear hq hv
 go_enter Try.func14, Try.ntmps14
 go_wp2_with fail
 refine (R_left_all x.size x (Nat.le_refl _) _ (HIN.out.step (by (repeat' (first | (with_reducible first | exact Below.refl _ _ | assumption | exact Bw.out (by assumption) | refine bw_alloc ?_ _ | refine bw_step ?_ (by assumption) | refine Below.alloc ?_ ?_ _ | refine Below.drew ?_ | refine below_drewN ?_ _ | refine Below.setCell ?_ ?_ _ | refine below_step ?_ (by assumption) ?_ | exact Nat.le_refl _) | omega | (simp; omega) | (simp; done))))) 300 (by omega) (by omega)).mono ?_
 rintro e w1 ⟨rfl, hb1⟩
 have R_e_1 : Row w1 (w.heap.size) [.int .i64 x.op, .int .i64 x.n, .slice x.at' x.ks.length x.cap] := by (repeat' (first | (with_reducible assumption) | (with_reducible refine Row.new' _ _ _ (by first | rfl | (simp; done) | omega)) | (with_reducible first | refine Row.alloc ?_ _ | refine Row.drew ?_ | refine Row.step ?_ (by assumption) | refine Row.drewN ?_ _) | (with_reducible refine Row.set2' ?_ _ _; first | exact ⟨_, _, by assumption⟩ | exact ⟨_, _, Row.alloc (by assumption) _⟩) | (with_reducible refine Row.other ?_ (by first | omega | (simp; omega)) _)))
 have c_e_0_1 := R_e_1.cell 0 rfl
 have c_e_1_1 := R_e_1.cell 1 rfl
 have c_e_2_1 := R_e_1.cell 2 rfl
 have l_e_1 := R_e_1.lt
 have HB1 : Below w.heap.size w w1 := by (repeat' (first | (with_reducible first | exact Below.refl _ _ | assumption | exact Bw.out (by assumption) | refine bw_alloc ?_ _ | refine bw_step ?_ (by assumption) | refine Below.alloc ?_ ?_ _ | refine Below.drew ?_ | refine below_drewN ?_ _ | refine Below.setCell ?_ ?_ _ | refine below_step ?_ (by assumption) ?_ | exact Nat.le_refl _) | omega | (simp; omega) | (simp; done)))
 rw [HQ.out]
 go_wp2_with fail
 go_ret
 refine ⟨(by first | rfl | exact ret_bool (by first | rfl | (simp; done) | (simp; omega))), ?_⟩
 (repeat' (first | (with_reducible first | exact Below.refl _ _ | assumption | exact Bw.out (by assumption) | refine bw_alloc ?_ _ | refine bw_step ?_ (by assumption) | refine Below.alloc ?_ ?_ _ | refine Below.drew ?_ | refine below_drewN ?_ _ | refine Below.setCell ?_ ?_ _ | refine below_step ?_ (by assumption) ?_ | exact Nat.le_refl _) | omega | (simp; omega) | (simp; done)))
end Go.Proofs.Ytcmodmchnokmgaa
