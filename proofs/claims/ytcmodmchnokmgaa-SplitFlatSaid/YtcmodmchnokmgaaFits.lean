/-
 The walks: parser.fits, Valid; the reference's Size, Valid.
-/
import Derived.Test.YtcmodmchnokmgaaPar
import Derived.Test.YtcmodmchnokmgaaTyP
import Derived.Test.YtcmodmchnokmgaaMC
namespace Go.Proofs.Ytcmodmchnokmgaa
set_option linter.unusedSimpArgs false
set_option linter.unusedVariables false
open Go.RowKit
theorem Row.set1 {w : World} {b : Nat} {x0 : Value} (h : Row w b [x0]) (v : Value) : Row (w.setCell ⟨b, 0, none⟩ v) b [v] := by
 obtain ⟨T, h⟩ := h
 refine ⟨T, ?_⟩
 simp [World.setCell, Array.getElem?_modify, h]
/-- The kid's cells in a world where the old ones stand still. -/
theorem Ex.In.kidAt {w0 w : World} {x : Ex} (h : x.In w0) (hb : Below w0.heap.size w0 w) {k : Nat} (hk : k < x.ks.length) : ∃ (y : Ex) (b off : Nat), Hid (x.ks[k]? = some y) ∧ y.In w0 ∧ x.at' = some ⟨b, off, none⟩ ∧ b < w.heap.size ∧ w.cell? ⟨b, off + k * 3, none⟩ = some (.int .i64 y.op) ∧ w.cell? ⟨b, off + k * 3 + 1, none⟩ = some (.int .i64 y.n) ∧ w.cell? ⟨b, off + k * 3 + 2, none⟩ = some (.slice y.at' y.ks.length y.cap) := by
 have hy : x.ks[k]? = some x.ks[k] := List.getElem?_eq_getElem hk
 obtain ⟨h1, b, off, e, hlt, c0, c1, c2⟩ := h.kid hy
 exact ⟨_, b, off, hy, h1, e, Nat.lt_of_lt_of_le hlt hb.size, (hb.cell (p := ⟨b, off + k * 3, none⟩) hlt).trans c0, (hb.cell (p := ⟨b, off + k * 3 + 1, none⟩) hlt).trans c1, (hb.cell (p := ⟨b, off + k * 3 + 2, none⟩) hlt).trans c2⟩
theorem Ch.of_below {o : Nat → Prop} {A C : World} (h : Below A.heap.size A C) : Ch o A C := ⟨h.os, h.tape, h.output, h.size, fun k hk _ => h.block k hk⟩
set_option maxRecDepth 100000 in
set_option maxHeartbeats 4000000 in
theorem fits_all (w0 : World) (L : Nat) (hL : w0.heap.size ≤ L) : ∀ (N : Nat) (x : Ex), x.size ≤ N → x.In w0 → ∀ (lv left : Int) (w : World), 0 ≤ lv → lv ≤ 30 → 0 ≤ left → left ≤ 200 → Below w0.heap.size w0 w → Row w L [.int .i64 left] →
  Calls Try.prog 64 #[x.val, .int .i64 lv, .pointer (some ⟨L, 0, none⟩)] w fun e w' => e = .returned (.bool (fitsE x lv.toNat left)) ∧ Ch (fun k => k = L) w w' ∧ (fitsE x lv.toNat left = true → Row w' L [.int .i64 (left - x.size)]) := by
 intro N
 induction N with
 | zero => intro x hx; have := x.size_pos; omega
 | succ N ih =>
  intro x hx hin lv left w hl0 hl1 h0 h1 hB hR
  have HB := Lib.hid hB
  have HIN := Lib.hid hin
  have HX := Lib.hid hx
  have HF := Lib.hid (fitsE_eq x lv.toNat left)
  obtain ⟨R, hRR⟩ : ∃ R, fitsE x lv.toNat left = R := ⟨_, rfl⟩
  have HRR := Lib.hid hRR
  have HCAP := Lib.hid hin.len
  rw [hRR]
  clear hRR hB hin hx
  have hc := hR.cell 0 rfl
  have hz := hR.frozen 0
  have hlt := hR.lt
  have hxv : x.val = .agg #[.int .i64 x.op, .int .i64 x.n, .slice x.at' x.ks.length x.cap] := rfl
  rw [hxv]
  clear hxv
  obtain ⟨op, hop⟩ : ∃ op, x.op = op := ⟨_, rfl⟩
  obtain ⟨n, hn⟩ : ∃ n, x.n = n := ⟨_, rfl⟩
  obtain ⟨ad, had⟩ : ∃ ad, x.at' = ad := ⟨_, rfl⟩
  obtain ⟨m, hm⟩ : ∃ m, x.ks.length = m := ⟨_, rfl⟩
  obtain ⟨cap, hcap⟩ : ∃ cap, x.cap = cap := ⟨_, rfl⟩
  rw [hop, hn, had, hm, hcap]
  have hmb : m ≤ 9223372036854775807 := by rw [← hm]; exact HCAP.out
  have HE := Lib.hid (And.intro hop (And.intro hn (And.intro had hm)))
  clear hop hn had hm hcap HCAP
  by_cases hlv : lv = 0
  ·
   subst hlv
   have hr : R = false := by rw [← HRR.out, HF.out]; simp
   subst hr
   go_enter Try.func64, Try.ntmps64
   go_wp2_with fail
   go_ret
   exact ⟨rfl, by exact ((Ch.refl (fun k => k = L) w).setCell (p := ⟨L, 0, none⟩) rfl _).alloc _, fun h => by cases h⟩
  have hlv' : (lv == 0) = false := by simpa using hlv
  by_cases hle : left = 0
  ·
   subst hle
   have hr : R = false := by rw [← HRR.out, HF.out]; simp
   subst hr
   go_enter Try.func64, Try.ntmps64
   go_wp2_with fail
   go_ret
   exact ⟨rfl, by exact ((Ch.refl (fun k => k = L) w).setCell (p := ⟨L, 0, none⟩) rfl _).alloc _, fun h => by cases h⟩
  have hlv1 : 1 ≤ lv := by omega
  have hle1 : 1 ≤ left := by omega
  clear hlv hle
  have hcm : ¬ (left - 1 < 0) := by omega
  obtain ⟨nb, hnb⟩ : ∃ nb, nodeB op n m = nb := ⟨_, rfl⟩
  have HNB := Lib.hid hnb
  clear hnb
  go_enter Try.func64, Try.ntmps64
  go_wp2_with fail
  refine (p_node op n ad m cap _).mono ?_
  rintro e w1 ⟨rfl, hb1⟩
  rw [HNB.out]
  have C0 : Ch (fun k => k = L) w ((w.setCell ⟨L, 0, none⟩ (.int .i64 (left - 1))).alloc (.cells #[.int .i64 op, .int .i64 n, .slice ad m cap] 24)) := ((Ch.refl (fun k => k = L) w).setCell (p := ⟨L, 0, none⟩) rfl _).alloc _
  have R0 : Row ((w.setCell ⟨L, 0, none⟩ (.int .i64 (left - 1))).alloc (.cells #[.int .i64 op, .int .i64 n, .slice ad m cap] 24)) L [.int .i64 (left - 1)] := (hR.set1 _).alloc _
  have E0 : Row ((w.setCell ⟨L, 0, none⟩ (.int .i64 (left - 1))).alloc (.cells #[.int .i64 op, .int .i64 n, .slice ad m cap] 24)) w.heap.size [.int .i64 op, .int .i64 n, .slice ad m cap] := by (repeat' (first | (with_reducible assumption) | (with_reducible refine Row.new' _ _ _ (by first | rfl | (simp; done) | omega)) | (with_reducible refine Row.alloc ?_ _) | (with_reducible refine Row.drew ?_) | (with_reducible refine Row.drewN ?_ _) | (with_reducible refine Row.step ?_ (by with_reducible assumption))))
  have C1 := C0.trans (Ch.of_below hb1)
  have R1 := R0.step hb1
  have E1 := E0.step hb1
  have e2 := E1.cell 2 rfl
  have lE := E1.lt
  clear C0 R0 E0 hb1
  cases nb with
  | false =>
   have hr : R = false := by rw [← HRR.out, HF.out, HE.out.1, HE.out.2.1, HE.out.2.2.2, HNB.out]; simp
   subst hr
   go_wp2_with fail
   go_ret
   exact ⟨rfl, C1, fun h => by cases h⟩
  | true =>
   have HRL : Hid (R = fitsL x.ks (lv - 1).toNat (left - 1)) := by
    show _ = _
    rw [← HRR.out, HF.out, HE.out.1, HE.out.2.1, HE.out.2.2.2, HNB.out]
    have a1 : decide (1 ≤ lv.toNat) = true := by simp; omega
    have a2 : decide (1 ≤ left) = true := by simp; omega
    rw [a1, a2, show lv.toNat - 1 = (lv - 1).toNat by omega]
    simp
   have HS : Hid ((x.size : Int) = 1 + szL x.ks) := by show _ = _; rw [x.size_eq]; simp
   go_wp2_with fail
   go_loopw [8, 30] (fun _ i wr => ∃ k : Nat, k ≤ m ∧ i = .int .i64 k ∧ Hid (fitsL (x.ks.take k) (lv - 1).toNat (left - 1) = true) ∧ Hid (Ch (fun k => k = L) w wr) ∧ Hid (Row wr L [.int .i64 (left - 1 - szL (x.ks.take k))])) (fun _ i _ => m - (intOf i).toNat)
   case atStart => exact ⟨0, Nat.zero_le _, rfl, by show _ = _; rw [List.take_zero]; exact fitsL_nil (by omega), C1, by show Row _ _ _; rw [List.take_zero]; simpa [szL] using R1⟩
   case round =>
    obtain ⟨k, hk, rfl, hfk, hC, hRk⟩ := hrel
    have hm := HE.out.2.2.2
    by_cases hkm : k < m
    ·
     obtain ⟨y, b, off, hy, hyin, e, hlb, c0, c1, c2⟩ := HIN.out.kidAt (hC.out.below HB.out (fun k hk => by omega) HB.out.size) (k := k) (by omega)
     have hh := HE.out.2.2.1
     rw [e] at hh
     subst hh
     obtain ⟨q, hq⟩ : ∃ q, left - 1 - (szL (x.ks.take k) : Int) = q := ⟨_, rfl⟩
     have hqb : 0 ≤ q ∧ q ≤ 200 := by
      have := fitsL_left hfk.out
      omega
     have HQ := Lib.hid hq
     rw [hq] at hRk
     have hys : y.size ≤ N := by
      have := szL_mem hy.out
      have h2 := HX.out
      rw [x.size_eq] at h2
      omega
     have hcq := hRk.out.cell 0 rfl
     have hzq := hRk.out.frozen 0
     have hlq := hRk.out.lt
     have HYS := Lib.hid hys
     have HYI := Lib.hid hyin
     have HB9 := Lib.hid (hC.out.below HB.out (fun k hk => by omega) HB.out.size)
     obtain ⟨r, hr⟩ : ∃ r, fitsE y (lv - 1).toNat q = r := ⟨_, rfl⟩
     have HR2 := Lib.hid hr
     clear hq hm hys hyin hr e
     go_wp2_with fail
     have RL : Row (wr.alloc (.cells #[.int .i64 y.op, .int .i64 y.n, .slice y.at' y.ks.length y.cap] 24)) L [.int .i64 q] := hRk.out.alloc _
     refine (ih y HYS.out HYI.out (lv - 1) q _ (by omega) (by omega) hqb.1 hqb.2 (HB9.out.alloc HB9.out.size _) RL).mono ?_
     rintro e w2 ⟨rfl, hC2, hT⟩
     rw [HR2.out] at hT ⊢
     have hC3 := (hC.out.alloc (.cells #[.int .i64 y.op, .int .i64 y.n, .slice y.at' y.ks.length y.cap] 24)).trans hC2
     cases r with
     | false =>
      have hr : R = false := by rw [HRL.out]; exact fitsL_no hy.out (by rw [HQ.out]; exact HR2.out)
      subst hr
      clear hT
      go_wp2_with fail
      go_ret
      exact ⟨rfl, hC3, fun h => by cases h⟩
     | true =>
      have hRow := Lib.hid (hT rfl)
      have HC3 := Lib.hid hC3
      clear hT hC3 hC2
      go_wp2_with fail
      go_roundw
      case rel => exact ⟨k + 1, by omega, by go_num, by show _ = _; rw [fitsL_take hy.out, hfk.out, HQ.out, HR2.out]; rfl, HC3, by
       rw [szL_take hy.out, show left - 1 - ((szL (x.ks.take k) + y.size : Nat) : Int) = q - y.size by rw [← HQ.out]; simp; omega]; exact hRow⟩
      case measure => simp [intOf]; omega
    ·
     obtain rfl : k = m := by omega
     rw [List.take_of_length_le (by omega)] at hfk hRk
     have hr : R = true := by rw [HRL.out]; exact hfk.out
     subst hr
     clear hm
     go_wp2_with fail
     go_ret
     have := hRk.out
     refine ⟨rfl, hC.out, ?_⟩
     rwa [show left - 1 - (szL x.ks : Int) = left - x.size by rw [HS.out]; omega] at this
set_option maxHeartbeats 1600000 in
theorem p_valid (x : Ex) (w : World) (h : x.In w) :
  Calls Try.prog 40 #[x.val] w fun e w' => e = .returned (.bool (validE x)) ∧ Below w.heap.size w w' := by
 have HIN := Lib.hid h
 have hxv : x.val = .agg #[.int .i64 x.op, .int .i64 x.n, .slice x.at' x.ks.length x.cap] := rfl
 clear h
 rw [hxv]
 go_enter Try.func40, Try.ntmps40
 go_wp2_with fail
 have hb : Below w.heap.size w ((w.alloc (.cells #[.int .i64 x.op, .int .i64 x.n, .slice x.at' x.ks.length x.cap] 24)).alloc (.cells #[.int .i64 200] 3)) := by (repeat' (first | (with_reducible first | exact Below.refl _ _ | assumption | exact Bw.out (by assumption) | refine bw_alloc ?_ _ | refine bw_step ?_ (by assumption) | refine Below.alloc ?_ ?_ _ | refine Below.drew ?_ | refine below_drewN ?_ _ | refine Below.setCell ?_ ?_ _ | refine below_step ?_ (by assumption) ?_ | exact Nat.le_refl _) | omega | (simp; omega) | (simp; done)))
 have hR : Row ((w.alloc (.cells #[.int .i64 x.op, .int .i64 x.n, .slice x.at' x.ks.length x.cap] 24)).alloc (.cells #[.int .i64 200] 3)) (w.heap.size + 1) [.int .i64 200] := by (repeat' (first | (with_reducible assumption) | (with_reducible refine Row.new' _ _ _ (by first | rfl | (simp; done) | omega)) | (with_reducible refine Row.alloc ?_ _) | (with_reducible refine Row.drew ?_) | (with_reducible refine Row.drewN ?_ _) | (with_reducible refine Row.step ?_ (by with_reducible assumption))))
 refine (fits_all w (w.heap.size + 1) (by omega) x.size x (Nat.le_refl _) HIN.out 30 200 _ (by omega) (by omega) (by omega) (by omega) hb hR).mono ?_
 rintro e w1 ⟨rfl, hC, _⟩
 rw [show fitsE x (30 : Int).toNat 200 = validE x from (validE_fits x).symm]
 go_wp2_with fail
 go_ret
 exact ⟨rfl, hC.below hb (fun k hk => by omega) hb.size⟩
end Go.Proofs.Ytcmodmchnokmgaa
