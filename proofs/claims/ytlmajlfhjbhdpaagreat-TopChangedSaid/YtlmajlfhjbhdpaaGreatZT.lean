/-
 The walks of package stays: Valid (of stays that are well-formed), meet, clash, Clash (of stays none of which meets another).
-/
import Derived.Test.YtlmajlfhjbhdpaaGreatZS
namespace Go.Proofs.YtlmajlfhjbhdpaaGreat
set_option linter.unusedSimpArgs false
set_option linter.unusedVariables false
open Go.RowKit Go.Shelf
theorem pairs_len {es : List MapEntry} {f : List (Int × Value)} (h : IsPairs es f) : es.length = f.length := by
 have := congrArg List.length h
 simpa using this
theorem GoodL.len {l : List StayV} {n : Nat} (h : GoodL l) (hl : l.length = n) : n ≤ 3000 := hl ▸ h.few
set_option maxRecDepth 100000 in
set_option maxHeartbeats 3200000 in
theorem sValid_yes (a : Option Addr) (n cap : Nat) (l : List StayV) (w : World) (hs : SlG stE w a n l) (hg : GoodL l) :
  Calls Tryz.prog 19 #[.slice a n cap] w fun e w' => e = .returned (.bool true) ∧ Below w.heap.size w w' := by
 have hn := hg.len hs.1
 have hn' : ¬ (3000 : Int) < (n : Int) := by omega
 have hm : n ≤ 9223372036854775807 := by omega
 have HS := Lib.hid hs
 have HL := Lib.hid hs.1
 have HG := Lib.hid hg
 have eg : ∀ args w, (callFunc 45 args).run Tryz.prog w = .ok (.enter 45 args) w := enters_of Tryz.func45 (by kernel_rfl) rfl
 have hw : ∀ (w0 W : World) (x : StayV), x ∈ l → Below w0.heap.size w0 W → Calls Tryz.prog 45 (#[.agg (stE.c x).toArray] ++ #[]) W fun e w' => e = .returned (.bool ((fun _ => false) x)) ∧ Below W.heap.size W w' := fun _ W x hx _ => wrong_no x W (hg.each x hx)
 have hc1 := hasT_any a n cap l w hm hs 45 #[] eg (fun _ => false) (hw w) false (by simp)
 clear hw hs hg eg
 go_enter Tryz.func19, Tryz.ntmps19
 go_wp2_with fail
 refine hc1.mono ?_
 rintro e w1 ⟨rfl, hb1⟩
 have HS1 := Lib.hid (HS.out.step hb1)
 clear hc1
 go_wp2_with fail
 refine (byT_any a n cap l w1 hm HS1.out).mono ?_
 rintro e w2 ⟨B, rfl, hM, hBB, hb2⟩
 have HS2 := Lib.hid (HS1.out.step hb2)
 have HB2 : Hid (Below w.heap.size w w2) := hb1.trans (hb2.mono hb1.size)
 obtain ⟨es, c, hbm, hp, _⟩ := hM
 have hes : es.size = n := by
  have h1 := pairs_len hp
  rw [mapOf_len HL.out HG.out.ids] at h1
  simpa using h1
 have hln : Sem.run Tryz.prog (Builtin.len_ #[60] 3 #[.map (some B)]) w2 = .ok (.int .i64 n) w2 := by
  rw [run_len_map _ _ _ B es c Tryz.underlying60 hbm, hes]; rfl
 clear hb1 hb2 HS1 HS hp hBB hbm hes
 go_wp2_with fail
 go_loopw [5, 24, 27] (fun _ i _ wr => ∃ k : Nat, k ≤ n ∧ i = .int .i64 k ∧ Hid (Below w.heap.size w wr) ∧ Hid (SlG stE wr a n l)) (fun _ i _ _ => n - (intOf i).toNat)
 case atStart => exact ⟨0, Nat.zero_le _, rfl, HB2.out, HS2.out⟩
 case round =>
  obtain ⟨k, hk, rfl, hB, hS⟩ := hrel
  by_cases hkn : k < n
  ·
   obtain ⟨s, b, off, hx, rfl, hlb, x0, x1, x2, x3, x4, x5, x6, x7, x8⟩ := slT_get hS.out hkn
   have hwt : s.wt = 0 := (HG.out.each s (List.mem_of_getElem? hx.out)).2.2.2.2.2.1
   rw [hwt] at x6
   clear hwt
   have hal : Below wr.heap.size wr (wr.alloc (.cells #[.int .i64 s.id, .int .i64 s.kd, .int .i64 s.fr, .int .i64 s.un, .int .i64 s.ps, .int .i64 s.rm, .int .i64 0, .bool s.ac, .bool s.inn] 37)) := (Below.refl _ _).alloc (Nat.le_refl _) _
   have HB3 := Lib.hid (hB.out.trans (hal.mono hB.out.size))
   have HS3 := Lib.hid (hS.out.step hal)
   clear hal
   go_wp2_with fail
   go_roundw
   case rel => exact ⟨k + 1, by omega, by go_num, HB3.out, HS3.out⟩
   case measure => simp [intOf]; omega
  ·
   obtain rfl : k = n := by omega
   go_wp2_with fail
   go_ret
   exact ⟨rfl, hB.out⟩
set_option maxRecDepth 100000 in
set_option maxHeartbeats 3200000 in
theorem meet_no (s t : StayV) (w : World) (h : s.rm = t.rm → s.un ≤ t.fr ∨ t.un ≤ s.fr) :
  Calls Tryz.prog 47 #[.agg #[.int .i64 s.id, .int .i64 s.kd, .int .i64 s.fr, .int .i64 s.un, .int .i64 s.ps, .int .i64 s.rm, .int .i64 s.wt, .bool s.ac, .bool s.inn], .agg #[.int .i64 t.id, .int .i64 t.kd, .int .i64 t.fr, .int .i64 t.un, .int .i64 t.ps, .int .i64 t.rm, .int .i64 t.wt, .bool t.ac, .bool t.inn]] w fun e w' => e = .returned (.bool false) ∧ Below w.heap.size w w' := by
 cases hr : (s.rm != 0) with
 | false =>
  clear h
  go_enter Tryz.func47, Tryz.ntmps47
  go_wp2_with fail
  go_ret
  refine ⟨(by first | rfl | exact ret_bool (by first | rfl | (simp; done) | (simp; omega))), ?_⟩
  (repeat' (first | (with_reducible first | exact Below.refl _ _ | assumption | exact Bw.out (by assumption) | refine bw_alloc ?_ _ | refine bw_step ?_ (by assumption) | refine Below.alloc ?_ ?_ _ | refine Below.drew ?_ | refine below_drewN ?_ _ | refine Below.setCell ?_ ?_ _ | refine below_step ?_ (by assumption) ?_ | exact Nat.le_refl _) | omega | (simp; omega) | (simp; done)))
 | true =>
  cases he : (s.rm == t.rm) with
  | false =>
   clear h
   go_enter Tryz.func47, Tryz.ntmps47
   go_wp2_with fail
   go_ret
   refine ⟨(by first | rfl | exact ret_bool (by first | rfl | (simp; done) | (simp; omega))), ?_⟩
   (repeat' (first | (with_reducible first | exact Below.refl _ _ | assumption | exact Bw.out (by assumption) | refine bw_alloc ?_ _ | refine bw_step ?_ (by assumption) | refine Below.alloc ?_ ?_ _ | refine Below.drew ?_ | refine below_drewN ?_ _ | refine Below.setCell ?_ ?_ _ | refine below_step ?_ (by assumption) ?_ | exact Nat.le_refl _) | omega | (simp; omega) | (simp; done)))
  | true =>
   have hd := h (by simpa using he)
   have hlt : decide (max s.fr t.fr < min s.un t.un) = false := decide_eq_false (by omega)
   have HLT := Lib.hid hlt
   have HD := Lib.hid hd
   clear h hd hlt
   go_enter Tryz.func47, Tryz.ntmps47
   go_wp2_with fail
   go_ret
   exact ⟨ret_bool HLT.out, by (repeat' (first | (with_reducible first | exact Below.refl _ _ | assumption | exact Bw.out (by assumption) | refine bw_alloc ?_ _ | refine bw_step ?_ (by assumption) | refine Below.alloc ?_ ?_ _ | refine Below.drew ?_ | refine below_drewN ?_ _ | refine Below.setCell ?_ ?_ _ | refine below_step ?_ (by assumption) ?_ | exact Nat.le_refl _) | omega | (simp; omega) | (simp; done)))⟩
/-- No stay meets a later one. -/
def ApartL (l : List StayV) : Prop := ∀ (i k : Nat) (s t : StayV), i < k → l[i]? = some s → l[k]? = some t → s.rm = t.rm → s.un ≤ t.fr ∨ t.un ≤ s.fr
set_option maxRecDepth 100000 in
set_option maxHeartbeats 6400000 in
theorem clash_no (a : Option Addr) (n cap : Nat) (l : List StayV) (w : World) (hm : n ≤ 1000000) (hc : n ≤ cap) (hs : SlG stE w a n l) (hd : ApartL l) :
  Calls Tryz.prog 25 #[.slice a n cap] w fun e w' => e = .returned (.tuple #[.int .i64 (-1), .int .i64 (-1)]) ∧ Below w.heap.size w w' := by
 have HS := Lib.hid hs
 have HL := Lib.hid hs.1
 have HD := Lib.hid hd
 clear hs hd
 go_enter Tryz.func25, Tryz.ntmps25
 go_wp2_with fail
 go_step3
 go_wp2_with fail
 go_step3
 go_wp2_with fail
 go_loopw [4, 5, 6, 7, 12, 15] (fun f1 f2 _ _ i _ wr => ∃ k : Nat, k ≤ n ∧ f1 = .int .i64 (-1) ∧ f2 = .int .i64 (-1) ∧ i = .int .i64 k ∧ Hid (Below w.heap.size w wr)) (fun _ _ _ _ i _ _ => n - (intOf i).toNat)
 case atStart => exact ⟨0, Nat.zero_le _, rfl, rfl, rfl, Below.refl _ _⟩
 case round =>
  obtain ⟨k, hk, rfl, rfl, rfl, hB⟩ := hrel
  by_cases hkn : k < n
  ·
   obtain ⟨s, b, off, hx, rfl, hlb, x0, x1, x2, x3, x4, x5, x6, x7, x8⟩ := slT_get (HS.out.step hB.out) hkn
   have i1 : (0 : Int) ≤ (k : Int) := by omega
   have i2 : (k : Int) < (n : Int) := by omega
   have i3 : (k : Int) + 1 ≤ (n : Int) := by omega
   have i4 : (n : Int) ≤ (cap : Int) := by omega
   have hm1 : n ≤ 1000000 := hm
   have hds := SlG.drop (HS.out.step hB.out) (show k + 1 ≤ n by omega)
   have HDS := Lib.hid hds
   clear hds
   by_cases hce : cap = k + 1
   ·
    subst hce
    have hS1 : SlG stE wr (some ⟨b, off, none⟩) (n - (k + 1)) (l.drop (k + 1)) := by
     rw [List.drop_of_length_le (by rw [HL.out]; omega), show n - (k + 1) = 0 by omega]
     exact SlG.nil _ _ _
    have HS1 := Lib.hid hS1
    obtain ⟨M, hM⟩ : ∃ M, n - (k + 1) = M := ⟨_, rfl⟩
    have hMb : M ≤ 1000000 := by omega
    clear hS1
    go_wp2_with fail
    obtain ⟨w1, hw1⟩ : ∃ w1, wr.alloc (.cells #[.int .i64 s.id, .int .i64 s.kd, .int .i64 s.fr, .int .i64 s.un, .int .i64 s.ps, .int .i64 s.rm, .int .i64 s.wt, .bool s.ac, .bool s.inn] 37) = w1 := ⟨_, rfl⟩
    obtain ⟨bx, hbx⟩ : ∃ bx, wr.heap.size = bx := ⟨_, rfl⟩
    have hal : Below wr.heap.size wr w1 := by rw [← hw1]; exact (Below.refl _ _).alloc (Nat.le_refl _) _
    have R : Row w1 bx [.int .i64 s.id, .int .i64 s.kd, .int .i64 s.fr, .int .i64 s.un, .int .i64 s.ps, .int .i64 s.rm, .int .i64 s.wt, .bool s.ac, .bool s.inn] := by rw [← hw1, ← hbx]; exact Row.new' _ _ _ rfl
    have HB1 : Hid (Below w.heap.size w w1) := hB.out.trans (hal.mono hB.out.size)
    have HS2 := Lib.hid (HS1.out.step hal)
    rw [hM] at HS2
    simp only [hw1, hbx, hM]
    clear hw1 hbx hal x0 x1 x2 x3 x4 x5 x6 x7 x8 HS1
    go_loopw [4, 5, 8, 9, 22, 25] (fun f1 f2 _ _ j _ wx => ∃ q : Nat, q ≤ M ∧ f1 = .int .i64 (-1) ∧ f2 = .int .i64 (-1) ∧ j = .int .i64 q ∧ Hid (Below w1.heap.size w1 wx)) (fun _ _ _ _ j _ _ => M - (intOf j).toNat)
    case atStart => exact ⟨0, Nat.zero_le _, rfl, rfl, rfl, Below.refl _ _⟩
    case round =>
     obtain ⟨q, hq, rfl, rfl, rfl, hB2⟩ := hrel
     have R2 := R.step hB2.out
     have y0 := R2.cell 0 rfl
     have y1 := R2.cell 1 rfl
     have y2 := R2.cell 2 rfl
     have y3 := R2.cell 3 rfl
     have y4 := R2.cell 4 rfl
     have y5 := R2.cell 5 rfl
     have y6 := R2.cell 6 rfl
     have y7 := R2.cell 7 rfl
     have y8 := R2.cell 8 rfl
     have yl := R2.lt
     have HB3 : Hid (Below w.heap.size w wr) := HB1.out.trans (hB2.out.mono HB1.out.size)
     by_cases hqM : q < M
     ·
      exfalso
      omega
     ·
      obtain rfl : q = M := by omega
      have HMM := Lib.hid hM
      clear hM
      go_wp2_with fail
      exact ⟨⟨k + 1, by omega, rfl, rfl, by go_num, HB3.out⟩, by simp [intOf]; omega⟩
   ·
    have hS1 : SlG stE wr (some ⟨b, off + (k + 1) * 9, none⟩) (n - (k + 1)) (l.drop (k + 1)) := HDS.out
    have HS1 := Lib.hid hS1
    obtain ⟨M, hM⟩ : ∃ M, n - (k + 1) = M := ⟨_, rfl⟩
    have hMb : M ≤ 1000000 := by omega
    clear hS1
    go_wp2_with fail
    obtain ⟨w1, hw1⟩ : ∃ w1, wr.alloc (.cells #[.int .i64 s.id, .int .i64 s.kd, .int .i64 s.fr, .int .i64 s.un, .int .i64 s.ps, .int .i64 s.rm, .int .i64 s.wt, .bool s.ac, .bool s.inn] 37) = w1 := ⟨_, rfl⟩
    obtain ⟨bx, hbx⟩ : ∃ bx, wr.heap.size = bx := ⟨_, rfl⟩
    have hal : Below wr.heap.size wr w1 := by rw [← hw1]; exact (Below.refl _ _).alloc (Nat.le_refl _) _
    have R : Row w1 bx [.int .i64 s.id, .int .i64 s.kd, .int .i64 s.fr, .int .i64 s.un, .int .i64 s.ps, .int .i64 s.rm, .int .i64 s.wt, .bool s.ac, .bool s.inn] := by rw [← hw1, ← hbx]; exact Row.new' _ _ _ rfl
    have HB1 : Hid (Below w.heap.size w w1) := hB.out.trans (hal.mono hB.out.size)
    have HS2 := Lib.hid (HS1.out.step hal)
    rw [hM] at HS2
    simp only [hw1, hbx, hM]
    clear hw1 hbx hal x0 x1 x2 x3 x4 x5 x6 x7 x8 HS1
    go_loopw [4, 5, 8, 9, 22, 25] (fun f1 f2 _ _ j _ wx => ∃ q : Nat, q ≤ M ∧ f1 = .int .i64 (-1) ∧ f2 = .int .i64 (-1) ∧ j = .int .i64 q ∧ Hid (Below w1.heap.size w1 wx)) (fun _ _ _ _ j _ _ => M - (intOf j).toNat)
    case atStart => exact ⟨0, Nat.zero_le _, rfl, rfl, rfl, Below.refl _ _⟩
    case round =>
     obtain ⟨q, hq, rfl, rfl, rfl, hB2⟩ := hrel
     have R2 := R.step hB2.out
     have y0 := R2.cell 0 rfl
     have y1 := R2.cell 1 rfl
     have y2 := R2.cell 2 rfl
     have y3 := R2.cell 3 rfl
     have y4 := R2.cell 4 rfl
     have y5 := R2.cell 5 rfl
     have y6 := R2.cell 6 rfl
     have y7 := R2.cell 7 rfl
     have y8 := R2.cell 8 rfl
     have yl := R2.lt
     have HB3 : Hid (Below w.heap.size w wr) := HB1.out.trans (hB2.out.mono HB1.out.size)
     by_cases hqM : q < M
     ·
      obtain ⟨t, b2, off2, hx2, hba, hlb2, z0, z1, z2, z3, z4, z5, z6, z7, z8⟩ := slT_get (HS2.out.step hB2.out) hqM
      cases hba
      have hd : s.rm = t.rm → s.un ≤ t.fr ∨ t.un ≤ s.fr := HD.out k (k + 1 + q) s t (by omega) hx.out (by rw [← List.getElem?_drop]; exact hx2.out)
      have HD2 := Lib.hid hd
      clear hd
      have j1 : (0 : Int) ≤ (q : Int) := by omega
      have j2 : (q : Int) < (M : Int) := by omega
      go_wp2_with fail
      have hal2 : Below wr.heap.size wr (wr.alloc (.cells #[.int .i64 t.id, .int .i64 t.kd, .int .i64 t.fr, .int .i64 t.un, .int .i64 t.ps, .int .i64 t.rm, .int .i64 t.wt, .bool t.ac, .bool t.inn] 37)) := (Below.refl _ _).alloc (Nat.le_refl _) _
      refine (meet_no s t _ HD2.out).mono ?_
      rintro e w3 ⟨rfl, hb3⟩
      have HB4 : Hid (Below w1.heap.size w1 w3) := hB2.out.trans ((hal2.trans (hb3.mono hal2.size)).mono hB2.out.size)
      clear hal2 hb3
      go_wp2_with fail
      go_roundw
      case rel => exact ⟨q + 1, by omega, rfl, rfl, by go_num, HB4.out⟩
      case measure => simp [intOf]; omega
     ·
      obtain rfl : q = M := by omega
      have HMM := Lib.hid hM
      clear hM
      go_wp2_with fail
      exact ⟨⟨k + 1, by omega, rfl, rfl, by go_num, HB3.out⟩, by simp [intOf]; omega⟩
  ·
   obtain rfl : k = n := by omega
   go_wp2_with fail
   rw [Exit.noGoto_ret]
   go_ret2
   exact ⟨rfl, hB.out⟩
set_option maxRecDepth 100000 in
set_option maxHeartbeats 1600000 in
theorem Clash_no (a : Option Addr) (n cap : Nat) (l : List StayV) (w : World) (hc : n ≤ cap) (hs : SlG stE w a n l) (hg : GoodL l) (hd : ApartL l) :
  Calls Tryz.prog 9 #[.slice a n cap] w fun e w' => e = .returned (.tuple #[.int .i64 0, .int .i64 0, .bool false, .int .i64 0]) ∧ Below w.heap.size w w' := by
 have hn := hg.len hs.1
 have h1 := sValid_yes a n cap l w hs hg
 have h2 : ∀ W, Below w.heap.size w W → _ := fun W hb => clash_no a n cap l W (by omega) hc (hs.step hb) hd
 have H2 := Lib.hid h2
 clear hs hg hd h2
 go_enter Tryz.func9, Tryz.ntmps9
 go_wp2_with fail
 refine h1.mono ?_
 rintro e w1 ⟨rfl, hb1⟩
 clear h1
 go_wp2_with fail
 refine (H2.out w1 hb1).mono ?_
 rintro e w2 ⟨rfl, hb2⟩
 have hb := hb1.trans (hb2.mono hb1.size)
 clear hb1 hb2 H2
 go_wp2_with fail
 refine bodyPost_ret (v := .tuple #[.int .i64 0, .int .i64 0, .bool false, .int .i64 0]) (by simp [results, Tryz.results9, go_sem]) rfl ?_
 exact ⟨rfl, hb⟩
end Go.Proofs.YtlmajlfhjbhdpaaGreat
