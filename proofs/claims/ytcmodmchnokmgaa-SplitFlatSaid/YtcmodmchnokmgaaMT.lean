/-
 Texts built as one: XSpE, XSpF, XSpG.
-/
import Derived.Test.YtcmodmchnokmgaaMS
namespace Go.Proofs.Ytcmodmchnokmgaa
section
set_option linter.unusedSimpArgs false
set_option linter.unusedVariables false
open Go.RowKit
def put3Y (W : World) (b : Nat) (v0 v1 v2 : Value) : World := ((W.setCell ⟨b, 0, none⟩ v0).setCell ⟨b, 1, none⟩ v1).setCell ⟨b, 2, none⟩ v2
theorem put3Y_all {W : World} {b : Nat} {x0 x1 x2 : Value} (h : RowY W b [x0, x1, x2]) (v0 v1 v2 : Value) : RowY (put3Y W b v0 v1 v2) b [v0, v1, v2] ∧ Ch (fun k => k = b) W (put3Y W b v0 v1 v2) := by
 unfold put3Y
 exact ⟨((h.put 0 v0).put 1 v1).put 2 v2, (((Ch.refl (fun k => k = b) W).setCell (p := ⟨b, 0, none⟩) rfl v0).setCell (p := ⟨b, 1, none⟩) rfl v1).setCell (p := ⟨b, 2, none⟩) rfl v2⟩
theorem OwnV.form4 {w : World} {base : Nat} {v : Value} {zs : List Int} (h : OwnV w base v zs) : ∃ ad m cp, v = .slice ad m cp ∧ m = zs.length ∧ OwnV w base (.slice ad m cp) zs := by
 obtain ⟨ad, cp, e, h1⟩ := h.form2
 exact ⟨ad, _, cp, e, rfl, h1⟩
set_option maxRecDepth 100000 in
set_option maxHeartbeats 12800000 in
theorem from_any (w0 : World) (ad : Option Addr) (n cap : Nat) (l : List RateV) (k fr un ps : Int) (V : Int → WayV) (hs : SlR w0 ad n l) (hn : n ≤ 9223372036854775807) (hV : RecW l ⟨k, fr, un, ps⟩ V) (h0 : 0 ≤ fr) (h366 : un ≤ 366) (cW cA cP cF mw m : Nat) (hm0 : w0.heap.size ≤ m) (hmw0 : w0.heap.size ≤ mw) (hne : m ≠ mw) :
  ∀ (d : Nat) (nt : Int), fr ≤ nt → nt < un → (un - nt).toNat ≤ d → ∀ (f : List AskV) (w : World), Below w0.heap.size w0 w → EnvB w cW cA cP cF mw m ad n cap k fr un ps → KMap (costV l) w m f → WaysT w mw V →
  Calls Try.prog 106 #[.int .i64 nt, .pointer (some ⟨cW, 0, none⟩), .pointer (some ⟨cA, 0, none⟩), .pointer (some ⟨cP, 0, none⟩), .pointer (some ⟨cF, 0, none⟩)] w fun e w' => ∃ v, e = .returned v ∧ WayT w' v (V nt) ∧ WaysT w' mw V ∧ (∃ f', KMap (costV l) w' m f') ∧ Ch (fun b => b = m ∨ b = mw) w w' := by
 have HS := Lib.hid hs
 have HV := Lib.hid hV
 clear hs hV
 intro d
 induction d with
 | zero => intro nt h1 h2 h3; omega
 | succ d ih =>
  intro nt hn1 hn2 hd f w hb0 hE hK hWy
  have IH := Lib.hid ih
  have hmL := hK.lt
  have hwL := hWy.lt
  have eW := hE.hW.lt
  have eA := hE.hA.lt
  have eP := hE.hP.lt
  have eF := hE.hF.lt
  have nW1 := isMap_row hK.isMap hE.hW
  have nA1 := isMap_row hK.isMap hE.hA
  have nP1 := isMap_row hK.isMap hE.hP
  have nF1 := isMap_row hK.isMap hE.hF
  have nW2 := isMap_row hWy.isMap hE.hW
  have nA2 := isMap_row hWy.isMap hE.hA
  have nP2 := isMap_row hWy.isMap hE.hP
  have nF2 := isMap_row hWy.isMap hE.hF
  have HE := Lib.hid hE
  have HK := Lib.hid hK
  have HWY := Lib.hid hWy
  have HB00 := Lib.hid hb0
  have hs0 := hb0.size
  have HNE : Hid (m ≠ mw) := hne
  have HNN : Hid ((¬ cW = m ∧ ¬ cA = m ∧ ¬ cP = m ∧ ¬ cF = m) ∧ (¬ cW = mw ∧ ¬ cA = mw ∧ ¬ cP = mw ∧ ¬ cF = mw)) := ⟨⟨nW1, nA1, nP1, nF1⟩, nW2, nA2, nP2, nF2⟩
  clear ih hE hK hWy hb0 nW1 nA1 nP1 nF1 nW2 nA2 nP2 nF2
  obtain ⟨x, hx⟩ : ∃ x, V nt = x := ⟨_, rfl⟩
  rw [hx]
  have HX := Lib.hid hx
  clear hx
  go_enter Try.func106, Try.ntmps106
  go_upto_region 1 with fail
  have HB0 := Below.refl w.heap.size w
  obtain ⟨w1, hw1⟩ : ∃ x, World.alloc w (.cells #[.int .i64 0, .bool false, .slice none 0 0] 130) = x := ⟨_, rfl⟩
  rw [hw1]
  have hb1 : Below w.heap.size w w1 := by rw [← hw1]; (repeat' (first | (with_reducible first | exact Below.refl _ _ | assumption | exact Bw.out (by assumption) | refine bw_alloc ?_ _ | refine bw_step ?_ (by assumption) | refine Below.alloc ?_ ?_ _ | refine Below.drew ?_ | refine below_drewN ?_ _ | refine Below.setCell ?_ ?_ _ | refine below_step ?_ (by assumption) ?_ | exact Nat.le_refl _) | omega | (simp; omega) | (simp; done)))
  have R_r_1 : Row w1 (w.heap.size) [.int .i64 0, .bool false, .slice none 0 0] := by rw [← hw1]; (repeat' (first | (with_reducible assumption) | (with_reducible refine Row.new' _ _ _ (by first | rfl | (simp; done) | omega)) | (with_reducible first | refine Row.alloc ?_ _ | refine Row.drew ?_ | refine Row.step ?_ (by assumption) | refine Row.drewN ?_ _) | (with_reducible refine Row.set2' ?_ _ _; first | exact ⟨_, _, by assumption⟩ | exact ⟨_, _, Row.alloc (by assumption) _⟩) | (with_reducible refine Row.other ?_ (by first | omega | (simp; omega)) _)))
  have c_r_0_1 := R_r_1.cell 0 rfl
  have c_r_1_1 := R_r_1.cell 1 rfl
  have c_r_2_1 := R_r_1.cell 2 rfl
  have z_r_0_1 := R_r_1.frozen 0
  have z_r_1_1 := R_r_1.frozen 1
  have z_r_2_1 := R_r_1.frozen 2
  have l_r_1 := R_r_1.lt
  have HB1 := HB0.trans (hb1.mono HB0.size)
  have hs1 := hb1.size
  have hz1 := HB1.size
  have HRY : Hid (RowY w1 w.heap.size [.int .i64 0, .bool false, .slice none 0 0]) := by
   show RowY _ _ _
   rw [← hw1]; exact RowY.new w _
  have HE1 := Lib.hid (HE.out.step hb1)
  have HK1 := Lib.hid (HK.out.step hb1)
  have HWY1 := Lib.hid (HWY.out.step hb1)
  have HB1' := Lib.hid HB1
  have hs1' := HB1.size
  obtain ⟨g, hg, hgv⟩ := HWY1.out
  have HGV := Lib.hid hgv
  have HG := Lib.hid hg
  have cW0 := HE1.out.hW.cell 0 rfl
  have lW := HE1.out.hW.lt
  clear hg hgv
  cases hlk : look g nt with
  | some v =>
   obtain ⟨ua, un2, uc, hlen, rfl, hsl⟩ := (HGV.out nt v hlk).form
   rw [HX.out] at hsl hlk
   have HSL := Lib.hid hsl
   have hlu : Sem.run Try.prog (Instr.lookup 145 (.map (some mw)) (.int .i64 nt) true) w1 = .ok (.tuple #[.agg #[.int .i64 x.c, .bool x.s, .slice ua un2 uc], .bool true]) w1 := by
    have h := run_lookup_imap Try.underlying145 Try.underlying3 HG.out _ (zero_way _) nt true
    rw [hlk] at h
    exact h
   clear hlen hsl hlk
   go_wp2_with fail
   obtain ⟨y1, y2⟩ := put3Y_all HRY.out (.int .i64 x.c) (.bool x.s) (.slice ua un2 uc)
   have hal : Below (put3Y w1 w.heap.size (.int .i64 x.c) (.bool x.s) (.slice ua un2 uc)).heap.size (put3Y w1 w.heap.size (.int .i64 x.c) (.bool x.s) (.slice ua un2 uc)) ((put3Y w1 w.heap.size (.int .i64 x.c) (.bool x.s) (.slice ua un2 uc)).alloc (.cells #[.int .i64 x.c, .bool x.s, .slice ua un2 uc] 130)) := (Below.refl _ _).alloc (Nat.le_refl _) _
   have RP := (y1.step hal).row
   have q0 := RP.cell 0 rfl
   have q1 := RP.cell 1 rfl
   have q2 := RP.cell 2 rfl
   have hni := HRY.out.noInt
   have z1 : Ch (fun b => (b = m ∨ b = mw) ∨ w.heap.size ≤ b) w ((put3Y w1 w.heap.size (.int .i64 x.c) (.bool x.s) (.slice ua un2 uc)).alloc (.cells #[.int .i64 x.c, .bool x.s, .slice ua un2 uc] 130)) := ((Ch.of_belowS HB1'.out).trans (y2.mono (fun b _ e => Or.inr (by omega)))).alloc _
   have z2 := (HSL.out.ch y2 hni).step hal
   have z3 := (HWY1.out.ch y2 hni (by omega)).step hal
   have z4 := (HK1.out.of_block (y2.2.2.2.2 m (by omega) (by omega))).step hal
   unfold put3Y at *
   refine bodyPost_ret (v := .agg #[.int .i64 x.c, .bool x.s, .slice ua un2 uc]) (by simp [results, Try.results106, go_sem, q0, q1, q2]) rfl ⟨_, rfl, ⟨_, rfl, z2⟩, z3, ⟨_, z4⟩, z1.own⟩
  | none =>
   have hlu : Sem.run Try.prog (Instr.lookup 145 (.map (some mw)) (.int .i64 nt) true) w1 = .ok (.tuple #[.agg #[.int .i64 0, .bool false, .slice none 0 0], .bool false]) w1 := by
    have h := run_lookup_imap Try.underlying145 Try.underlying3 HG.out _ (zero_way _) nt true
    rw [hlk] at h
    exact h
   clear hlk
   go_wp2_with fail
   obtain ⟨w2, hw2⟩ : ∃ X, World.alloc (World.alloc w1 (.cells #[.int .i64 0, .bool false, .slice none 0 0] 130)) (.cells #[.int .i64 0, .bool false, .slice none 0 0] 130) = X := ⟨_, rfl⟩
   rw [hw2]
   have hb2 : Below w1.heap.size w1 w2 := by rw [← hw2]; exact ((Below.refl _ _).alloc (Nat.le_refl _) _).alloc (by simp) _
   have HOY : Hid (RowY w2 (w1.heap.size + 1) [.int .i64 0, .bool false, .slice none 0 0]) := by
    show RowY _ _ _
    rw [← hw2]
    have h := RowY.new (World.alloc w1 (.cells #[.int .i64 0, .bool false, .slice none 0 0] 130)) [.int .i64 0, .bool false, .slice none 0 0]
    rw [World.size_alloc] at h
    exact h
   obtain ⟨O, hO⟩ : ∃ O, w1.heap.size + 1 = O := ⟨_, rfl⟩
   rw [hO] at HOY
   rw [hO]
   have hsO : w.heap.size < O := by have := HRY.out.row.lt; omega
   have HE2 := Lib.hid (HE1.out.step hb2)
   have HK2 := Lib.hid (HK1.out.step hb2)
   have HWY2 := Lib.hid (HWY1.out.step hb2)
   have HR2 := Lib.hid (HRY.out.step hb2)
   have HC2 : Hid (Ch (fun b => (b = m ∨ b = mw) ∨ w.heap.size ≤ b) w w2) := Ch.of_belowS (HB1'.out.trans (hb2.mono hs1'))
   obtain ⟨D, hD⟩ : ∃ D, (un - nt).toNat = D := ⟨_, rfl⟩
   have HD := Lib.hid hD
   clear hlu hw2 hb2 hO cW0 lW HE1 HK1 HWY1 HRY HB1' HG HGV R_r_1 c_r_0_1 c_r_1_1 c_r_2_1 z_r_0_1 z_r_1_1 z_r_2_1 l_r_1 hb1 HB1 hw1
   go_loopw [10] (fun v10 wr => ∃ (j : Nat) (ua : Option Addr) (un2 uc : Nat) (F : WayV) (f' : List AskV), j ≤ D ∧ v10 = .int .i64 (nt + 1 + j) ∧ Hid (foldW l ⟨k, fr, un, ps⟩ V nt j = F) ∧ Hid (un2 = F.cuts.length) ∧ Hid (RowY wr O [.int .i64 F.c, .bool F.s, .slice ua un2 uc]) ∧ Hid (SlT wr (.slice ua un2 uc) F.cuts) ∧ Hid (KMap (costV l) wr m f') ∧ Hid (WaysT wr mw V) ∧ Hid (RowY wr w.heap.size [.int .i64 0, .bool false, .slice none 0 0]) ∧ Hid (Ch (fun b => (b = m ∨ b = mw) ∨ w.heap.size ≤ b) w wr)) (fun v10 _ => D - ((intOf v10) - nt - 1).toNat)
   case atStart => exact ⟨0, none, 0, 0, noW, f, Nat.zero_le _, by simp, rfl, rfl, HOY.out, SlT.nil _, HK2.out, HWY2.out, HR2.out, HC2.out⟩
   case round =>
    obtain ⟨j, ua, un2, uc, F, f', hj, rfl, hF, hun2, hOr, hSr, hKr, hWr, hRr, hCr⟩ := hrel
    have hsr := hCr.out.size
    have hEr := HE.out.ch hCr.out (by have := HNN.out; omega) (by have := HNN.out; omega) (by have := HNN.out; omega) (by have := HNN.out; omega)
    have HEr := Lib.hid hEr
    have W0 := hEr.hW.cell 0 rfl
    have A0 := hEr.hA.cell 0 rfl
    have A1 := hEr.hA.cell 1 rfl
    have A2 := hEr.hA.cell 2 rfl
    have A3 := hEr.hA.cell 3 rfl
    have P0 := hEr.hP.cell 0 rfl
    have P1 := hEr.hP.cell 1 rfl
    have lA := hEr.hA.lt
    have lP := hEr.hP.lt
    have lW := hEr.hW.lt
    have hBr : Below w0.heap.size w0 wr := hCr.out.below HB00.out (fun b hb => by omega) hs0
    have HBr := Lib.hid hBr
    clear hEr hBr
    by_cases hlt : j < D
    ·
     obtain ⟨U, hU⟩ : ∃ U, nt + 1 + (j : Int) = U := ⟨_, rfl⟩
     rw [hU]
     have hU1 : U ≤ un := by omega
     have hU2 : nt < U := by omega
     have HU := Lib.hid hU
     obtain ⟨C, hC⟩ : ∃ C, costQ l ⟨k, nt, U, ps⟩ = C := ⟨_, rfl⟩
     obtain ⟨B, hB⟩ : ∃ C, hasQ l ⟨k, nt, U, ps⟩ = C := ⟨_, rfl⟩
     have HCV : Hid (costV l ⟨k, nt, U, ps⟩ = .agg #[.int .i64 C, .bool B]) := by show _ = _; unfold costV; rw [hC, hB]
     have hCb := costQ_bound l ⟨k, nt, U, ps⟩
     rw [hC] at hCb
     obtain ⟨hC0, hC1⟩ := hCb
     have HCQ := Lib.hid hC
     have HBQ := Lib.hid hB
     clear hU hC hB
     go_wp2_with fail
     have hal : Below wr.heap.size wr (wr.alloc (.cells #[.int .i64 k, .int .i64 nt, .int .i64 U, .int .i64 ps] 49)) := (Below.refl _ _).alloc (Nat.le_refl _) _
     have hKa := hKr.out.step hal
     refine (of_any w0 ad n cap l m f' k nt U ps _ HS.out hn (HBr.out.trans (hal.mono HBr.out.size)) hm0 hKa C B HCV.out).mono ?_
     rintro e w3 ⟨rfl, ⟨f3, hk3⟩, hc3⟩
     have hNI : NoInt (wr.alloc (.cells #[.int .i64 k, .int .i64 nt, .int .i64 U, .int .i64 ps] 49)) (fun b => b = m) := fun b e => by subst e; exact isMap_noInt hKa.isMap
     have HO3 := Lib.hid ((hOr.out.step hal).ch hc3 (show ¬ O = m by omega))
     have HS3 := Lib.hid ((hSr.out.step hal).ch hc3 hNI)
     have HW3 := Lib.hid ((hWr.out.step hal).ch hc3 hNI (show ¬ mw = m from fun e => HNE.out e.symm))
     have HR3 := Lib.hid ((hRr.out.step hal).ch hc3 (show ¬ w.heap.size = m by omega))
     have HC3 : Hid (Ch (fun b => (b = m ∨ b = mw) ∨ w.heap.size ≤ b) w w3) := (hCr.out.alloc _).trans (hc3.mono (fun b _ e => Or.inl (Or.inl e)))
     have HK3 := Lib.hid hk3
     have hsz3 := HC3.out.size
     have hOl := HO3.out.row.lt
     clear hal hKa hNI hk3 hc3 W0 A0 A1 A2 A3 P0 P1 lA lP lW HBr
     go_upto_region 11 with fail
     obtain ⟨w4, hw4⟩ : ∃ X, World.alloc w3 (.cells #[.int .i64 C, .bool B, .slice none 0 0] 130) = X := ⟨_, rfl⟩
     rw [hw4]
     have hb4 : Below w3.heap.size w3 w4 := by rw [← hw4]; exact (Below.refl _ _).alloc (Nat.le_refl _) _
     have HX4 : Hid (RowY w4 w3.heap.size [.int .i64 C, .bool B, .slice none 0 0]) := by
      show RowY _ _ _
      rw [← hw4]; exact RowY.new w3 _
     obtain ⟨X, hX⟩ : ∃ X, w3.heap.size = X := ⟨_, rfl⟩
     rw [hX] at HX4
     rw [hX]
     have hOX : O < X := by omega
     have HO4 := Lib.hid (HO3.out.step hb4)
     have HS4 := Lib.hid (HS3.out.step hb4)
     have HW4 := Lib.hid (HW3.out.step hb4)
     have HR4 := Lib.hid (HR3.out.step hb4)
     have HC4 : Hid (Ch (fun b => (b = m ∨ b = mw) ∨ w.heap.size ≤ b) w w4) := HC3.out.trans (Ch.of_belowS hb4)
     have HK4 := Lib.hid (HK3.out.step hb4)
     have HE4 := Lib.hid (HE.out.ch HC4.out (by have := HNN.out; omega) (by have := HNN.out; omega) (by have := HNN.out; omega) (by have := HNN.out; omega))
     have A2 := HE4.out.hA.cell 2 rfl
     have lA := HE4.out.hA.lt
     have X0 := HX4.out.row.cell 0 rfl
     have X1 := HX4.out.row.cell 1 rfl
     have X2 := HX4.out.row.cell 2 rfl
     have lX := HX4.out.row.lt
     clear hb4 hw4 HO3 HS3 HW3 HR3 HC3 HK3 hX hOr hSr hKr hWr hRr hCr HEr
     by_cases hUn : U < un
     ·
      cases B with
      | true =>
       have F0 := HE4.out.hF.cell 0 rfl
       have lF := HE4.out.hF.lt
       have hsz4 := HC4.out.size
       obtain ⟨y, hy⟩ : ∃ y, V U = y := ⟨_, rfl⟩
       have hyb := HV.out.lo U (show fr ≤ U by omega) hUn
       rw [hy] at hyb
       obtain ⟨hy0, hy1, hy2⟩ := hyb
       have HYV := Lib.hid hy
       clear hy
       go_wp2_with fail
       refine (IH.out U (by omega) hUn (by omega) f3 w4 (HC4.out.below HB00.out (fun b hb => by omega) hs0) HE4.out HK4.out HW4.out).mono ?_
       rintro e w5 ⟨v, rfl, hv5, hw5, ⟨f5, hk5⟩, hc5⟩
       rw [HYV.out] at hv5
       obtain ⟨ua5, n5, uc5, hn5, rfl, hsl5⟩ := hv5.form
       have HN5 := Lib.hid hn5
       clear hn5
       have hNI : NoInt w4 (fun b => b = m ∨ b = mw) := fun b e => by
        rcases e with rfl | rfl
        ·
         exact isMap_noInt HK4.out.isMap
        ·
         exact isMap_noInt HW4.out.isMap
       have HO5 := Lib.hid (HO4.out.ch hc5 (show ¬ (O = m ∨ O = mw) by omega))
       have HX5 := Lib.hid (HX4.out.ch hc5 (show ¬ (X = m ∨ X = mw) by omega))
       have HS5 := Lib.hid (HS4.out.ch hc5 hNI)
       have HR5 := Lib.hid (HR4.out.ch hc5 (show ¬ (w.heap.size = m ∨ w.heap.size = mw) by omega))
       have HC5 : Hid (Ch (fun b => (b = m ∨ b = mw) ∨ w.heap.size ≤ b) w w5) := HC4.out.trans (hc5.mono (fun b _ e => Or.inl e))
       have HK5 := Lib.hid hk5
       have HW5 := Lib.hid hw5
       have HY5 := Lib.hid hsl5
       have hXl := HX5.out.row.lt
       clear hNI hv5 hw5 hk5 hc5 hsl5 HO4 HS4 HW4 HR4 HC4 HK4 HX4 HE4 A2 lA X0 X1 X2 lX F0 lF
       go_upto_region 13 with fail
       obtain ⟨w6, hw6⟩ : ∃ X, World.alloc w5 (.cells #[.int .i64 y.c, .bool y.s, .slice ua5 n5 uc5] 130) = X := ⟨_, rfl⟩
       rw [hw6]
       have hb6 : Below w5.heap.size w5 w6 := by rw [← hw6]; exact (Below.refl _ _).alloc (Nat.le_refl _) _
       have HQ6 : Hid (RowY w6 w5.heap.size [.int .i64 y.c, .bool y.s, .slice ua5 n5 uc5]) := by
        show RowY _ _ _
        rw [← hw6]; exact RowY.new w5 _
       obtain ⟨Q, hQ⟩ : ∃ X, w5.heap.size = X := ⟨_, rfl⟩
       rw [hQ] at HQ6
       rw [hQ]
       have hXQ : X < Q := by omega
       have HX6 := Lib.hid (HX5.out.step hb6)
       have HO6 := Lib.hid (HO5.out.step hb6)
       have HS6 := Lib.hid (HS5.out.step hb6)
       have HY6 := Lib.hid (HY5.out.step hb6)
       have HW6 := Lib.hid (HW5.out.step hb6)
       have HR6 := Lib.hid (HR5.out.step hb6)
       have HK6 := Lib.hid (HK5.out.step hb6)
       have HC6 : Hid (Ch (fun b => (b = m ∨ b = mw) ∨ w.heap.size ≤ b) w w6) := HC5.out.trans (Ch.of_belowS hb6)
       have HWR : Hid (IntKind.i64.wrap (C + y.c) = C + y.c) := IntWalk.i64_in _ (by omega)
       clear hb6 hw6 HO5 HX5 HS5 HR5 HC5 HK5 HW5 HY5 hQ
       refine AnyJ.beginP (fun W => W.cell? ⟨Q, 0, none⟩ = some (.int .i64 y.c) ∧ W.cell? ⟨Q, 1, none⟩ = some (.bool y.s)) (fun j => decide (j ≤ 12)) (by kernel_rfl) ⟨HQ6.out.row.drew.cell 0 rfl, HQ6.out.row.drew.cell 1 rfl⟩ (fun hS => ?_)
       have u0 : w6.drew.cell? ⟨X, 0, none⟩ = some (.int .i64 C) := HX6.out.row.drew.cell 0 rfl
       have u1 : w6.drew.cell? ⟨X, 1, none⟩ = some (.bool true) := HX6.out.row.drew.cell 1 rfl
       have uz0 := HX6.out.row.drew.frozen 0
       have uz1 := HX6.out.row.drew.frozen 1
       have ul := HX6.out.row.drew.lt
       have hS' : (World.drew (World.setCell w6 ⟨X, 0, none⟩ (.int .i64 (C + y.c)))).cell? ⟨Q, 0, none⟩ = some (.int .i64 y.c) ∧ (World.drew (World.setCell w6 ⟨X, 0, none⟩ (.int .i64 (C + y.c)))).cell? ⟨Q, 1, none⟩ = some (.bool y.s) := ⟨((HQ6.out.row.other (a := ⟨X, 0, none⟩) (show Q ≠ X by omega) _).drew).cell 0 rfl, ((HQ6.out.row.other (a := ⟨X, 0, none⟩) (show Q ≠ X by omega) _).drew).cell 1 rfl⟩
       have HS' := Lib.hid hS'
       clear hS'
       refine AnyJ.takeD (i := 0) (d := some 51) (v := ?_) rfl (by kernel_rfl) (by kernel_rfl) (by kernel_rfl) (by kernel_rfl) (by kernel_rfl) (fun _ _ _ h => h) (Or.inl ⟨by kernel_rfl, ?_⟩) hS ?_
       rotate_left
       ·
        intro w' hS
        obtain ⟨s0, s1⟩ := hS
        go_simp
        try with_reducible rfl
       refine AnyJ.takeD (i := 1) (d := some 52) (v := ?_) rfl (by kernel_rfl) (by kernel_rfl) (by kernel_rfl) (by kernel_rfl) (by kernel_rfl) (fun _ _ _ h => h) (Or.inl ⟨by kernel_rfl, ?_⟩) hS ?_
       rotate_left
       ·
        intro w' hS
        obtain ⟨s0, s1⟩ := hS
        go_simp
        try with_reducible rfl
       refine AnyJ.takeD (i := 3) (d := some 54) (v := ?_) rfl (by kernel_rfl) (by kernel_rfl) (by kernel_rfl) (by kernel_rfl) (by kernel_rfl) (fun _ _ _ h => h) (Or.inl ⟨by kernel_rfl, ?_⟩) hS ?_
       rotate_left
       ·
        intro w' hS
        obtain ⟨s0, s1⟩ := hS
        go_simp
        try with_reducible rfl
       refine AnyJ.takeD (i := 4) (d := some 55) (v := ?_) rfl (by kernel_rfl) (by kernel_rfl) (by kernel_rfl) (by kernel_rfl) (by kernel_rfl) (fun _ _ _ h => h) (Or.inl ⟨by kernel_rfl, ?_⟩) hS ?_
       rotate_left
       ·
        intro w' hS
        obtain ⟨s0, s1⟩ := hS
        go_simp
        try with_reducible rfl
       refine AnyJ.takeD (i := 5) (d := some 56) (v := ?_) rfl (by kernel_rfl) (by kernel_rfl) (by kernel_rfl) (by kernel_rfl) (by kernel_rfl) (fun _ _ _ h => h) (Or.inl ⟨by kernel_rfl, ?_⟩) hS ?_
       rotate_left
       ·
        intro w' hS
        obtain ⟨s0, s1⟩ := hS
        go_simp
        try with_reducible rfl
       refine AnyJ.takeD (i := 7) (d := some 58) (v := ?_) rfl (by kernel_rfl) (by kernel_rfl) (by kernel_rfl) (by kernel_rfl) (by kernel_rfl) (fun _ _ _ h => h) (Or.inl ⟨by kernel_rfl, ?_⟩) hS ?_
       rotate_left
       ·
        intro w' hS
        obtain ⟨s0, s1⟩ := hS
        go_simp
        try with_reducible rfl
       refine AnyJ.takeD (i := 8) (d := some 59) (v := ?_) rfl (by kernel_rfl) (by kernel_rfl) (by kernel_rfl) (by kernel_rfl) (by kernel_rfl) (fun _ _ _ h => h) (Or.inl ⟨by kernel_rfl, ?_⟩) hS ?_
       rotate_left
       ·
        intro w' hS
        obtain ⟨s0, s1⟩ := hS
        go_simp
        try with_reducible rfl
       refine AnyJ.takeD (i := 9) (d := some 60) (v := ?_) rfl (by kernel_rfl) (by kernel_rfl) (by kernel_rfl) (by kernel_rfl) (by kernel_rfl) (fun _ _ _ h => h) (Or.inl ⟨by kernel_rfl, ?_⟩) hS ?_
       rotate_left
       ·
        intro w' hS
        obtain ⟨s0, s1⟩ := hS
        go_simp
        try with_reducible rfl
       refine AnyJ.one (i := 2) (by kernel_rfl) rfl (fun Kz hKz => ?_)
       go_simp
       refine hKz _ _ (fun _ => hS) ?_
       clear hKz Kz
       refine AnyJ.one (i := 6) (by kernel_rfl) rfl (fun Kz hKz => ?_)
       go_simp
       refine hKz _ _ (fun _ => hS) ?_
       clear hKz Kz
       refine AnyJ.one (i := 10) (by kernel_rfl) rfl (fun Kz hKz => ?_)
       go_simp
       refine hKz _ _ (fun _ => hS) ?_
       clear hKz Kz
       refine AnyJ.one (i := 11) (by kernel_rfl) rfl (fun Kz hKz => ?_)
       go_simp
       refine hKz _ _ (fun _ => hS) ?_
       clear hKz Kz
       refine AnyJ.one (i := 12) (by kernel_rfl) rfl (fun Kz hKz => ?_)
       go_simp
       try simp only [HWR.out]
       refine hKz _ _ (fun _ => HS'.out) ?_
       clear hKz Kz hS
       obtain ⟨w7, hw7⟩ : ∃ Y, World.drew (World.setCell w6 ⟨X, 0, none⟩ (.int .i64 (C + y.c))) = Y := ⟨_, rfl⟩
       rw [hw7]
       have HX7 : Hid (RowY w7 X [.int .i64 (C + y.c), .bool true, .slice none 0 0]) := by
        show RowY _ _ _
        rw [← hw7]; exact HX6.out.put 0 _
       have HC7 : Hid (Ch (fun b => b = X) w6 w7) := by
        show Ch _ _ _
        rw [← hw7]; exact ((Ch.refl (fun b => b = X) w6).setCell (p := ⟨X, 0, none⟩) rfl _).drew
       clear u0 u1 uz0 uz1 ul hw7
       have u1 := HX7.out.row.cell 1 rfl
       have uz1 := HX7.out.row.frozen 1
       have ul := HX7.out.row.lt
       refine AnyJ.one (i := 13) (by kernel_rfl) rfl (fun Kz hKz => ?_)
       go_simp
       refine hKz _ _ (fun h => by cases h) ?_
       clear hKz Kz
       refine AnyJ.one (i := 14) (by kernel_rfl) rfl (fun Kz hKz => ?_)
       go_simp
       refine hKz _ _ (fun h => by cases h) ?_
       clear hKz Kz
       refine AnyJ.one (i := 15) (by kernel_rfl) rfl (fun Kz hKz => ?_)
       go_simp
       refine hKz _ _ (fun h => by cases h) ?_
       clear hKz Kz
       refine AnyJ.done (by kernel_rfl) ?_ _
       try simp only [Act.put, List.setIfInBounds_toArray, List.set_cons_zero, List.set_cons_succ]
       obtain ⟨w8, hw8⟩ : ∃ Y, World.setCell w7 ⟨X, 1, none⟩ (.bool y.s) = Y := ⟨_, rfl⟩
       rw [hw8]
       have HX8 : Hid (RowY w8 X [.int .i64 (C + y.c), .bool y.s, .slice none 0 0]) := by
        show RowY _ _ _
        rw [← hw8]; exact HX7.out.put 1 _
       have hc8 : Ch (fun b => b = X) w6 w8 := by
        rw [← hw8]; exact HC7.out.setCell (p := ⟨X, 1, none⟩) rfl _
       have hni := HX6.out.noInt
       have HO8 := Lib.hid (HO6.out.ch hc8 (show ¬ O = X by omega))
       have HQ8 := Lib.hid (HQ6.out.ch hc8 (show ¬ Q = X by omega))
       have HS8 := Lib.hid (HS6.out.ch hc8 hni)
       have HY8 := Lib.hid (HY6.out.ch hc8 hni)
       have HW8 := Lib.hid (HW6.out.ch hc8 hni (show ¬ mw = X by omega))
       have HR8 := Lib.hid (HR6.out.ch hc8 (show ¬ w.heap.size = X by omega))
       have HK8 := Lib.hid (HK6.out.of_block (hc8.2.2.2.2 m (by have := HK6.out.lt; omega) (show ¬ m = X by omega)))
       have HC8 : Hid (Ch (fun b => (b = m ∨ b = mw) ∨ w.heap.size ≤ b) w w8) := HC6.out.trans (hc8.mono (fun b _ e => Or.inr (by omega)))
       have Q2 := HQ8.out.row.cell 2 rfl
       have lQ := HQ8.out.row.lt
       have hal : Below w8.heap.size w8 (w8.alloc (.cells #[.int .i64 U] 3)) := (Below.refl _ _).alloc (Nat.le_refl _) _
       have HAL := Lib.hid hal
       have HSY := Lib.hid (HY8.out.step hal).1
       have HLN : Hid ([U].length + y.cuts.length ≤ 1000000000) := by show _ ≤ _; simp; omega
       clear hw8 hc8 hni HC7 HX7 u1 uz1 ul HO6 HQ6 HS6 HY6 HW6 HR6 HK6 HC6 HX6 hal
       go_upto_region 15 with (at_builtin; refine wpList_append_ints rfl _ _ _ rfl Try.underlying56 w8.heap.size _ [U] rfl (OwnV.lit1 w8 U) _ y.cuts rfl HSY.out HLN.out (by simp) ?_; intro v' v9 hown hbl hsz; obtain ⟨a8, n8, c8, rfl, hn8, hown8⟩ := hown.form4; have HN8 := Lib.hid hn8; clear hn8; have HOWN := Lib.hid hown8; have HBL := Lib.hid (hbl w8 HAL.out); have HX9a := Lib.hid (HX8.out.step HBL.out); have x90 := HX9a.out.row.cell 2 rfl; have x9z := HX9a.out.row.frozen 2; have x9l := HX9a.out.row.lt; clear hown hbl hown8)
       obtain ⟨w9, hw9⟩ : ∃ Y, World.setCell v9 ⟨X, 2, none⟩ (.slice a8 n8 c8) = Y := ⟨_, rfl⟩
       rw [hw9]
       obtain ⟨G, hG⟩ : ∃ G : WayV, G = ⟨C + y.c, y.s, U :: y.cuts⟩ := ⟨_, rfl⟩
       have HX9 : Hid (RowY w9 X [.int .i64 G.c, .bool G.s, .slice a8 n8 c8]) := by
        show RowY _ _ _
        rw [← hw9, hG]; exact HX9a.out.put 2 _
       have hc9 : Ch (fun b => b = X) v9 w9 := by
        rw [← hw9]; exact (Ch.refl (fun b => b = X) v9).setCell (p := ⟨X, 2, none⟩) rfl _
       have hni := HX9a.out.noInt
       have HO9 := Lib.hid ((HO8.out.step HBL.out).ch hc9 (show ¬ O = X by omega))
       have HS9 := Lib.hid ((HS8.out.step HBL.out).ch hc9 hni)
       have HT9 : Hid (SlT w9 (.slice a8 n8 c8) G.cuts) := by
        show SlT _ _ _
        rw [hG]
        exact (SlT.own HOWN.out).ch hc9 hni
       have HW9 := Lib.hid ((HW8.out.step HBL.out).ch hc9 hni (show ¬ mw = X by omega))
       have HR9 := Lib.hid ((HR8.out.step HBL.out).ch hc9 (show ¬ w.heap.size = X by omega))
       have HK9 := Lib.hid ((HK8.out.step HBL.out).of_block (hc9.2.2.2.2 m (by have := (HK8.out.step HBL.out).lt; omega) (show ¬ m = X by omega)))
       have HC9 : Hid (Ch (fun b => (b = m ∨ b = mw) ∨ w.heap.size ≤ b) w w9) := (HC8.out.trans (Ch.of_belowS HBL.out)).trans (hc9.mono (fun b _ e => Or.inr (by omega)))
       have HCAND : Hid (candW l ⟨k, fr, un, ps⟩ V nt U = G) := by
        show _ = _
        unfold candW
        rw [HBQ.out, HCQ.out, HYV.out, if_pos (by simp [hUn]), hG]
       have HGS : Hid (G.s = G.s) := rfl
       have HN8G : Hid (n8 = G.cuts.length) := by
        show _ = _
        rw [hG]; exact HN8.out
       clear hw9 hc9 hni hG HN8 x90 x9z x9l HX9a HO8 HS8 HW8 HR8 HK8 HC8 HX8 HOWN HBL HAL HSY HLN HQ8 HY8 Q2 lQ
       have HN8 := HN8G
       have x0 := HX9.out.row.cell 0 rfl
       have x1 := HX9.out.row.cell 1 rfl
       have x2 := HX9.out.row.cell 2 rfl
       have xl := HX9.out.row.lt
       have o0 := HO9.out.row.cell 0 rfl
       have o1 := HO9.out.row.cell 1 rfl
       have o2 := HO9.out.row.cell 2 rfl
       have ol := HO9.out.row.lt
       have oz0 := HO9.out.row.frozen 0
       have oz1 := HO9.out.row.frozen 1
       have oz2 := HO9.out.row.frozen 2
       obtain ⟨b, hb⟩ : ∃ b, betterN G.c G.s n8 F.c F.s un2 = b := ⟨_, rfl⟩
       have HB := Lib.hid hb
       have HFN : Hid (foldW l ⟨k, fr, un, ps⟩ V nt (j + 1) = if b then G else F) := by
        show _ = _
        unfold foldW
        rw [hF.out, show nt + 1 + (j : Int) = U from HU.out, HCAND.out, betterW_N, HGS.out, ← HN8.out, ← hun2.out, HB.out]
       clear hb
       go_wp2_with fail
       refine (wbetter_any G.c F.c G.s F.s a8 ua n8 un2 c8 uc w9 b HB.out).mono ?_
       rintro e w10 ⟨rfl, hb10⟩
       have HX10 := Lib.hid (HX9.out.step hb10)
       have HO10 := Lib.hid (HO9.out.step hb10)
       have HS10 := Lib.hid (HS9.out.step hb10)
       have HT10 := Lib.hid (HT9.out.step hb10)
       have HK10 := Lib.hid (HK9.out.step hb10)
       have HW10 := Lib.hid (HW9.out.step hb10)
       have HR10 := Lib.hid (HR9.out.step hb10)
       have HC10 : Hid (Ch (fun b => (b = m ∨ b = mw) ∨ w.heap.size ≤ b) w w10) := HC9.out.trans (Ch.of_belowS hb10)
       have HUJ : Hid (Value.int .i64 (U + 1) = .int .i64 (nt + 1 + ((j + 1 : Nat) : Int))) := by
        show _ = _
        rw [show U + 1 = nt + 1 + ((j + 1 : Nat) : Int) by have := HU.out; omega]
       clear hb10 x0 x1 x2 xl o0 o1 o2 ol oz0 oz1 oz2 HX9 HO9 HS9 HT9 HK9 HW9 HR9 HC9
       cases b with
       | false =>
        go_wp2_with fail
        go_roundw
        case rel => exact ⟨j + 1, ua, un2, uc, F, f5, by omega, HUJ.out, HFN.out, hun2.out, HO10.out, HS10.out, HK10.out, HW10.out, HR10.out, HC10.out⟩
        case measure => simp [intOf]; omega
       | true =>
        have x0 := HX10.out.row.cell 0 rfl
        have x1 := HX10.out.row.cell 1 rfl
        have x2 := HX10.out.row.cell 2 rfl
        have xl := HX10.out.row.lt
        have o0 := HO10.out.row.cell 0 rfl
        have o1 := HO10.out.row.cell 1 rfl
        have o2 := HO10.out.row.cell 2 rfl
        have ol := HO10.out.row.lt
        have oz0 := HO10.out.row.frozen 0
        have oz1 := HO10.out.row.frozen 1
        have oz2 := HO10.out.row.frozen 2
        obtain ⟨y1, y2⟩ := put3Y_all HO10.out (.int .i64 G.c) (.bool G.s) (.slice a8 n8 c8)
        have hni := HO10.out.noInt
        have z1 : Ch (fun b => (b = m ∨ b = mw) ∨ w.heap.size ≤ b) w (put3Y w10 O (.int .i64 G.c) (.bool G.s) (.slice a8 n8 c8)) := HC10.out.trans (y2.mono (fun b _ e => Or.inr (by omega)))
        have z2 := HT10.out.ch y2 hni
        have z3 := HW10.out.ch y2 hni (show ¬ mw = O by omega)
        have z4 := HK10.out.of_block (y2.2.2.2.2 m (by have := HK10.out.lt; omega) (show ¬ m = O by omega))
        have z5 := HR10.out.ch y2 (show ¬ w.heap.size = O by omega)
        have Z0 := Lib.hid y1
        have Z1 := Lib.hid z1
        have Z2 := Lib.hid z2
        have Z3 := Lib.hid z3
        have Z4 := Lib.hid z4
        have Z5 := Lib.hid z5
        clear y1 y2 hni z1 z2 z3 z4 z5
        go_wp2_with fail
        go_roundw
        case rel => exact ⟨j + 1, a8, n8, c8, G, f5, by omega, HUJ.out, HFN.out, HN8.out, (by show RowY _ _ _; first | exact Z0.out | (rw [HGS.out]; exact Z0.out)), Z2.out, Z4.out, Z3.out, Z5.out, Z1.out⟩
        case measure => simp [intOf]; omega
      | false =>
       obtain ⟨G, hG⟩ : ∃ G : WayV, G = ⟨C, false, []⟩ := ⟨_, rfl⟩
       have HX9 : Hid (RowY w4 X [.int .i64 G.c, .bool false, .slice none 0 0]) := by
        show RowY _ _ _
        rw [hG]; exact HX4.out
       have HGS : Hid (G.s = false) := by show _ = _; rw [hG]
       have HT9 : Hid (SlT w4 (.slice none 0 0) G.cuts) := by show SlT _ _ _; rw [hG]; exact SlT.nil _
       have HN8 : Hid (0 = G.cuts.length) := by show _ = _; rw [hG]; rfl
       have HCAND : Hid (candW l ⟨k, fr, un, ps⟩ V nt U = G) := by
        show _ = _
        unfold candW
        rw [HBQ.out, HCQ.out, if_neg (by simp), hG]
       have HO9 := HO4
       have HS9 := HS4
       have HW9 := HW4
       have HR9 := HR4
       have HK9 := HK4
       have HC9 := HC4
       clear hG X0 X1 X2
       have X1 := HX9.out.row.cell 1 rfl
       have x0 := HX9.out.row.cell 0 rfl
       have x1 := HX9.out.row.cell 1 rfl
       have x2 := HX9.out.row.cell 2 rfl
       have xl := HX9.out.row.lt
       have o0 := HO9.out.row.cell 0 rfl
       have o1 := HO9.out.row.cell 1 rfl
       have o2 := HO9.out.row.cell 2 rfl
       have ol := HO9.out.row.lt
       have oz0 := HO9.out.row.frozen 0
       have oz1 := HO9.out.row.frozen 1
       have oz2 := HO9.out.row.frozen 2
       obtain ⟨b, hb⟩ : ∃ b, betterN G.c false 0 F.c F.s un2 = b := ⟨_, rfl⟩
       have HB := Lib.hid hb
       have HFN : Hid (foldW l ⟨k, fr, un, ps⟩ V nt (j + 1) = if b then G else F) := by
        show _ = _
        unfold foldW
        rw [hF.out, show nt + 1 + (j : Int) = U from HU.out, HCAND.out, betterW_N, HGS.out, ← HN8.out, ← hun2.out, HB.out]
       clear hb
       go_wp2_with fail
       refine (wbetter_any G.c F.c false F.s none ua 0 un2 0 uc w4 b HB.out).mono ?_
       rintro e w10 ⟨rfl, hb10⟩
       have HX10 := Lib.hid (HX9.out.step hb10)
       have HO10 := Lib.hid (HO9.out.step hb10)
       have HS10 := Lib.hid (HS9.out.step hb10)
       have HT10 := Lib.hid (HT9.out.step hb10)
       have HK10 := Lib.hid (HK9.out.step hb10)
       have HW10 := Lib.hid (HW9.out.step hb10)
       have HR10 := Lib.hid (HR9.out.step hb10)
       have HC10 : Hid (Ch (fun b => (b = m ∨ b = mw) ∨ w.heap.size ≤ b) w w10) := HC9.out.trans (Ch.of_belowS hb10)
       have HUJ : Hid (Value.int .i64 (U + 1) = .int .i64 (nt + 1 + ((j + 1 : Nat) : Int))) := by
        show _ = _
        rw [show U + 1 = nt + 1 + ((j + 1 : Nat) : Int) by have := HU.out; omega]
       clear hb10 x0 x1 x2 xl o0 o1 o2 ol oz0 oz1 oz2 HX9 HO9 HS9 HT9 HK9 HW9 HR9 HC9
       cases b with
       | false =>
        go_wp2_with fail
        go_roundw
        case rel => exact ⟨j + 1, ua, un2, uc, F, f3, by omega, HUJ.out, HFN.out, hun2.out, HO10.out, HS10.out, HK10.out, HW10.out, HR10.out, HC10.out⟩
        case measure => simp [intOf]; omega
       | true =>
        have x0 := HX10.out.row.cell 0 rfl
        have x1 := HX10.out.row.cell 1 rfl
        have x2 := HX10.out.row.cell 2 rfl
        have xl := HX10.out.row.lt
        have o0 := HO10.out.row.cell 0 rfl
        have o1 := HO10.out.row.cell 1 rfl
        have o2 := HO10.out.row.cell 2 rfl
        have ol := HO10.out.row.lt
        have oz0 := HO10.out.row.frozen 0
        have oz1 := HO10.out.row.frozen 1
        have oz2 := HO10.out.row.frozen 2
        obtain ⟨y1, y2⟩ := put3Y_all HO10.out (.int .i64 G.c) (.bool false) (.slice none 0 0)
        have hni := HO10.out.noInt
        have z1 : Ch (fun b => (b = m ∨ b = mw) ∨ w.heap.size ≤ b) w (put3Y w10 O (.int .i64 G.c) (.bool false) (.slice none 0 0)) := HC10.out.trans (y2.mono (fun b _ e => Or.inr (by omega)))
        have z2 := HT10.out.ch y2 hni
        have z3 := HW10.out.ch y2 hni (show ¬ mw = O by omega)
        have z4 := HK10.out.of_block (y2.2.2.2.2 m (by have := HK10.out.lt; omega) (show ¬ m = O by omega))
        have z5 := HR10.out.ch y2 (show ¬ w.heap.size = O by omega)
        have Z0 := Lib.hid y1
        have Z1 := Lib.hid z1
        have Z2 := Lib.hid z2
        have Z3 := Lib.hid z3
        have Z4 := Lib.hid z4
        have Z5 := Lib.hid z5
        clear y1 y2 hni z1 z2 z3 z4 z5
        go_wp2_with fail
        go_roundw
        case rel => exact ⟨j + 1, none, 0, 0, G, f3, by omega, HUJ.out, HFN.out, HN8.out, (by show RowY _ _ _; first | exact Z0.out | (rw [HGS.out]; exact Z0.out)), Z2.out, Z4.out, Z3.out, Z5.out, Z1.out⟩
        case measure => simp [intOf]; omega
     ·
      obtain ⟨G, hG⟩ : ∃ G : WayV, G = ⟨C, B, []⟩ := ⟨_, rfl⟩
      have HX9 : Hid (RowY w4 X [.int .i64 G.c, .bool G.s, .slice none 0 0]) := by
       show RowY _ _ _
       rw [hG]; exact HX4.out
      have HGS : Hid (G.s = G.s) := rfl
      have HT9 : Hid (SlT w4 (.slice none 0 0) G.cuts) := by show SlT _ _ _; rw [hG]; exact SlT.nil _
      have HN8 : Hid (0 = G.cuts.length) := by show _ = _; rw [hG]; rfl
      have HCAND : Hid (candW l ⟨k, fr, un, ps⟩ V nt U = G) := by
       show _ = _
       unfold candW
       rw [HBQ.out, HCQ.out, if_neg (by simp [hUn]), hG]
      have HO9 := HO4
      have HS9 := HS4
      have HW9 := HW4
      have HR9 := HR4
      have HK9 := HK4
      have HC9 := HC4
      clear hG X0 X1 X2
      have x0 := HX9.out.row.cell 0 rfl
      have x1 := HX9.out.row.cell 1 rfl
      have x2 := HX9.out.row.cell 2 rfl
      have xl := HX9.out.row.lt
      have o0 := HO9.out.row.cell 0 rfl
      have o1 := HO9.out.row.cell 1 rfl
      have o2 := HO9.out.row.cell 2 rfl
      have ol := HO9.out.row.lt
      have oz0 := HO9.out.row.frozen 0
      have oz1 := HO9.out.row.frozen 1
      have oz2 := HO9.out.row.frozen 2
      obtain ⟨b, hb⟩ : ∃ b, betterN G.c G.s 0 F.c F.s un2 = b := ⟨_, rfl⟩
      have HB := Lib.hid hb
      have HFN : Hid (foldW l ⟨k, fr, un, ps⟩ V nt (j + 1) = if b then G else F) := by
       show _ = _
       unfold foldW
       rw [hF.out, show nt + 1 + (j : Int) = U from HU.out, HCAND.out, betterW_N, HGS.out, ← HN8.out, ← hun2.out, HB.out]
      clear hb
      go_wp2_with fail
      refine (wbetter_any G.c F.c G.s F.s none ua 0 un2 0 uc w4 b HB.out).mono ?_
      rintro e w10 ⟨rfl, hb10⟩
      have HX10 := Lib.hid (HX9.out.step hb10)
      have HO10 := Lib.hid (HO9.out.step hb10)
      have HS10 := Lib.hid (HS9.out.step hb10)
      have HT10 := Lib.hid (HT9.out.step hb10)
      have HK10 := Lib.hid (HK9.out.step hb10)
      have HW10 := Lib.hid (HW9.out.step hb10)
      have HR10 := Lib.hid (HR9.out.step hb10)
      have HC10 : Hid (Ch (fun b => (b = m ∨ b = mw) ∨ w.heap.size ≤ b) w w10) := HC9.out.trans (Ch.of_belowS hb10)
      have HUJ : Hid (Value.int .i64 (U + 1) = .int .i64 (nt + 1 + ((j + 1 : Nat) : Int))) := by
       show _ = _
       rw [show U + 1 = nt + 1 + ((j + 1 : Nat) : Int) by have := HU.out; omega]
      clear hb10 x0 x1 x2 xl o0 o1 o2 ol oz0 oz1 oz2 HX9 HO9 HS9 HT9 HK9 HW9 HR9 HC9
      cases b with
      | false =>
       go_wp2_with fail
       go_roundw
       case rel => exact ⟨j + 1, ua, un2, uc, F, f3, by omega, HUJ.out, HFN.out, hun2.out, HO10.out, HS10.out, HK10.out, HW10.out, HR10.out, HC10.out⟩
       case measure => simp [intOf]; omega
      | true =>
       have x0 := HX10.out.row.cell 0 rfl
       have x1 := HX10.out.row.cell 1 rfl
       have x2 := HX10.out.row.cell 2 rfl
       have xl := HX10.out.row.lt
       have o0 := HO10.out.row.cell 0 rfl
       have o1 := HO10.out.row.cell 1 rfl
       have o2 := HO10.out.row.cell 2 rfl
       have ol := HO10.out.row.lt
       have oz0 := HO10.out.row.frozen 0
       have oz1 := HO10.out.row.frozen 1
       have oz2 := HO10.out.row.frozen 2
       obtain ⟨y1, y2⟩ := put3Y_all HO10.out (.int .i64 G.c) (.bool G.s) (.slice none 0 0)
       have hni := HO10.out.noInt
       have z1 : Ch (fun b => (b = m ∨ b = mw) ∨ w.heap.size ≤ b) w (put3Y w10 O (.int .i64 G.c) (.bool G.s) (.slice none 0 0)) := HC10.out.trans (y2.mono (fun b _ e => Or.inr (by omega)))
       have z2 := HT10.out.ch y2 hni
       have z3 := HW10.out.ch y2 hni (show ¬ mw = O by omega)
       have z4 := HK10.out.of_block (y2.2.2.2.2 m (by have := HK10.out.lt; omega) (show ¬ m = O by omega))
       have z5 := HR10.out.ch y2 (show ¬ w.heap.size = O by omega)
       have Z0 := Lib.hid y1
       have Z1 := Lib.hid z1
       have Z2 := Lib.hid z2
       have Z3 := Lib.hid z3
       have Z4 := Lib.hid z4
       have Z5 := Lib.hid z5
       clear y1 y2 hni z1 z2 z3 z4 z5
       go_wp2_with fail
       go_roundw
       case rel => exact ⟨j + 1, none, 0, 0, G, f3, by omega, HUJ.out, HFN.out, HN8.out, (by show RowY _ _ _; first | exact Z0.out | (rw [HGS.out]; exact Z0.out)), Z2.out, Z4.out, Z3.out, Z5.out, Z1.out⟩
       case measure => simp [intOf]; omega
    ·
     obtain rfl : D = j := by omega
     have hFx : F = x := by
      have h1 := HV.out.eq nt hn1 hn2
      rw [HX.out] at h1
      have h2 := hF.out
      rw [← HD.out] at h2
      exact h2.symm.trans h1
     subst hFx
     have hlo : ¬ (nt + 1 + (D : Int) ≤ un) := by omega
     obtain ⟨g, hg, hgv⟩ := hWr.out
     have HGV := Lib.hid hgv
     have HG := Lib.hid hg
     have hWay : WayT wr (.agg #[.int .i64 F.c, .bool F.s, .slice ua un2 uc]) (V nt) := by
      rw [HX.out]
      exact ⟨_, rfl, hSr.out⟩
     have HWay := Lib.hid hWay
     have o0 := hOr.out.row.cell 0 rfl
     have o1 := hOr.out.row.cell 1 rfl
     have o2 := hOr.out.row.cell 2 rfl
     have ol := hOr.out.row.lt
     clear hg hgv hWay
     go_upto_region 18 with (refine wpList_update_imap _ rfl _ _ _ 145 (.inl rfl) 3 130 Try.underlying145 Try.underlying3 _ _ rfl HG.out nt _ rfl rfl ?_; intro w5 hm5 hg5)
     have hc5 : Ch (fun b => b = mw) wr w5 := Ch.of_grown hg5 (fun b e => by cases e; rfl)
     have hNI : NoInt wr (fun b => b = mw) := fun b e => by subst e; exact isMap_noInt hWr.out.isMap
     have HW5 := Lib.hid (WaysT.put hg5 HWay.out HGV.out hWr.out.isMap hm5)
     have HO5 := Lib.hid (hOr.out.ch hc5 (show ¬ O = mw by omega))
     have HR5 := Lib.hid (hRr.out.ch hc5 (show ¬ w.heap.size = mw by omega))
     have HS5 := Lib.hid (hSr.out.ch hc5 hNI)
     have HK5 := Lib.hid (hKr.out.of_block (hc5.2.2.2.2 m hKr.out.lt (show ¬ m = mw from HNE.out)))
     have HC5 : Hid (Ch (fun b => (b = m ∨ b = mw) ∨ w.heap.size ≤ b) w w5) := hCr.out.trans (hc5.mono (fun b _ e => Or.inl (Or.inr e)))
     clear hc5 hNI hm5 hg5 o0 o1 o2 ol W0 A0 A1 A2 A3 P0 P1 lA lP lW
     have o0 := HO5.out.row.cell 0 rfl
     have o1 := HO5.out.row.cell 1 rfl
     have o2 := HO5.out.row.cell 2 rfl
     have ol := HO5.out.row.lt
     have r0 := HR5.out.row.cell 0 rfl
     have r1 := HR5.out.row.cell 1 rfl
     have r2 := HR5.out.row.cell 2 rfl
     have rl := HR5.out.row.lt
     have rz0 := HR5.out.row.frozen 0
     have rz1 := HR5.out.row.frozen 1
     have rz2 := HR5.out.row.frozen 2
     go_wp2_with fail
     obtain ⟨y1, y2⟩ := put3Y_all HR5.out (.int .i64 F.c) (.bool F.s) (.slice ua un2 uc)
     have RP := y1.row
     have q0 := RP.cell 0 rfl
     have q1 := RP.cell 1 rfl
     have q2 := RP.cell 2 rfl
     have hni := HR5.out.noInt
     have z1 : Ch (fun b => (b = m ∨ b = mw) ∨ w.heap.size ≤ b) w (put3Y w5 w.heap.size (.int .i64 F.c) (.bool F.s) (.slice ua un2 uc)) := HC5.out.trans (y2.mono (fun b _ e => Or.inr (by omega)))
     have z2 := HS5.out.ch y2 hni
     have z3 := HW5.out.ch y2 hni (show ¬ mw = w.heap.size by omega)
     have z4 := HK5.out.of_block (y2.2.2.2.2 m (by have := HK5.out.lt; omega) (show ¬ m = w.heap.size by omega))
     unfold put3Y at *
     refine bodyPost_ret (v := .agg #[.int .i64 F.c, .bool F.s, .slice ua un2 uc]) (by simp [results, Try.results106, go_sem, q0, q1, q2]) rfl ⟨_, rfl, ⟨_, rfl, z2⟩, z3, ⟨_, z4⟩, z1.own⟩
end
section
set_option linter.unusedSimpArgs false
set_option linter.unusedVariables false
open Go.RowKit
set_option maxRecDepth 100000 in
set_option maxHeartbeats 3200000 in
theorem best_any (w0 : World) (ad : Option Addr) (n cap : Nat) (l : List RateV) (k fr un ps : Int) (V : Int → WayV) (hs : SlR w0 ad n l) (hn : n ≤ 9223372036854775807) (hV : RecW l ⟨k, fr, un, ps⟩ V) (h0 : 0 ≤ fr) (hfu : fr < un) (h366 : un ≤ 366) (m : Nat) (hm0 : w0.heap.size ≤ m)
  (f : List AskV) (w : World) (hb0 : Below w0.heap.size w0 w) (hk : KMap (costV l) w m f) (x : WayV) (hx : V fr = x) :
  Calls Try.prog 88 #[.agg #[.slice ad n cap, .map (some m)], .agg #[.int .i64 k, .int .i64 fr, .int .i64 un, .int .i64 ps]] w fun e w' => ∃ v, e = .returned v ∧ WayT w' v x ∧ (∃ f', KMap (costV l) w' m f') ∧ Ch (fun b => b = m) w w' := by
 have HS := Lib.hid hs
 have HV := Lib.hid hV
 have HK := Lib.hid hk
 have HB0 := Lib.hid hb0
 have HX := Lib.hid hx
 have hmL := hk.lt
 have hs0 := hb0.size
 clear hs hV hk hb0 hx
 have hmm := @run_makeMap Try.prog
 go_enter Try.func88, Try.ntmps88
 go_wp2_with fail
 obtain ⟨w1, hw1⟩ : ∃ X, World.alloc (World.alloc (World.alloc (World.alloc (World.alloc (World.alloc w (.cells #[.slice ad n cap, .map (some m)] 99)) (.cells #[.int .i64 k, .int .i64 fr, .int .i64 un, .int .i64 ps] 49)) (.cells #[.int .i64 0, .bool false, .slice none 0 0] 130)) (.map #[] 0)) (.cells #[.map (some (w.heap.size + 1 + 1 + 1))] 145)) (.cells #[bestFn (w.heap.size + 1 + 1 + 1 + 1) (w.heap.size + 1) w.heap.size (w.heap.size + 1 + 1 + 1 + 1 + 1)] 146) = X := ⟨_, rfl⟩
 rw [hw1]
 have hb1 : Below w.heap.size w w1 := by rw [← hw1]; (repeat' (first | (with_reducible first | exact Below.refl _ _ | assumption | exact Bw.out (by assumption) | refine bw_alloc ?_ _ | refine bw_step ?_ (by assumption) | refine Below.alloc ?_ ?_ _ | refine Below.drew ?_ | refine below_drewN ?_ _ | refine Below.setCell ?_ ?_ _ | refine below_step ?_ (by assumption) ?_ | exact Nat.le_refl _) | omega | (simp; omega) | (simp; done)))
 have hE : EnvB w1 (w.heap.size + 1 + 1 + 1 + 1) (w.heap.size + 1) w.heap.size (w.heap.size + 1 + 1 + 1 + 1 + 1) (w.heap.size + 1 + 1 + 1) m ad n cap k fr un ps := by
  rw [← hw1]
  exact ⟨by (repeat' (first | (with_reducible assumption) | (with_reducible refine Row.new' _ _ _ (by first | rfl | (simp; done) | omega)) | (with_reducible refine Row.alloc ?_ _) | (with_reducible refine Row.drew ?_) | (with_reducible refine Row.drewN ?_ _) | (with_reducible refine Row.step ?_ (by with_reducible assumption)))), by (repeat' (first | (with_reducible assumption) | (with_reducible refine Row.new' _ _ _ (by first | rfl | (simp; done) | omega)) | (with_reducible refine Row.alloc ?_ _) | (with_reducible refine Row.drew ?_) | (with_reducible refine Row.drewN ?_ _) | (with_reducible refine Row.step ?_ (by with_reducible assumption)))), by (repeat' (first | (with_reducible assumption) | (with_reducible refine Row.new' _ _ _ (by first | rfl | (simp; done) | omega)) | (with_reducible refine Row.alloc ?_ _) | (with_reducible refine Row.drew ?_) | (with_reducible refine Row.drewN ?_ _) | (with_reducible refine Row.step ?_ (by with_reducible assumption)))), by (repeat' (first | (with_reducible assumption) | (with_reducible refine Row.new' _ _ _ (by first | rfl | (simp; done) | omega)) | (with_reducible refine Row.alloc ?_ _) | (with_reducible refine Row.drew ?_) | (with_reducible refine Row.drewN ?_ _) | (with_reducible refine Row.step ?_ (by with_reducible assumption))))⟩
 have hR : RowY w1 (w.heap.size + 1 + 1) [.int .i64 0, .bool false, .slice none 0 0] := by
  rw [← hw1]
  have h := RowY.new (World.alloc (World.alloc w (.cells #[.slice ad n cap, .map (some m)] 99)) (.cells #[.int .i64 k, .int .i64 fr, .int .i64 un, .int .i64 ps] 49)) [.int .i64 0, .bool false, .slice none 0 0]
  rw [World.size_alloc, World.size_alloc] at h
  exact ((h.step ((Below.refl _ _).alloc (Nat.le_refl _) _)).step ((Below.refl _ _).alloc (Nat.le_refl _) _)).step ((Below.refl _ _).alloc (Nat.le_refl _) _)
 have hW : WaysT w1 (w.heap.size + 1 + 1 + 1) V := by
  rw [← hw1]
  have h := imap_made (World.alloc (World.alloc (World.alloc w (.cells #[.slice ad n cap, .map (some m)] 99)) (.cells #[.int .i64 k, .int .i64 fr, .int .i64 un, .int .i64 ps] 49)) (.cells #[.int .i64 0, .bool false, .slice none 0 0] 130))
  rw [World.size_alloc, World.size_alloc, World.size_alloc] at h
  exact ⟨[], (h.alloc _).alloc _, fun nt v hv => by simp [look] at hv⟩
 have hk1 := HK.out.step hb1
 have hs1 := hb1.size
 have hNI : NoInt w1 (fun b => b = m ∨ b = w.heap.size + 1 + 1 + 1) := fun b e => by
  rcases e with rfl | rfl
  ·
   exact isMap_noInt hk1.isMap
  ·
   exact isMap_noInt hW.isMap
 have HR := Lib.hid hR
 have HB1 := Lib.hid hb1
 have HNI := Lib.hid hNI
 refine (from_any w0 ad n cap l k fr un ps V HS.out hn HV.out h0 h366 _ _ _ _ _ m hm0 (by omega) (by omega) (un - fr).toNat fr (Int.le_refl _) hfu (Nat.le_refl _) f w1 (HB0.out.trans (hb1.mono hs0)) hE hk1 hW).mono ?_
 rintro e w2 ⟨v, rfl, hv, hwy, ⟨f2, hk2⟩, hc2⟩
 rw [HX.out] at hv
 obtain ⟨ua, un2, uc, hun2, rfl, hsl⟩ := hv.form
 have HSL := Lib.hid hsl
 have HK2 := Lib.hid hk2
 have HR2 := Lib.hid (HR.out.ch hc2 (show ¬ (w.heap.size + 1 + 1 = m ∨ w.heap.size + 1 + 1 = w.heap.size + 1 + 1 + 1) by omega))
 have HC2 : Hid (Ch (fun b => b = m ∨ w.heap.size ≤ b) w w2) := (Ch.of_belowS HB1.out).trans (hc2.mono (fun b _ e => by omega))
 clear hun2 hv hwy hk2 hc2 hsl hE hR hW hk1 hb1 hNI hw1
 have r0 := HR2.out.row.cell 0 rfl
 have r1 := HR2.out.row.cell 1 rfl
 have r2 := HR2.out.row.cell 2 rfl
 have rl := HR2.out.row.lt
 have rz0 := HR2.out.row.frozen 0
 have rz1 := HR2.out.row.frozen 1
 have rz2 := HR2.out.row.frozen 2
 go_wp2_with fail
 obtain ⟨y1, y2⟩ := put3Y_all HR2.out (.int .i64 x.c) (.bool x.s) (.slice ua un2 uc)
 have RP := y1.row
 have q0 := RP.cell 0 rfl
 have q1 := RP.cell 1 rfl
 have q2 := RP.cell 2 rfl
 have hni := HR2.out.noInt
 have z1 : Ch (fun b => b = m ∨ w.heap.size ≤ b) w (put3Y w2 (w.heap.size + 1 + 1) (.int .i64 x.c) (.bool x.s) (.slice ua un2 uc)) := HC2.out.trans (y2.mono (fun b _ e => Or.inr (by omega)))
 have z2 := HSL.out.ch y2 hni
 have z4 := HK2.out.of_block (y2.2.2.2.2 m (by have := HK2.out.lt; omega) (show ¬ m = w.heap.size + 1 + 1 by omega))
 unfold put3Y at *
 refine bodyPost_ret (v := .agg #[.int .i64 x.c, .bool x.s, .slice ua un2 uc]) (by simp [results, Try.results88, go_sem, q0, q1, q2]) rfl ⟨_, rfl, ⟨_, rfl, z2⟩, ⟨_, z4⟩, z1.own⟩
end
section
set_option linter.unusedSimpArgs false
set_option linter.unusedVariables false
open Go.RowKit
def zSplit : Value := .agg #[.int .i64 0, .int .i64 0, .int .i64 0, .int .i64 0, .int .i64 0, .int .i64 0, .int .i64 0]
set_option maxRecDepth 100000 in
set_option maxHeartbeats 3200000 in
theorem undercut_none (w0 : World) (ad : Option Addr) (n cap : Nat) (l : List RateV) (k fr un ps : Int) (hs : SlR w0 ad n l) (hn : n ≤ 9223372036854775807) (m : Nat) (hm0 : w0.heap.size ≤ m)
  (f : List AskV) (w : World) (hb0 : Below w0.heap.size w0 w) (hk : KMap (costV l) w m f) (C : Int) (B : Bool) (hC : costV l ⟨k, fr, un, ps⟩ = .agg #[.int .i64 C, .bool B]) (hB : B = false) :
  Calls Try.prog 62 #[.agg #[.slice ad n cap, .map (some m)], .agg #[.int .i64 k, .int .i64 fr, .int .i64 un, .int .i64 ps]] w fun e w' => e = .returned (.tuple #[zSplit, .bool false]) ∧ (∃ f', KMap (costV l) w' m f') ∧ Ch (fun b => b = m) w w' := by
 subst hB
 unfold zSplit
 have HS := Lib.hid hs
 have HK := Lib.hid hk
 have HB0W := Lib.hid hb0
 have HC := Lib.hid hC
 have hmL := hk.lt
 have hs0 := hb0.size
 clear hs hk hb0 hC
 go_enter Try.func62, Try.ntmps62
 go_upto_region 1 with fail
 have HB0 := Below.refl w.heap.size w
 obtain ⟨w1, hw1⟩ : ∃ x, World.alloc (World.alloc (World.alloc w (.cells #[.slice ad n cap, .map (some m)] 99)) (.cells #[.int .i64 k, .int .i64 fr, .int .i64 un, .int .i64 ps] 49)) (.cells #[.int .i64 0, .int .i64 0, .int .i64 0, .int .i64 0, .int .i64 0, .int .i64 0, .int .i64 0] 67) = x := ⟨_, rfl⟩
 rw [hw1]
 have hb1 : Below w.heap.size w w1 := by rw [← hw1]; (repeat' (first | (with_reducible first | exact Below.refl _ _ | assumption | exact Bw.out (by assumption) | refine bw_alloc ?_ _ | refine bw_step ?_ (by assumption) | refine Below.alloc ?_ ?_ _ | refine Below.drew ?_ | refine below_drewN ?_ _ | refine Below.setCell ?_ ?_ _ | refine below_step ?_ (by assumption) ?_ | exact Nat.le_refl _) | omega | (simp; omega) | (simp; done)))
 have R_p_1 : Row w1 (w.heap.size) [.slice ad n cap, .map (some m)] := by rw [← hw1]; (repeat' (first | (with_reducible assumption) | (with_reducible refine Row.new' _ _ _ (by first | rfl | (simp; done) | omega)) | (with_reducible first | refine Row.alloc ?_ _ | refine Row.drew ?_ | refine Row.step ?_ (by assumption) | refine Row.drewN ?_ _) | (with_reducible refine Row.set2' ?_ _ _; first | exact ⟨_, _, by assumption⟩ | exact ⟨_, _, Row.alloc (by assumption) _⟩) | (with_reducible refine Row.other ?_ (by first | omega | (simp; omega)) _)))
 have c_p_0_1 := R_p_1.cell 0 rfl
 have c_p_1_1 := R_p_1.cell 1 rfl
 have l_p_1 := R_p_1.lt
 have R_a_1 : Row w1 (w.heap.size + 1) [.int .i64 (k), .int .i64 (fr), .int .i64 (un), .int .i64 (ps)] := by rw [← hw1]; (repeat' (first | (with_reducible assumption) | (with_reducible refine Row.new' _ _ _ (by first | rfl | (simp; done) | omega)) | (with_reducible first | refine Row.alloc ?_ _ | refine Row.drew ?_ | refine Row.step ?_ (by assumption) | refine Row.drewN ?_ _) | (with_reducible refine Row.set2' ?_ _ _; first | exact ⟨_, _, by assumption⟩ | exact ⟨_, _, Row.alloc (by assumption) _⟩) | (with_reducible refine Row.other ?_ (by first | omega | (simp; omega)) _)))
 have c_a_0_1 := R_a_1.cell 0 rfl
 have c_a_1_1 := R_a_1.cell 1 rfl
 have c_a_2_1 := R_a_1.cell 2 rfl
 have c_a_3_1 := R_a_1.cell 3 rfl
 have l_a_1 := R_a_1.lt
 have R_r_1 : Row w1 (w.heap.size + 1 + 1) [.int .i64 (0), .int .i64 (0), .int .i64 (0), .int .i64 (0), .int .i64 (0), .int .i64 (0), .int .i64 (0)] := by rw [← hw1]; (repeat' (first | (with_reducible assumption) | (with_reducible refine Row.new' _ _ _ (by first | rfl | (simp; done) | omega)) | (with_reducible first | refine Row.alloc ?_ _ | refine Row.drew ?_ | refine Row.step ?_ (by assumption) | refine Row.drewN ?_ _) | (with_reducible refine Row.set2' ?_ _ _; first | exact ⟨_, _, by assumption⟩ | exact ⟨_, _, Row.alloc (by assumption) _⟩) | (with_reducible refine Row.other ?_ (by first | omega | (simp; omega)) _)))
 have c_r_0_1 := R_r_1.cell 0 rfl
 have c_r_1_1 := R_r_1.cell 1 rfl
 have c_r_2_1 := R_r_1.cell 2 rfl
 have c_r_3_1 := R_r_1.cell 3 rfl
 have c_r_4_1 := R_r_1.cell 4 rfl
 have c_r_5_1 := R_r_1.cell 5 rfl
 have c_r_6_1 := R_r_1.cell 6 rfl
 have z_r_0_1 := R_r_1.frozen 0
 have z_r_1_1 := R_r_1.frozen 1
 have z_r_2_1 := R_r_1.frozen 2
 have z_r_3_1 := R_r_1.frozen 3
 have z_r_4_1 := R_r_1.frozen 4
 have z_r_5_1 := R_r_1.frozen 5
 have z_r_6_1 := R_r_1.frozen 6
 have l_r_1 := R_r_1.lt
 have HB1 := HB0.trans (hb1.mono HB0.size)
 have hs1 := hb1.size
 have hz1 := HB1.size
 have HK1 := Lib.hid (HK.out.step HB1)
 have HC1 : Hid (Ch (fun b => b = m ∨ w.heap.size ≤ b) w w1) := Ch.of_belowS HB1
 go_wp2_with fail
 refine (of_any w0 ad n cap l m f k fr un ps w1 HS.out hn (HB0W.out.trans (HB1.mono hs0)) hm0 HK1.out C false HC.out).mono ?_
 rintro e w2 ⟨rfl, ⟨f2, hk2⟩, hc2⟩
 have HP2 := Lib.hid (R_p_1.ch hc2 (show ¬ w.heap.size = m by omega))
 have HA2 := Lib.hid (R_a_1.ch hc2 (show ¬ w.heap.size + 1 = m by omega))
 have HR2 := Lib.hid (R_r_1.ch hc2 (show ¬ w.heap.size + 1 + 1 = m by omega))
 have HC2 : Hid (Ch (fun b => b = m ∨ w.heap.size ≤ b) w w2) := HC1.out.trans (hc2.mono (fun b _ e => Or.inl e))
 have HK2 := Lib.hid hk2
 have hl2 := HR2.out.lt
 clear hk2 hc2 HK1 HC1 R_p_1 c_p_0_1 c_p_1_1 l_p_1 R_a_1 c_a_0_1 c_a_1_1 c_a_2_1 c_a_3_1 l_a_1 R_r_1 c_r_0_1 c_r_1_1 c_r_2_1 c_r_3_1 c_r_4_1 c_r_5_1 c_r_6_1 z_r_0_1 z_r_1_1 z_r_2_1 z_r_3_1 z_r_4_1 z_r_5_1 z_r_6_1 l_r_1 hb1 HB1 hw1
 go_upto_region 2 with fail
 obtain ⟨w3, hw3⟩ : ∃ X, World.alloc w2 (.cells #[.int .i64 C, .bool false] 128) = X := ⟨_, rfl⟩
 rw [hw3]
 have hb3 : Below w2.heap.size w2 w3 := by rw [← hw3]; exact (Below.refl _ _).alloc (Nat.le_refl _) _
 have HT3 : Hid (Row w3 w2.heap.size [.int .i64 C, .bool false]) := by
  show Row _ _ _
  rw [← hw3]; exact Row.new' _ _ _ rfl
 obtain ⟨T, hT⟩ : ∃ X, w2.heap.size = X := ⟨_, rfl⟩
 rw [hT] at HT3
 rw [hT]
 have hTr : w.heap.size + 1 + 1 < T := by omega
 have HP3 := Lib.hid (HP2.out.step hb3)
 have HA3 := Lib.hid (HA2.out.step hb3)
 have HR3 := Lib.hid (HR2.out.step hb3)
 have HK3 := Lib.hid (HK2.out.step hb3)
 have HC3 : Hid (Ch (fun b => b = m ∨ w.heap.size ≤ b) w w3) := HC2.out.trans (Ch.of_belowS hb3)
 clear hb3 hw3 hT HP2 HA2 HR2 HK2 HC2
 have t0 := HT3.out.cell 0 rfl
 have t1 := HT3.out.cell 1 rfl
 have tl := HT3.out.lt
 have r0 := HR3.out.cell 0 rfl
 have r1 := HR3.out.cell 1 rfl
 have r2 := HR3.out.cell 2 rfl
 have r3 := HR3.out.cell 3 rfl
 have r4 := HR3.out.cell 4 rfl
 have r5 := HR3.out.cell 5 rfl
 have r6 := HR3.out.cell 6 rfl
 have rz0 := HR3.out.frozen 0
 have rz1 := HR3.out.frozen 1
 have rz2 := HR3.out.frozen 2
 have rz3 := HR3.out.frozen 3
 have rz4 := HR3.out.frozen 4
 have rz5 := HR3.out.frozen 5
 have rz6 := HR3.out.frozen 6
 have rl := HR3.out.lt
 go_wp2_with fail
 have hP := puz_all HR3.out [.int .i64 (0), .int .i64 (0), .int .i64 (0), .int .i64 (0), .int .i64 (0), .int .i64 (0), .int .i64 (0)] rfl
 have z4 : KMap (costV l) _ m _ := HK3.out.of_block (hP.2.2.2.2.2 m (by have := HK3.out.lt; omega) (show ¬ m = w.heap.size + 1 + 1 by omega))
 have z1 : Ch (fun b => b = m ∨ w.heap.size ≤ b) w _ := HC3.out.trans (hP.2.mono (fun b _ e => Or.inr (by omega)))
 simp only [Go.Proofs.Ytcmodmchnokmgaa.puz, Nat.reduceAdd, Nat.zero_add] at hP z4 z1
 obtain ⟨RP, CP⟩ := hP
 have q0 := RP.cell 0 rfl
 have q1 := RP.cell 1 rfl
 have q2 := RP.cell 2 rfl
 have q3 := RP.cell 3 rfl
 have q4 := RP.cell 4 rfl
 have q5 := RP.cell 5 rfl
 have q6 := RP.cell 6 rfl
 refine bodyPost_ret (v := .tuple #[.agg #[.int .i64 (0), .int .i64 (0), .int .i64 (0), .int .i64 (0), .int .i64 (0), .int .i64 (0), .int .i64 (0)], .bool false]) (by simp [results, Try.results62, go_sem, q0, q1, q2, q3, q4, q5, q6]) rfl ⟨rfl, ⟨_, z4⟩, z1.own⟩
set_option maxRecDepth 100000 in
set_option maxHeartbeats 3200000 in
theorem undercut_not (w0 : World) (ad : Option Addr) (n cap : Nat) (l : List RateV) (k fr un ps : Int) (V : Int → WayV) (hs : SlR w0 ad n l) (hn : n ≤ 9223372036854775807) (hV : RecW l ⟨k, fr, un, ps⟩ V) (h0 : 0 ≤ fr) (hfu : fr < un) (h366 : un ≤ 366) (m : Nat) (hm0 : w0.heap.size ≤ m)
  (f : List AskV) (w : World) (hb0 : Below w0.heap.size w0 w) (hk : KMap (costV l) w m f) (C : Int) (B : Bool) (hC : costV l ⟨k, fr, un, ps⟩ = .agg #[.int .i64 C, .bool B]) (hB : B = true) (x : WayV) (hx : V fr = x) (hxc : C ≤ x.c) :
  Calls Try.prog 62 #[.agg #[.slice ad n cap, .map (some m)], .agg #[.int .i64 k, .int .i64 fr, .int .i64 un, .int .i64 ps]] w fun e w' => e = .returned (.tuple #[zSplit, .bool false]) ∧ (∃ f', KMap (costV l) w' m f') ∧ Ch (fun b => b = m) w w' := by
 subst hB
 unfold zSplit
 have HX := Lib.hid hx
 have HV := Lib.hid hV
 clear hx hV
 have HS := Lib.hid hs
 have HK := Lib.hid hk
 have HB0W := Lib.hid hb0
 have HC := Lib.hid hC
 have hmL := hk.lt
 have hs0 := hb0.size
 clear hs hk hb0 hC
 go_enter Try.func62, Try.ntmps62
 go_upto_region 1 with fail
 have HB0 := Below.refl w.heap.size w
 obtain ⟨w1, hw1⟩ : ∃ x, World.alloc (World.alloc (World.alloc w (.cells #[.slice ad n cap, .map (some m)] 99)) (.cells #[.int .i64 k, .int .i64 fr, .int .i64 un, .int .i64 ps] 49)) (.cells #[.int .i64 0, .int .i64 0, .int .i64 0, .int .i64 0, .int .i64 0, .int .i64 0, .int .i64 0] 67) = x := ⟨_, rfl⟩
 rw [hw1]
 have hb1 : Below w.heap.size w w1 := by rw [← hw1]; (repeat' (first | (with_reducible first | exact Below.refl _ _ | assumption | exact Bw.out (by assumption) | refine bw_alloc ?_ _ | refine bw_step ?_ (by assumption) | refine Below.alloc ?_ ?_ _ | refine Below.drew ?_ | refine below_drewN ?_ _ | refine Below.setCell ?_ ?_ _ | refine below_step ?_ (by assumption) ?_ | exact Nat.le_refl _) | omega | (simp; omega) | (simp; done)))
 have R_p_1 : Row w1 (w.heap.size) [.slice ad n cap, .map (some m)] := by rw [← hw1]; (repeat' (first | (with_reducible assumption) | (with_reducible refine Row.new' _ _ _ (by first | rfl | (simp; done) | omega)) | (with_reducible first | refine Row.alloc ?_ _ | refine Row.drew ?_ | refine Row.step ?_ (by assumption) | refine Row.drewN ?_ _) | (with_reducible refine Row.set2' ?_ _ _; first | exact ⟨_, _, by assumption⟩ | exact ⟨_, _, Row.alloc (by assumption) _⟩) | (with_reducible refine Row.other ?_ (by first | omega | (simp; omega)) _)))
 have c_p_0_1 := R_p_1.cell 0 rfl
 have c_p_1_1 := R_p_1.cell 1 rfl
 have l_p_1 := R_p_1.lt
 have R_a_1 : Row w1 (w.heap.size + 1) [.int .i64 (k), .int .i64 (fr), .int .i64 (un), .int .i64 (ps)] := by rw [← hw1]; (repeat' (first | (with_reducible assumption) | (with_reducible refine Row.new' _ _ _ (by first | rfl | (simp; done) | omega)) | (with_reducible first | refine Row.alloc ?_ _ | refine Row.drew ?_ | refine Row.step ?_ (by assumption) | refine Row.drewN ?_ _) | (with_reducible refine Row.set2' ?_ _ _; first | exact ⟨_, _, by assumption⟩ | exact ⟨_, _, Row.alloc (by assumption) _⟩) | (with_reducible refine Row.other ?_ (by first | omega | (simp; omega)) _)))
 have c_a_0_1 := R_a_1.cell 0 rfl
 have c_a_1_1 := R_a_1.cell 1 rfl
 have c_a_2_1 := R_a_1.cell 2 rfl
 have c_a_3_1 := R_a_1.cell 3 rfl
 have l_a_1 := R_a_1.lt
 have R_r_1 : Row w1 (w.heap.size + 1 + 1) [.int .i64 (0), .int .i64 (0), .int .i64 (0), .int .i64 (0), .int .i64 (0), .int .i64 (0), .int .i64 (0)] := by rw [← hw1]; (repeat' (first | (with_reducible assumption) | (with_reducible refine Row.new' _ _ _ (by first | rfl | (simp; done) | omega)) | (with_reducible first | refine Row.alloc ?_ _ | refine Row.drew ?_ | refine Row.step ?_ (by assumption) | refine Row.drewN ?_ _) | (with_reducible refine Row.set2' ?_ _ _; first | exact ⟨_, _, by assumption⟩ | exact ⟨_, _, Row.alloc (by assumption) _⟩) | (with_reducible refine Row.other ?_ (by first | omega | (simp; omega)) _)))
 have c_r_0_1 := R_r_1.cell 0 rfl
 have c_r_1_1 := R_r_1.cell 1 rfl
 have c_r_2_1 := R_r_1.cell 2 rfl
 have c_r_3_1 := R_r_1.cell 3 rfl
 have c_r_4_1 := R_r_1.cell 4 rfl
 have c_r_5_1 := R_r_1.cell 5 rfl
 have c_r_6_1 := R_r_1.cell 6 rfl
 have z_r_0_1 := R_r_1.frozen 0
 have z_r_1_1 := R_r_1.frozen 1
 have z_r_2_1 := R_r_1.frozen 2
 have z_r_3_1 := R_r_1.frozen 3
 have z_r_4_1 := R_r_1.frozen 4
 have z_r_5_1 := R_r_1.frozen 5
 have z_r_6_1 := R_r_1.frozen 6
 have l_r_1 := R_r_1.lt
 have HB1 := HB0.trans (hb1.mono HB0.size)
 have hs1 := hb1.size
 have hz1 := HB1.size
 have HK1 := Lib.hid (HK.out.step HB1)
 have HC1 : Hid (Ch (fun b => b = m ∨ w.heap.size ≤ b) w w1) := Ch.of_belowS HB1
 go_wp2_with fail
 refine (of_any w0 ad n cap l m f k fr un ps w1 HS.out hn (HB0W.out.trans (HB1.mono hs0)) hm0 HK1.out C true HC.out).mono ?_
 rintro e w2 ⟨rfl, ⟨f2, hk2⟩, hc2⟩
 have HP2 := Lib.hid (R_p_1.ch hc2 (show ¬ w.heap.size = m by omega))
 have HA2 := Lib.hid (R_a_1.ch hc2 (show ¬ w.heap.size + 1 = m by omega))
 have HR2 := Lib.hid (R_r_1.ch hc2 (show ¬ w.heap.size + 1 + 1 = m by omega))
 have HC2 : Hid (Ch (fun b => b = m ∨ w.heap.size ≤ b) w w2) := HC1.out.trans (hc2.mono (fun b _ e => Or.inl e))
 have HK2 := Lib.hid hk2
 have hl2 := HR2.out.lt
 clear hk2 hc2 HK1 HC1 R_p_1 c_p_0_1 c_p_1_1 l_p_1 R_a_1 c_a_0_1 c_a_1_1 c_a_2_1 c_a_3_1 l_a_1 R_r_1 c_r_0_1 c_r_1_1 c_r_2_1 c_r_3_1 c_r_4_1 c_r_5_1 c_r_6_1 z_r_0_1 z_r_1_1 z_r_2_1 z_r_3_1 z_r_4_1 z_r_5_1 z_r_6_1 l_r_1 hb1 HB1 hw1
 go_upto_region 2 with fail
 obtain ⟨w3, hw3⟩ : ∃ X, World.alloc w2 (.cells #[.int .i64 C, .bool true] 128) = X := ⟨_, rfl⟩
 rw [hw3]
 have hb3 : Below w2.heap.size w2 w3 := by rw [← hw3]; exact (Below.refl _ _).alloc (Nat.le_refl _) _
 have HT3 : Hid (Row w3 w2.heap.size [.int .i64 C, .bool true]) := by
  show Row _ _ _
  rw [← hw3]; exact Row.new' _ _ _ rfl
 obtain ⟨T, hT⟩ : ∃ X, w2.heap.size = X := ⟨_, rfl⟩
 rw [hT] at HT3
 rw [hT]
 have hTr : w.heap.size + 1 + 1 < T := by omega
 have HP3 := Lib.hid (HP2.out.step hb3)
 have HA3 := Lib.hid (HA2.out.step hb3)
 have HR3 := Lib.hid (HR2.out.step hb3)
 have HK3 := Lib.hid (HK2.out.step hb3)
 have HC3 : Hid (Ch (fun b => b = m ∨ w.heap.size ≤ b) w w3) := HC2.out.trans (Ch.of_belowS hb3)
 clear hb3 hw3 hT HP2 HA2 HR2 HK2 HC2
 have t0 := HT3.out.cell 0 rfl
 have t1 := HT3.out.cell 1 rfl
 have tl := HT3.out.lt
 have P0 := HP3.out.cell 0 rfl
 have P1 := HP3.out.cell 1 rfl
 have lP := HP3.out.lt
 have A0 := HA3.out.cell 0 rfl
 have A1 := HA3.out.cell 1 rfl
 have A2 := HA3.out.cell 2 rfl
 have A3 := HA3.out.cell 3 rfl
 have lA := HA3.out.lt
 go_wp2_with fail
 refine (best_any w0 ad n cap l k fr un ps V HS.out hn HV.out h0 hfu h366 m hm0 _ w3 (HC3.out.below HB0W.out (fun b hb => by omega) hs0) HK3.out x HX.out).mono ?_
 rintro e w4 ⟨v, rfl, hv, ⟨f4, hk4⟩, hc4⟩
 obtain ⟨ua, un2, uc, hun2, rfl, hsl⟩ := hv.form
 have HSL := Lib.hid hsl
 have HUN2 := Lib.hid hun2
 have HA4 := Lib.hid (HA3.out.ch hc4 (show ¬ w.heap.size + 1 = m by omega))
 have HR4 := Lib.hid (HR3.out.ch hc4 (show ¬ w.heap.size + 1 + 1 = m by omega))
 have HT4 := Lib.hid (HT3.out.ch hc4 (show ¬ T = m by omega))
 have HC4 : Hid (Ch (fun b => b = m ∨ w.heap.size ≤ b) w w4) := HC3.out.trans (hc4.mono (fun b _ e => Or.inl e))
 have HK4 := Lib.hid hk4
 have hl4 := HR4.out.lt
 have hT4 := HT4.out.lt
 clear hv hun2 hsl hk4 hc4 HP3 HA3 HR3 HT3 HK3 HC3 t0 t1 tl P0 P1 lP A0 A1 A2 A3 lA
 go_upto_region 5 with fail
 obtain ⟨w5, hw5⟩ : ∃ X, World.alloc w4 (.cells #[.int .i64 x.c, .bool x.s, .slice ua un2 uc] 130) = X := ⟨_, rfl⟩
 rw [hw5]
 have hb5 : Below w4.heap.size w4 w5 := by rw [← hw5]; exact (Below.refl _ _).alloc (Nat.le_refl _) _
 have HQ5 : Hid (Row w5 w4.heap.size [.int .i64 x.c, .bool x.s, .slice ua un2 uc]) := by
  show Row _ _ _
  rw [← hw5]; exact Row.new' _ _ _ rfl
 obtain ⟨Q, hQ⟩ : ∃ X, w4.heap.size = X := ⟨_, rfl⟩
 rw [hQ] at HQ5
 rw [hQ]
 have hQr : w.heap.size + 1 + 1 < Q := by omega
 have HA5 := Lib.hid (HA4.out.step hb5)
 have HR5 := Lib.hid (HR4.out.step hb5)
 have HT5 := Lib.hid (HT4.out.step hb5)
 have HK5 := Lib.hid (HK4.out.step hb5)
 have HS5 := Lib.hid (HSL.out.step hb5)
 have HC5 : Hid (Ch (fun b => b = m ∨ w.heap.size ≤ b) w w5) := HC4.out.trans (Ch.of_belowS hb5)
 clear hb5 hw5 hQ HA4 HR4 HT4 HK4 HC4 HSL
 have t0 := HT5.out.cell 0 rfl
 have tl := HT5.out.lt
 have q0 := HQ5.out.cell 0 rfl
 have q1 := HQ5.out.cell 1 rfl
 have q2 := HQ5.out.cell 2 rfl
 have ql := HQ5.out.lt
 clear q0 q1 q2 ql t0 tl
 have t0 := HT5.out.cell 0 rfl
 have tl := HT5.out.lt
 have q0 := HQ5.out.cell 0 rfl
 have ql := HQ5.out.lt
 have r0 := HR5.out.cell 0 rfl
 have r1 := HR5.out.cell 1 rfl
 have r2 := HR5.out.cell 2 rfl
 have r3 := HR5.out.cell 3 rfl
 have r4 := HR5.out.cell 4 rfl
 have r5 := HR5.out.cell 5 rfl
 have r6 := HR5.out.cell 6 rfl
 have rz0 := HR5.out.frozen 0
 have rz1 := HR5.out.frozen 1
 have rz2 := HR5.out.frozen 2
 have rz3 := HR5.out.frozen 3
 have rz4 := HR5.out.frozen 4
 have rz5 := HR5.out.frozen 5
 have rz6 := HR5.out.frozen 6
 have rl := HR5.out.lt
 go_wp2_with fail
 clear q0 ql
 have hP := puz_all HR5.out [.int .i64 (0), .int .i64 (0), .int .i64 (0), .int .i64 (0), .int .i64 (0), .int .i64 (0), .int .i64 (0)] rfl
 have z4 : KMap (costV l) _ m _ := HK5.out.of_block (hP.2.2.2.2.2 m (by have := HK5.out.lt; omega) (show ¬ m = w.heap.size + 1 + 1 by omega))
 have z1 : Ch (fun b => b = m ∨ w.heap.size ≤ b) w _ := HC5.out.trans (hP.2.mono (fun b _ e => Or.inr (by omega)))
 simp only [Go.Proofs.Ytcmodmchnokmgaa.puz, Nat.reduceAdd, Nat.zero_add] at hP z4 z1
 obtain ⟨RP, CP⟩ := hP
 have q0 := RP.cell 0 rfl
 have q1 := RP.cell 1 rfl
 have q2 := RP.cell 2 rfl
 have q3 := RP.cell 3 rfl
 have q4 := RP.cell 4 rfl
 have q5 := RP.cell 5 rfl
 have q6 := RP.cell 6 rfl
 refine bodyPost_ret (v := .tuple #[.agg #[.int .i64 (0), .int .i64 (0), .int .i64 (0), .int .i64 (0), .int .i64 (0), .int .i64 (0), .int .i64 (0)], .bool false]) (by simp [results, Try.results62, go_sem, q0, q1, q2, q3, q4, q5, q6]) rfl ⟨rfl, ⟨_, z4⟩, z1.own⟩
set_option maxRecDepth 100000 in
set_option maxHeartbeats 3200000 in
theorem undercut_yes (w0 : World) (ad : Option Addr) (n cap : Nat) (l : List RateV) (k fr un ps : Int) (V : Int → WayV) (hs : SlR w0 ad n l) (hn : n ≤ 9223372036854775807) (hV : RecW l ⟨k, fr, un, ps⟩ V) (h0 : 0 ≤ fr) (hfu : fr < un) (h366 : un ≤ 366) (m : Nat) (hm0 : w0.heap.size ≤ m)
  (f : List AskV) (w : World) (hb0 : Below w0.heap.size w0 w) (hk : KMap (costV l) w m f) (C : Int) (B : Bool) (hC : costV l ⟨k, fr, un, ps⟩ = .agg #[.int .i64 C, .bool B]) (hB : B = true) (x : WayV) (hx : V fr = x) (hxc : x.c < C) (z : Int) (t : List Int) (hzt : x.cuts = z :: t) :
  Calls Try.prog 62 #[.agg #[.slice ad n cap, .map (some m)], .agg #[.int .i64 k, .int .i64 fr, .int .i64 un, .int .i64 ps]] w fun e w' => e = .returned (.tuple #[.agg #[.int .i64 k, .int .i64 fr, .int .i64 un, .int .i64 ps, .int .i64 z, .int .i64 C, .int .i64 x.c], .bool true]) ∧ (∃ f', KMap (costV l) w' m f') ∧ Ch (fun b => b = m) w w' := by
 subst hB
 have HZT := Lib.hid hzt
 clear hzt
 have HX := Lib.hid hx
 have HV := Lib.hid hV
 clear hx hV
 have HS := Lib.hid hs
 have HK := Lib.hid hk
 have HB0W := Lib.hid hb0
 have HC := Lib.hid hC
 have hmL := hk.lt
 have hs0 := hb0.size
 clear hs hk hb0 hC
 go_enter Try.func62, Try.ntmps62
 go_upto_region 1 with fail
 have HB0 := Below.refl w.heap.size w
 obtain ⟨w1, hw1⟩ : ∃ x, World.alloc (World.alloc (World.alloc w (.cells #[.slice ad n cap, .map (some m)] 99)) (.cells #[.int .i64 k, .int .i64 fr, .int .i64 un, .int .i64 ps] 49)) (.cells #[.int .i64 0, .int .i64 0, .int .i64 0, .int .i64 0, .int .i64 0, .int .i64 0, .int .i64 0] 67) = x := ⟨_, rfl⟩
 rw [hw1]
 have hb1 : Below w.heap.size w w1 := by rw [← hw1]; (repeat' (first | (with_reducible first | exact Below.refl _ _ | assumption | exact Bw.out (by assumption) | refine bw_alloc ?_ _ | refine bw_step ?_ (by assumption) | refine Below.alloc ?_ ?_ _ | refine Below.drew ?_ | refine below_drewN ?_ _ | refine Below.setCell ?_ ?_ _ | refine below_step ?_ (by assumption) ?_ | exact Nat.le_refl _) | omega | (simp; omega) | (simp; done)))
 have R_p_1 : Row w1 (w.heap.size) [.slice ad n cap, .map (some m)] := by rw [← hw1]; (repeat' (first | (with_reducible assumption) | (with_reducible refine Row.new' _ _ _ (by first | rfl | (simp; done) | omega)) | (with_reducible first | refine Row.alloc ?_ _ | refine Row.drew ?_ | refine Row.step ?_ (by assumption) | refine Row.drewN ?_ _) | (with_reducible refine Row.set2' ?_ _ _; first | exact ⟨_, _, by assumption⟩ | exact ⟨_, _, Row.alloc (by assumption) _⟩) | (with_reducible refine Row.other ?_ (by first | omega | (simp; omega)) _)))
 have c_p_0_1 := R_p_1.cell 0 rfl
 have c_p_1_1 := R_p_1.cell 1 rfl
 have l_p_1 := R_p_1.lt
 have R_a_1 : Row w1 (w.heap.size + 1) [.int .i64 (k), .int .i64 (fr), .int .i64 (un), .int .i64 (ps)] := by rw [← hw1]; (repeat' (first | (with_reducible assumption) | (with_reducible refine Row.new' _ _ _ (by first | rfl | (simp; done) | omega)) | (with_reducible first | refine Row.alloc ?_ _ | refine Row.drew ?_ | refine Row.step ?_ (by assumption) | refine Row.drewN ?_ _) | (with_reducible refine Row.set2' ?_ _ _; first | exact ⟨_, _, by assumption⟩ | exact ⟨_, _, Row.alloc (by assumption) _⟩) | (with_reducible refine Row.other ?_ (by first | omega | (simp; omega)) _)))
 have c_a_0_1 := R_a_1.cell 0 rfl
 have c_a_1_1 := R_a_1.cell 1 rfl
 have c_a_2_1 := R_a_1.cell 2 rfl
 have c_a_3_1 := R_a_1.cell 3 rfl
 have l_a_1 := R_a_1.lt
 have R_r_1 : Row w1 (w.heap.size + 1 + 1) [.int .i64 (0), .int .i64 (0), .int .i64 (0), .int .i64 (0), .int .i64 (0), .int .i64 (0), .int .i64 (0)] := by rw [← hw1]; (repeat' (first | (with_reducible assumption) | (with_reducible refine Row.new' _ _ _ (by first | rfl | (simp; done) | omega)) | (with_reducible first | refine Row.alloc ?_ _ | refine Row.drew ?_ | refine Row.step ?_ (by assumption) | refine Row.drewN ?_ _) | (with_reducible refine Row.set2' ?_ _ _; first | exact ⟨_, _, by assumption⟩ | exact ⟨_, _, Row.alloc (by assumption) _⟩) | (with_reducible refine Row.other ?_ (by first | omega | (simp; omega)) _)))
 have c_r_0_1 := R_r_1.cell 0 rfl
 have c_r_1_1 := R_r_1.cell 1 rfl
 have c_r_2_1 := R_r_1.cell 2 rfl
 have c_r_3_1 := R_r_1.cell 3 rfl
 have c_r_4_1 := R_r_1.cell 4 rfl
 have c_r_5_1 := R_r_1.cell 5 rfl
 have c_r_6_1 := R_r_1.cell 6 rfl
 have z_r_0_1 := R_r_1.frozen 0
 have z_r_1_1 := R_r_1.frozen 1
 have z_r_2_1 := R_r_1.frozen 2
 have z_r_3_1 := R_r_1.frozen 3
 have z_r_4_1 := R_r_1.frozen 4
 have z_r_5_1 := R_r_1.frozen 5
 have z_r_6_1 := R_r_1.frozen 6
 have l_r_1 := R_r_1.lt
 have HB1 := HB0.trans (hb1.mono HB0.size)
 have hs1 := hb1.size
 have hz1 := HB1.size
 have HK1 := Lib.hid (HK.out.step HB1)
 have HC1 : Hid (Ch (fun b => b = m ∨ w.heap.size ≤ b) w w1) := Ch.of_belowS HB1
 go_wp2_with fail
 refine (of_any w0 ad n cap l m f k fr un ps w1 HS.out hn (HB0W.out.trans (HB1.mono hs0)) hm0 HK1.out C true HC.out).mono ?_
 rintro e w2 ⟨rfl, ⟨f2, hk2⟩, hc2⟩
 have HP2 := Lib.hid (R_p_1.ch hc2 (show ¬ w.heap.size = m by omega))
 have HA2 := Lib.hid (R_a_1.ch hc2 (show ¬ w.heap.size + 1 = m by omega))
 have HR2 := Lib.hid (R_r_1.ch hc2 (show ¬ w.heap.size + 1 + 1 = m by omega))
 have HC2 : Hid (Ch (fun b => b = m ∨ w.heap.size ≤ b) w w2) := HC1.out.trans (hc2.mono (fun b _ e => Or.inl e))
 have HK2 := Lib.hid hk2
 have hl2 := HR2.out.lt
 clear hk2 hc2 HK1 HC1 R_p_1 c_p_0_1 c_p_1_1 l_p_1 R_a_1 c_a_0_1 c_a_1_1 c_a_2_1 c_a_3_1 l_a_1 R_r_1 c_r_0_1 c_r_1_1 c_r_2_1 c_r_3_1 c_r_4_1 c_r_5_1 c_r_6_1 z_r_0_1 z_r_1_1 z_r_2_1 z_r_3_1 z_r_4_1 z_r_5_1 z_r_6_1 l_r_1 hb1 HB1 hw1
 go_upto_region 2 with fail
 obtain ⟨w3, hw3⟩ : ∃ X, World.alloc w2 (.cells #[.int .i64 C, .bool true] 128) = X := ⟨_, rfl⟩
 rw [hw3]
 have hb3 : Below w2.heap.size w2 w3 := by rw [← hw3]; exact (Below.refl _ _).alloc (Nat.le_refl _) _
 have HT3 : Hid (Row w3 w2.heap.size [.int .i64 C, .bool true]) := by
  show Row _ _ _
  rw [← hw3]; exact Row.new' _ _ _ rfl
 obtain ⟨T, hT⟩ : ∃ X, w2.heap.size = X := ⟨_, rfl⟩
 rw [hT] at HT3
 rw [hT]
 have hTr : w.heap.size + 1 + 1 < T := by omega
 have HP3 := Lib.hid (HP2.out.step hb3)
 have HA3 := Lib.hid (HA2.out.step hb3)
 have HR3 := Lib.hid (HR2.out.step hb3)
 have HK3 := Lib.hid (HK2.out.step hb3)
 have HC3 : Hid (Ch (fun b => b = m ∨ w.heap.size ≤ b) w w3) := HC2.out.trans (Ch.of_belowS hb3)
 clear hb3 hw3 hT HP2 HA2 HR2 HK2 HC2
 have t0 := HT3.out.cell 0 rfl
 have t1 := HT3.out.cell 1 rfl
 have tl := HT3.out.lt
 have P0 := HP3.out.cell 0 rfl
 have P1 := HP3.out.cell 1 rfl
 have lP := HP3.out.lt
 have A0 := HA3.out.cell 0 rfl
 have A1 := HA3.out.cell 1 rfl
 have A2 := HA3.out.cell 2 rfl
 have A3 := HA3.out.cell 3 rfl
 have lA := HA3.out.lt
 go_wp2_with fail
 refine (best_any w0 ad n cap l k fr un ps V HS.out hn HV.out h0 hfu h366 m hm0 _ w3 (HC3.out.below HB0W.out (fun b hb => by omega) hs0) HK3.out x HX.out).mono ?_
 rintro e w4 ⟨v, rfl, hv, ⟨f4, hk4⟩, hc4⟩
 obtain ⟨ua, un2, uc, hun2, rfl, hsl⟩ := hv.form
 have HSL := Lib.hid hsl
 have HUN2 := Lib.hid hun2
 have HA4 := Lib.hid (HA3.out.ch hc4 (show ¬ w.heap.size + 1 = m by omega))
 have HR4 := Lib.hid (HR3.out.ch hc4 (show ¬ w.heap.size + 1 + 1 = m by omega))
 have HT4 := Lib.hid (HT3.out.ch hc4 (show ¬ T = m by omega))
 have HC4 : Hid (Ch (fun b => b = m ∨ w.heap.size ≤ b) w w4) := HC3.out.trans (hc4.mono (fun b _ e => Or.inl e))
 have HK4 := Lib.hid hk4
 have hl4 := HR4.out.lt
 have hT4 := HT4.out.lt
 clear hv hun2 hsl hk4 hc4 HP3 HA3 HR3 HT3 HK3 HC3 t0 t1 tl P0 P1 lP A0 A1 A2 A3 lA
 go_upto_region 5 with fail
 obtain ⟨w5, hw5⟩ : ∃ X, World.alloc w4 (.cells #[.int .i64 x.c, .bool x.s, .slice ua un2 uc] 130) = X := ⟨_, rfl⟩
 rw [hw5]
 have hb5 : Below w4.heap.size w4 w5 := by rw [← hw5]; exact (Below.refl _ _).alloc (Nat.le_refl _) _
 have HQ5 : Hid (Row w5 w4.heap.size [.int .i64 x.c, .bool x.s, .slice ua un2 uc]) := by
  show Row _ _ _
  rw [← hw5]; exact Row.new' _ _ _ rfl
 obtain ⟨Q, hQ⟩ : ∃ X, w4.heap.size = X := ⟨_, rfl⟩
 rw [hQ] at HQ5
 rw [hQ]
 have hQr : w.heap.size + 1 + 1 < Q := by omega
 have HA5 := Lib.hid (HA4.out.step hb5)
 have HR5 := Lib.hid (HR4.out.step hb5)
 have HT5 := Lib.hid (HT4.out.step hb5)
 have HK5 := Lib.hid (HK4.out.step hb5)
 have HS5 := Lib.hid (HSL.out.step hb5)
 have HC5 : Hid (Ch (fun b => b = m ∨ w.heap.size ≤ b) w w5) := HC4.out.trans (Ch.of_belowS hb5)
 clear hb5 hw5 hQ HA4 HR4 HT4 HK4 HC4 HSL
 have t0 := HT5.out.cell 0 rfl
 have tl := HT5.out.lt
 have q0 := HQ5.out.cell 0 rfl
 have q1 := HQ5.out.cell 1 rfl
 have q2 := HQ5.out.cell 2 rfl
 have ql := HQ5.out.lt
 have hxc' : ¬ (C ≤ x.c) := by omega
 obtain ⟨b, off, z', he, hlb, c1, g1, _, _⟩ : ∃ b off z', ua = some ⟨b, off, none⟩ ∧ b < w5.heap.size ∧ w5.cell? ⟨b, off + 0, none⟩ = some (.int .i64 z') ∧ Hid (x.cuts.getD 0 0 = z') ∧ True ∧ True := by
  obtain ⟨ad', cp', e, h1, _⟩ := HS5.out.1
  simp only [Value.slice.injEq] at e
  obtain ⟨rfl, _, _⟩ := e
  obtain ⟨b, off, z', e1, e2, e3, e4, _, _⟩ := h1.get (i := 0) (by rw [HZT.out]; simp)
  exact ⟨b, off, z', e1, e2, e3, e4, trivial, trivial⟩
 subst he
 have hz' : z' = z := by rw [← g1.out, HZT.out]; rfl
 subst hz'
 have hlen : (0 : Int) < (un2 : Int) := by
  have h := HUN2.out
  rw [HZT.out] at h
  simp only [List.length_cons] at h
  omega
 have hlen' : 0 < un2 := by omega
 have A0 := HA5.out.cell 0 rfl
 have A1 := HA5.out.cell 1 rfl
 have A2 := HA5.out.cell 2 rfl
 have A3 := HA5.out.cell 3 rfl
 rw [Nat.add_zero] at c1
 go_upto_region 7 with fail
 have hS0 : w5.drew.cell? ⟨w.heap.size + 1, 0, none⟩ = some (.int .i64 k) ∧ w5.drew.cell? ⟨w.heap.size + 1, 1, none⟩ = some (.int .i64 fr) ∧ w5.drew.cell? ⟨w.heap.size + 1, 2, none⟩ = some (.int .i64 un) ∧ w5.drew.cell? ⟨w.heap.size + 1, 3, none⟩ = some (.int .i64 ps) ∧ w5.drew.cell? ⟨Q, 2, none⟩ = some (.slice (some ⟨b, off, none⟩) un2 uc) ∧ w5.drew.cell? ⟨b, off, none⟩ = some (.int .i64 z') ∧ w5.drew.cell? ⟨T, 0, none⟩ = some (.int .i64 C) ∧ w5.drew.cell? ⟨Q, 0, none⟩ = some (.int .i64 x.c) := ⟨A0, A1, A2, A3, q2, c1, t0, q0⟩
 refine AnyJ.beginP (fun W => W.cell? ⟨w.heap.size + 1, 0, none⟩ = some (.int .i64 k) ∧ W.cell? ⟨w.heap.size + 1, 1, none⟩ = some (.int .i64 fr) ∧ W.cell? ⟨w.heap.size + 1, 2, none⟩ = some (.int .i64 un) ∧ W.cell? ⟨w.heap.size + 1, 3, none⟩ = some (.int .i64 ps) ∧ W.cell? ⟨Q, 2, none⟩ = some (.slice (some ⟨b, off, none⟩) un2 uc) ∧ W.cell? ⟨b, off, none⟩ = some (.int .i64 z') ∧ W.cell? ⟨T, 0, none⟩ = some (.int .i64 C) ∧ W.cell? ⟨Q, 0, none⟩ = some (.int .i64 x.c)) (fun j => decide (j ≤ 10)) (by kernel_rfl) hS0 (fun hS => ?_)
 have HBU : Hid (Below w5.heap.size w5 w5.drew) := (Below.refl _ _).drew
 obtain ⟨u5, hu5⟩ : ∃ X, World.drew w5 = X := ⟨_, rfl⟩
 rw [hu5] at hS HBU ⊢
 clear hu5 hS0 A0 A1 A2 A3 q0 q1 q2 ql t0 tl c1
 have HR6 := Lib.hid (HR5.out.step HBU.out)
 have HK6 := Lib.hid (HK5.out.step HBU.out)
 have HC6 : Hid (Ch (fun b => b = m ∨ w.heap.size ≤ b) w u5) := HC5.out.trans (Ch.of_belowS HBU.out)
 refine AnyJ.takeD (i := 0) (d := some 25) (v := ?_) rfl (by kernel_rfl) (by kernel_rfl) (by kernel_rfl) (by kernel_rfl) (by kernel_rfl) (fun _ _ _ h => h) (Or.inl ⟨by kernel_rfl, ?_⟩) hS ?_
 rotate_left
 ·
  intro w' hS
  obtain ⟨s0, s1, s2, s3, s4, s5, s6, s7⟩ := hS
  go_simp
  try with_reducible rfl
 refine AnyJ.takeD (i := 1) (d := some 26) (v := ?_) rfl (by kernel_rfl) (by kernel_rfl) (by kernel_rfl) (by kernel_rfl) (by kernel_rfl) (fun _ _ _ h => h) (Or.inl ⟨by kernel_rfl, ?_⟩) hS ?_
 rotate_left
 ·
  intro w' hS
  obtain ⟨s0, s1, s2, s3, s4, s5, s6, s7⟩ := hS
  go_simp
  try with_reducible rfl
 refine AnyJ.takeD (i := 2) (d := some 27) (v := ?_) rfl (by kernel_rfl) (by kernel_rfl) (by kernel_rfl) (by kernel_rfl) (by kernel_rfl) (fun _ _ _ h => h) (Or.inl ⟨by kernel_rfl, ?_⟩) hS ?_
 rotate_left
 ·
  intro w' hS
  obtain ⟨s0, s1, s2, s3, s4, s5, s6, s7⟩ := hS
  go_simp
  try with_reducible rfl
 refine AnyJ.takeD (i := 3) (d := some 28) (v := ?_) rfl (by kernel_rfl) (by kernel_rfl) (by kernel_rfl) (by kernel_rfl) (by kernel_rfl) (fun _ _ _ h => h) (Or.inl ⟨by kernel_rfl, ?_⟩) hS ?_
 rotate_left
 ·
  intro w' hS
  obtain ⟨s0, s1, s2, s3, s4, s5, s6, s7⟩ := hS
  go_simp
  try with_reducible rfl
 refine AnyJ.takeD (i := 4) (d := some 29) (v := ?_) rfl (by kernel_rfl) (by kernel_rfl) (by kernel_rfl) (by kernel_rfl) (by kernel_rfl) (fun _ _ _ h => h) (Or.inl ⟨by kernel_rfl, ?_⟩) hS ?_
 rotate_left
 ·
  intro w' hS
  obtain ⟨s0, s1, s2, s3, s4, s5, s6, s7⟩ := hS
  go_simp
  try with_reducible rfl
 refine AnyJ.takeD (i := 5) (d := some 30) (v := ?_) rfl (by kernel_rfl) (by kernel_rfl) (by kernel_rfl) (by kernel_rfl) (by kernel_rfl) (fun _ _ _ h => h) (Or.inl ⟨by kernel_rfl, ?_⟩) hS ?_
 rotate_left
 ·
  intro w' hS
  obtain ⟨s0, s1, s2, s3, s4, s5, s6, s7⟩ := hS
  go_simp
  try with_reducible rfl
 refine AnyJ.takeD (i := 6) (d := some 31) (v := ?_) rfl (by kernel_rfl) (by kernel_rfl) (by kernel_rfl) (by kernel_rfl) (by kernel_rfl) (fun _ _ _ h => h) (Or.inl ⟨by kernel_rfl, ?_⟩) hS ?_
 rotate_left
 ·
  intro w' hS
  obtain ⟨s0, s1, s2, s3, s4, s5, s6, s7⟩ := hS
  go_simp
  try with_reducible rfl
 refine AnyJ.takeD (i := 7) (d := some 32) (v := ?_) rfl (by kernel_rfl) (by kernel_rfl) (by kernel_rfl) (by kernel_rfl) (by kernel_rfl) (fun _ _ _ h => h) (Or.inl ⟨by kernel_rfl, ?_⟩) hS ?_
 rotate_left
 ·
  intro w' hS
  obtain ⟨s0, s1, s2, s3, s4, s5, s6, s7⟩ := hS
  go_simp
  try with_reducible rfl
 refine AnyJ.takeD (i := 8) (d := some 33) (v := ?_) rfl (by kernel_rfl) (by kernel_rfl) (by kernel_rfl) (by kernel_rfl) (by kernel_rfl) (fun _ _ _ h => h) (Or.inl ⟨by kernel_rfl, ?_⟩) hS ?_
 rotate_left
 ·
  intro w' hS
  obtain ⟨s0, s1, s2, s3, s4, s5, s6, s7⟩ := hS
  go_simp
  try with_reducible rfl
 refine AnyJ.takeD (i := 9) (d := some 34) (v := ?_) rfl (by kernel_rfl) (by kernel_rfl) (by kernel_rfl) (by kernel_rfl) (by kernel_rfl) (fun _ _ _ h => h) (Or.inl ⟨by kernel_rfl, ?_⟩) hS ?_
 rotate_left
 ·
  intro w' hS
  obtain ⟨s0, s1, s2, s3, s4, s5, s6, s7⟩ := hS
  go_simp
  try with_reducible rfl
 refine AnyJ.takeD (i := 10) (d := some 35) (v := ?_) rfl (by kernel_rfl) (by kernel_rfl) (by kernel_rfl) (by kernel_rfl) (by kernel_rfl) (fun _ _ _ h => h) (Or.inl ⟨by kernel_rfl, ?_⟩) hS ?_
 rotate_left
 ·
  intro w' hS
  obtain ⟨s0, s1, s2, s3, s4, s5, s6, s7⟩ := hS
  go_simp
  try with_reducible rfl
 clear hS
 have r0 := HR6.out.cell 0 rfl
 have r1 := HR6.out.cell 1 rfl
 have r2 := HR6.out.cell 2 rfl
 have r3 := HR6.out.cell 3 rfl
 have r4 := HR6.out.cell 4 rfl
 have r5 := HR6.out.cell 5 rfl
 have r6 := HR6.out.cell 6 rfl
 have rz0 := HR6.out.frozen 0
 have rz1 := HR6.out.frozen 1
 have rz2 := HR6.out.frozen 2
 have rz3 := HR6.out.frozen 3
 have rz4 := HR6.out.frozen 4
 have rz5 := HR6.out.frozen 5
 have rz6 := HR6.out.frozen 6
 have rl := HR6.out.lt
 refine AnyJ.one (i := 11) (by kernel_rfl) rfl (fun Kz hKz => ?_)
 go_simp
 refine hKz _ _ (fun h => by cases h) ?_
 clear hKz Kz
 refine AnyJ.one (i := 12) (by kernel_rfl) rfl (fun Kz hKz => ?_)
 go_simp
 refine hKz _ _ (fun h => by cases h) ?_
 clear hKz Kz
 refine AnyJ.done (by kernel_rfl) ?_ _
 try simp only [Act.put, List.setIfInBounds_toArray, List.set_cons_zero, List.set_cons_succ]
 go_wp2_with fail
 have hP := puz_all HR6.out [.int .i64 (k), .int .i64 (fr), .int .i64 (un), .int .i64 (ps), .int .i64 (z'), .int .i64 (C), .int .i64 (x.c)] rfl
 have z4 : KMap (costV l) _ m _ := HK6.out.of_block (hP.2.2.2.2.2 m (by have := HK6.out.lt; omega) (show ¬ m = w.heap.size + 1 + 1 by omega))
 have z1 : Ch (fun b => b = m ∨ w.heap.size ≤ b) w _ := HC6.out.trans (hP.2.mono (fun b _ e => Or.inr (by omega)))
 simp only [Go.Proofs.Ytcmodmchnokmgaa.puz, Nat.reduceAdd, Nat.zero_add] at hP z4 z1
 obtain ⟨RP, CP⟩ := hP
 have q0 := RP.cell 0 rfl
 have q1 := RP.cell 1 rfl
 have q2 := RP.cell 2 rfl
 have q3 := RP.cell 3 rfl
 have q4 := RP.cell 4 rfl
 have q5 := RP.cell 5 rfl
 have q6 := RP.cell 6 rfl
 refine bodyPost_ret (v := .tuple #[.agg #[.int .i64 (k), .int .i64 (fr), .int .i64 (un), .int .i64 (ps), .int .i64 (z'), .int .i64 (C), .int .i64 (x.c)], .bool true]) (by simp [results, Try.results62, go_sem, q0, q1, q2, q3, q4, q5, q6]) rfl ⟨rfl, ⟨_, z4⟩, z1.own⟩
end
end Go.Proofs.Ytcmodmchnokmgaa
