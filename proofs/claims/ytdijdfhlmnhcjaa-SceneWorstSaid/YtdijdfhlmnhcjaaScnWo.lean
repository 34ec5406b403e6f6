/-
  SceneWorst: no valid scene walks more guests than worst.Walked says for as many channels, or for more; the one in which the channels of share.Top sell their whole shares walks exactly as many.
  No condition: for every input.
-/
import Derived.Test.YtdijdfhlmnhcjaaScnW
import Derived.Test.YtdijdfhlmnhcjaaScnP
import Derived.Test.YtdijdfhlmnhcjaaCh
namespace Go.Proofs.Ytdijdfhlmnhcjaa
set_option linter.unusedSimpArgs false
set_option linter.unusedVariables false
open Go.ChangeShapes Go.WideShapes Go.ChangeAt Go.RowKit Go.MapKept Go.Shelf

attribute [local go_sem] Oper.semAt_some

theorem Row.putI {w : World} {b : Nat} {cs : List Value} (h : Row w b cs) (i : Nat) (v : Value) {ds : List Value} (hd : cs.set i v = ds) : Row (w.setCell ⟨b, i, none⟩ v) b ds := by
  obtain ⟨T, h⟩ := h
  subst hd
  exact ⟨T, by simp [World.setCell, Array.getElem?_modify, h]⟩
theorem OwnV.putO {w : World} {base : Nat} {v : Value} {zs : List Int} (h : OwnV w base v zs) {a : Addr} (hb : a.block < base) (u : Value) : OwnV (w.setCell a u) base v zs := by
  obtain ⟨h1, h2⟩ := h
  refine ⟨h1, ?_⟩
  rcases h2 with h2 | ⟨g, cap, cur, e1, e2, e3, e4⟩
  · exact Or.inl h2
  · refine Or.inr ⟨g, cap, cur, e1, e2, ?_, e4⟩
    rw [← e3]
    simp only [World.setCell, Array.getElem?_modify]
    rw [if_neg (by omega)]

set_option maxRecDepth 100000 in
set_option maxHeartbeats 12800000 in
theorem scworst_walk (a : Option Addr) (n cap : Nat) (l : List NightV) (nt wd : Int) (ac : Option Addr) (nc cc : Nat) (zs : List Int) (as' : Option Addr) (ns cs : Nat) (ys : List Int) (y : Int) (hwl : ∀ x ∈ l, NightWf x) (_ : ScnWf nt wd zs ys) (hwy : (Lit.int .u8 y).wf = true) (w : World)
    (hl : SlN w a n l ∧ n ≤ cap ∧ cap ≤ maxLen) (hS : ScnIn w nt wd ac nc cc zs as' ns cs ys) :
    Calls Try.prog 7 #[.slice a n cap, .agg #[.int .i64 nt, .int .i64 wd, .slice ac nc cc, .slice as' ns cs], .int .u8 y] w fun e w' => e = .returned (.bool true) ∧ Below w.heap.size w w' := by
  obtain ⟨hs, k1, k2⟩ := hl
  obtain ⟨hz, hy, k3, k4, k5, k6⟩ := hS
  unfold maxLen at k2 k4 k6
  have HS := Lib.hid hs
  have HZ := Lib.hid hz
  have HY := Lib.hid hy
  have HL := Lib.hid hs.1
  have HZL := Lib.hid hz.1
  obtain ⟨y0, y1⟩ := bd_u8 hwy
  have hn : n ≤ 9223372036854775807 := by omega
  have hnc : nc ≤ 9223372036854775807 := by omega
  have hns : ns ≤ 9223372036854775807 := by omega
  clear hs hz hy hwy
  cases hR : usB25 l nt wd zs ys with
  | false =>
    have HR := Lib.hid hR
    clear hR
    go_enter Try.func7, Try.ntmps7
    go_wp2_with fail
    refine (s_head_any _).mono ?_
    rintro e w1 ⟨rfl, hb1⟩
    have R_s_1 : Row w1 (w.heap.size) [.int .i64 nt, .int .i64 wd, .slice ac nc cc, .slice as' ns cs] := by (repeat' (first | (with_reducible assumption) | (with_reducible refine Row.new' _ _ _ (by first | rfl | (simp; done) | omega)) | (with_reducible refine Row.alloc ?_ _) | (with_reducible refine Row.drew ?_) | (with_reducible refine Row.drewN ?_ _) | (with_reducible refine Row.step ?_ (by with_reducible assumption)) | (with_reducible refine Row.set2' ?_ _ _; first | exact ⟨_, _, by with_reducible assumption⟩ | exact ⟨_, _, Row.alloc (by with_reducible assumption) _⟩ | exact ⟨_, _, Row.alloc (Row.alloc (by with_reducible assumption) _) _⟩) | (with_reducible refine Row.other ?_ (by first | omega | (simp; done) | (simp; omega)) _)))
    have c_s_0_1 := R_s_1.cell 0 rfl
    have c_s_1_1 := R_s_1.cell 1 rfl
    have c_s_2_1 := R_s_1.cell 2 rfl
    have c_s_3_1 := R_s_1.cell 3 rfl
    have l_s_1 := R_s_1.lt
    have HB1 : Below w.heap.size w w1 := by (repeat' (first | (with_reducible exact Below.refl _ _) | (with_reducible assumption) | (with_reducible exact Bw.out (by with_reducible assumption)) | (with_reducible refine bw_alloc ?_ _) | (with_reducible refine bw_step ?_ (by with_reducible assumption)) | (with_reducible refine Below.alloc ?_ ?_ _) | (with_reducible refine Below.drew ?_) | (with_reducible refine below_drewN ?_ _) | (with_reducible refine Below.setCell ?_ ?_ _) | (with_reducible refine below_step ?_ (by with_reducible assumption) ?_) | (with_reducible exact Nat.le_refl _) | omega | (simp; omega) | (simp; done)))
    go_wp2_with fail
    refine (usable25 a n cap l nt wd ac nc cc zs as' ns cs ys _ hn hnc hns (HS.out.below (by (repeat' (first | (with_reducible exact Below.refl _ _) | (with_reducible assumption) | (with_reducible exact Bw.out (by with_reducible assumption)) | (with_reducible refine bw_alloc ?_ _) | (with_reducible refine bw_step ?_ (by with_reducible assumption)) | (with_reducible refine Below.alloc ?_ ?_ _) | (with_reducible refine Below.drew ?_) | (with_reducible refine below_drewN ?_ _) | (with_reducible refine Below.setCell ?_ ?_ _) | (with_reducible refine below_step ?_ (by with_reducible assumption) ?_) | (with_reducible exact Nat.le_refl _) | omega | (simp; omega) | (simp; done))))) (HZ.out.below (by (repeat' (first | (with_reducible exact Below.refl _ _) | (with_reducible assumption) | (with_reducible exact Bw.out (by with_reducible assumption)) | (with_reducible refine bw_alloc ?_ _) | (with_reducible refine bw_step ?_ (by with_reducible assumption)) | (with_reducible refine Below.alloc ?_ ?_ _) | (with_reducible refine Below.drew ?_) | (with_reducible refine below_drewN ?_ _) | (with_reducible refine Below.setCell ?_ ?_ _) | (with_reducible refine below_step ?_ (by with_reducible assumption) ?_) | (with_reducible exact Nat.le_refl _) | omega | (simp; omega) | (simp; done))))) (HY.out.below (by (repeat' (first | (with_reducible exact Below.refl _ _) | (with_reducible assumption) | (with_reducible exact Bw.out (by with_reducible assumption)) | (with_reducible refine bw_alloc ?_ _) | (with_reducible refine bw_step ?_ (by with_reducible assumption)) | (with_reducible refine Below.alloc ?_ ?_ _) | (with_reducible refine Below.drew ?_) | (with_reducible refine below_drewN ?_ _) | (with_reducible refine Below.setCell ?_ ?_ _) | (with_reducible refine below_step ?_ (by with_reducible assumption) ?_) | (with_reducible exact Nat.le_refl _) | omega | (simp; omega) | (simp; done))))) false HR.out).mono ?_
    rintro e w2 ⟨rfl, hb2⟩
    have R_s_2 : Row w2 (w.heap.size) [.int .i64 nt, .int .i64 wd, .slice ac nc cc, .slice as' ns cs] := by (repeat' (first | (with_reducible assumption) | (with_reducible refine Row.new' _ _ _ (by first | rfl | (simp; done) | omega)) | (with_reducible refine Row.alloc ?_ _) | (with_reducible refine Row.drew ?_) | (with_reducible refine Row.drewN ?_ _) | (with_reducible refine Row.step ?_ (by with_reducible assumption)) | (with_reducible refine Row.set2' ?_ _ _; first | exact ⟨_, _, by with_reducible assumption⟩ | exact ⟨_, _, Row.alloc (by with_reducible assumption) _⟩ | exact ⟨_, _, Row.alloc (Row.alloc (by with_reducible assumption) _) _⟩) | (with_reducible refine Row.other ?_ (by first | omega | (simp; done) | (simp; omega)) _)))
    have c_s_0_2 := R_s_2.cell 0 rfl
    have c_s_1_2 := R_s_2.cell 1 rfl
    have c_s_2_2 := R_s_2.cell 2 rfl
    have c_s_3_2 := R_s_2.cell 3 rfl
    have l_s_2 := R_s_2.lt
    have HB2 : Below w.heap.size w w2 := by (repeat' (first | (with_reducible exact Below.refl _ _) | (with_reducible assumption) | (with_reducible exact Bw.out (by with_reducible assumption)) | (with_reducible refine bw_alloc ?_ _) | (with_reducible refine bw_step ?_ (by with_reducible assumption)) | (with_reducible refine Below.alloc ?_ ?_ _) | (with_reducible refine Below.drew ?_) | (with_reducible refine below_drewN ?_ _) | (with_reducible refine Below.setCell ?_ ?_ _) | (with_reducible refine below_step ?_ (by with_reducible assumption) ?_) | (with_reducible exact Nat.le_refl _) | omega | (simp; omega) | (simp; done)))
    clear R_s_1 c_s_0_1 c_s_1_1 c_s_2_1 c_s_3_1 hb1 HB1
    go_wp2_with fail
    go_ret
    refine ⟨(by first | rfl | exact ret_bool (by first | rfl | (simp; done) | (simp; omega))), ?_⟩
    (repeat' (first | (with_reducible exact Below.refl _ _) | (with_reducible assumption) | (with_reducible exact Bw.out (by with_reducible assumption)) | (with_reducible refine bw_alloc ?_ _) | (with_reducible refine bw_step ?_ (by with_reducible assumption)) | (with_reducible refine Below.alloc ?_ ?_ _) | (with_reducible refine Below.drew ?_) | (with_reducible refine below_drewN ?_ _) | (with_reducible refine Below.setCell ?_ ?_ _) | (with_reducible refine below_step ?_ (by with_reducible assumption) ?_) | (with_reducible exact Nat.le_refl _) | omega | (simp; omega) | (simp; done)))
  | true =>
    have HR := Lib.hid hR
    have hO : openB l nt wd zs ys = true := by
      have := hR
      unfold usB25 at this
      simp only [Bool.and_eq_true, decide_eq_true_eq] at this
      exact this.2.2.2
    obtain ⟨x, hx, hnb⟩ := openB_night hO
    obtain ⟨s1, s2, s3⟩ := sells_bound hO
    obtain ⟨g1, ⟨t0, t1⟩, _⟩ := openB_in hO
    have HO := Lib.hid hO
    have HNB := Lib.hid g1
    have hn366 : n ≤ 366 := by have := (nightsB_in g1).1; have := HL.out; omega
    have hnc30 : nc ≤ 30 := by have := HZL.out; omega
    obtain ⟨Y, rfl⟩ := Int.eq_ofNat_of_zero_le y0
    obtain ⟨t, rfl⟩ := Int.eq_ofNat_of_zero_le t0
    have htn : t < n := by have := HL.out; omega
    obtain ⟨K, hK⟩ : ∃ K : Nat, Y % 4 = K := ⟨_, rfl⟩
    have hK4 : K < 4 := by omega
    have hmod : ((Y : Int)).tmod 4 = (K : Int) := by rw [← hK]; rfl
    have hwY : IntKind.i64.wrap (Y : Int) = (Y : Int) := IntWalk.i64_in _ (by omega)
    have hwK : IntKind.i64.wrap (K : Int) = (K : Int) := IntWalk.i64_in _ (by omega)
    have hwK1 : IntKind.i64.wrap ((nc : Int) + (K : Int)) = (nc : Int) + (K : Int) := IntWalk.i64_in _ (by omega)
    have hcp := wf_capsX hwl x (List.mem_of_getElem? hx)
    obtain ⟨cp1, cp2⟩ := hcp
    have hx' := hx
    rw [Int.toNat_natCast] at hx'
    obtain ⟨c, hc⟩ : ∃ c : Nat, min 30 (nc + K) = c := ⟨_, rfl⟩
    have hc30 : c ≤ 30 := by omega
    have hrw := run_worst hO hx (c := c) (by rw [HZL.out]; omega)
    have hto := top_open g1 hx' c
    have htr := top_run hx' c
    obtain ⟨R, hR2⟩ : ∃ R, runI l (t : Int) ys = R := ⟨_, rfl⟩
    obtain ⟨X, hX2⟩ : ∃ X, wkI x.rooms x.sold x.zs c = X := ⟨_, rfl⟩
    rw [hR2, hX2] at hrw
    rw [hX2] at htr
    obtain ⟨rm, sd, sa, sn, sc, sz⟩ := x
    simp only [] at cp1 cp2 hX2 htr hto hnb
    have HRI := Lib.hid hR2
    have HXI := Lib.hid hX2
    have HTO := Lib.hid hto
    have HTR := Lib.hid htr
    have HX := Lib.hid hx'
    have HNI := Lib.hid hnb
    have HCC := Lib.hid hc
    have HCP := Lib.hid (And.intro cp1 cp2)
    clear hR hO hnb s1 s2 s3 g1 hK hR2 hX2 hto htr hx hx' t0 t1 hwl hc cp1 cp2
    go_enter Try.func7, Try.ntmps7
    go_wp2_with fail
    refine (s_head_any _).mono ?_
    rintro e w1 ⟨rfl, hb1⟩
    have R_s_1 : Row w1 (w.heap.size) [.int .i64 (t : Int), .int .i64 wd, .slice ac nc cc, .slice as' ns cs] := by (repeat' (first | (with_reducible assumption) | (with_reducible refine Row.new' _ _ _ (by first | rfl | (simp; done) | omega)) | (with_reducible refine Row.alloc ?_ _) | (with_reducible refine Row.drew ?_) | (with_reducible refine Row.drewN ?_ _) | (with_reducible refine Row.step ?_ (by with_reducible assumption)) | (with_reducible refine Row.set2' ?_ _ _; first | exact ⟨_, _, by with_reducible assumption⟩ | exact ⟨_, _, Row.alloc (by with_reducible assumption) _⟩ | exact ⟨_, _, Row.alloc (Row.alloc (by with_reducible assumption) _) _⟩) | (with_reducible refine Row.other ?_ (by first | omega | (simp; done) | (simp; omega)) _)))
    have c_s_0_1 := R_s_1.cell 0 rfl
    have c_s_1_1 := R_s_1.cell 1 rfl
    have c_s_2_1 := R_s_1.cell 2 rfl
    have c_s_3_1 := R_s_1.cell 3 rfl
    have l_s_1 := R_s_1.lt
    have HB1 : Below w.heap.size w w1 := by (repeat' (first | (with_reducible exact Below.refl _ _) | (with_reducible assumption) | (with_reducible exact Bw.out (by with_reducible assumption)) | (with_reducible refine bw_alloc ?_ _) | (with_reducible refine bw_step ?_ (by with_reducible assumption)) | (with_reducible refine Below.alloc ?_ ?_ _) | (with_reducible refine Below.drew ?_) | (with_reducible refine below_drewN ?_ _) | (with_reducible refine Below.setCell ?_ ?_ _) | (with_reducible refine below_step ?_ (by with_reducible assumption) ?_) | (with_reducible exact Nat.le_refl _) | omega | (simp; omega) | (simp; done)))
    go_wp2_with fail
    refine (usable25 a n cap l t wd ac nc cc zs as' ns cs ys _ hn hnc hns (HS.out.below (by (repeat' (first | (with_reducible exact Below.refl _ _) | (with_reducible assumption) | (with_reducible exact Bw.out (by with_reducible assumption)) | (with_reducible refine bw_alloc ?_ _) | (with_reducible refine bw_step ?_ (by with_reducible assumption)) | (with_reducible refine Below.alloc ?_ ?_ _) | (with_reducible refine Below.drew ?_) | (with_reducible refine below_drewN ?_ _) | (with_reducible refine Below.setCell ?_ ?_ _) | (with_reducible refine below_step ?_ (by with_reducible assumption) ?_) | (with_reducible exact Nat.le_refl _) | omega | (simp; omega) | (simp; done))))) (HZ.out.below (by (repeat' (first | (with_reducible exact Below.refl _ _) | (with_reducible assumption) | (with_reducible exact Bw.out (by with_reducible assumption)) | (with_reducible refine bw_alloc ?_ _) | (with_reducible refine bw_step ?_ (by with_reducible assumption)) | (with_reducible refine Below.alloc ?_ ?_ _) | (with_reducible refine Below.drew ?_) | (with_reducible refine below_drewN ?_ _) | (with_reducible refine Below.setCell ?_ ?_ _) | (with_reducible refine below_step ?_ (by with_reducible assumption) ?_) | (with_reducible exact Nat.le_refl _) | omega | (simp; omega) | (simp; done))))) (HY.out.below (by (repeat' (first | (with_reducible exact Below.refl _ _) | (with_reducible assumption) | (with_reducible exact Bw.out (by with_reducible assumption)) | (with_reducible refine bw_alloc ?_ _) | (with_reducible refine bw_step ?_ (by with_reducible assumption)) | (with_reducible refine Below.alloc ?_ ?_ _) | (with_reducible refine Below.drew ?_) | (with_reducible refine below_drewN ?_ _) | (with_reducible refine Below.setCell ?_ ?_ _) | (with_reducible refine below_step ?_ (by with_reducible assumption) ?_) | (with_reducible exact Nat.le_refl _) | omega | (simp; omega) | (simp; done))))) true HR.out).mono ?_
    rintro e w2 ⟨rfl, hb2⟩
    have R_s_2 : Row w2 (w.heap.size) [.int .i64 (t : Int), .int .i64 wd, .slice ac nc cc, .slice as' ns cs] := by (repeat' (first | (with_reducible assumption) | (with_reducible refine Row.new' _ _ _ (by first | rfl | (simp; done) | omega)) | (with_reducible refine Row.alloc ?_ _) | (with_reducible refine Row.drew ?_) | (with_reducible refine Row.drewN ?_ _) | (with_reducible refine Row.step ?_ (by with_reducible assumption)) | (with_reducible refine Row.set2' ?_ _ _; first | exact ⟨_, _, by with_reducible assumption⟩ | exact ⟨_, _, Row.alloc (by with_reducible assumption) _⟩ | exact ⟨_, _, Row.alloc (Row.alloc (by with_reducible assumption) _) _⟩) | (with_reducible refine Row.other ?_ (by first | omega | (simp; done) | (simp; omega)) _)))
    have c_s_0_2 := R_s_2.cell 0 rfl
    have c_s_1_2 := R_s_2.cell 1 rfl
    have c_s_2_2 := R_s_2.cell 2 rfl
    have c_s_3_2 := R_s_2.cell 3 rfl
    have l_s_2 := R_s_2.lt
    have HB2 : Below w.heap.size w w2 := by (repeat' (first | (with_reducible exact Below.refl _ _) | (with_reducible assumption) | (with_reducible exact Bw.out (by with_reducible assumption)) | (with_reducible refine bw_alloc ?_ _) | (with_reducible refine bw_step ?_ (by with_reducible assumption)) | (with_reducible refine Below.alloc ?_ ?_ _) | (with_reducible refine Below.drew ?_) | (with_reducible refine below_drewN ?_ _) | (with_reducible refine Below.setCell ?_ ?_ _) | (with_reducible refine below_step ?_ (by with_reducible assumption) ?_) | (with_reducible exact Nat.le_refl _) | omega | (simp; omega) | (simp; done)))
    clear R_s_1 c_s_0_1 c_s_1_1 c_s_2_1 c_s_3_1 hb1 HB1
    obtain ⟨x, bb, off, hx, _, hxi, hab, hbb, c0, c1, c2⟩ := (HS.out.below HB2).get htn
    subst hab
    have hxe : x = ⟨rm, sd, sa, sn, sc, sz⟩ := Option.some.inj (hx.symm.trans HX.out)
    subst hxe
    simp only [] at c0 c1 c2
    have hSI : SlI w2 sa sn sz := hxi.2
    have hsn : sz.length = sn := hxi.2.1
    have KN := hSI.c HCP.out.1 HCP.out.2
    have hsn30 : sn ≤ 30 := by have := (sh_bounds HNI.out).1; omega
    have i1 : (0 : Int) ≤ (t : Int) := by omega
    have i2 : (t : Int) < (n : Int) := by omega
    clear hx hxi hSI hsn
    go_upto_region 6 with fail
    have hmn : (if (nc : Int) + (K : Int) < 30 then (nc : Int) + (K : Int) else 30) = (c : Int) := by have := HCC.out; split <;> omega
    rw [hmn]
    clear hmn hmod hwY hwK hwK1
    have hXX : ifI (waE rm sd sz (c : Int)) (wkI rm sd sz (c : Int).toNat) 0 = X := by
      have e : waE rm sd sz (c : Int) = true := by unfold waE; rw [HNI.out, inB_true (by omega) (by omega)]; rfl
      rw [e, Int.toNat_natCast]; exact HXI.out
    have hEE : ifI (waE rm sd sz (c : Int)) 0 1 = 0 := by
      have e : waE rm sd sz (c : Int) = true := by unfold waE; rw [HNI.out, inB_true (by omega) (by omega)]; rfl
      rw [e]; rfl
    have HXX := Lib.hid hXX
    have HEE := Lib.hid hEE
    obtain ⟨m, hm⟩ : ∃ m, min c sn = m := ⟨_, rfl⟩
    have HMM := Lib.hid hm
    have hm30 : m ≤ 30 := by omega
    have hxr : ¬ X < R := by omega
    clear hXX hEE hm
    go_wp2_with fail
    refine (Run_ok _ n cap l t wd ac nc cc zs as' ns cs ys _ hn hnc hns (HS.out.below (by (repeat' (first | (with_reducible exact Below.refl _ _) | (with_reducible assumption) | (with_reducible exact Bw.out (by with_reducible assumption)) | (with_reducible refine bw_alloc ?_ _) | (with_reducible refine bw_step ?_ (by with_reducible assumption)) | (with_reducible refine Below.alloc ?_ ?_ _) | (with_reducible refine Below.drew ?_) | (with_reducible refine below_drewN ?_ _) | (with_reducible refine Below.setCell ?_ ?_ _) | (with_reducible refine below_step ?_ (by with_reducible assumption) ?_) | (with_reducible exact Nat.le_refl _) | omega | (simp; omega) | (simp; done))))) (HZ.out.below (by (repeat' (first | (with_reducible exact Below.refl _ _) | (with_reducible assumption) | (with_reducible exact Bw.out (by with_reducible assumption)) | (with_reducible refine bw_alloc ?_ _) | (with_reducible refine bw_step ?_ (by with_reducible assumption)) | (with_reducible refine Below.alloc ?_ ?_ _) | (with_reducible refine Below.drew ?_) | (with_reducible refine below_drewN ?_ _) | (with_reducible refine Below.setCell ?_ ?_ _) | (with_reducible refine below_step ?_ (by with_reducible assumption) ?_) | (with_reducible exact Nat.le_refl _) | omega | (simp; omega) | (simp; done))))) (HY.out.below (by (repeat' (first | (with_reducible exact Below.refl _ _) | (with_reducible assumption) | (with_reducible exact Bw.out (by with_reducible assumption)) | (with_reducible refine bw_alloc ?_ _) | (with_reducible refine bw_step ?_ (by with_reducible assumption)) | (with_reducible refine Below.alloc ?_ ?_ _) | (with_reducible refine Below.drew ?_) | (with_reducible refine below_drewN ?_ _) | (with_reducible refine Below.setCell ?_ ?_ _) | (with_reducible refine below_step ?_ (by with_reducible assumption) ?_) | (with_reducible exact Nat.le_refl _) | omega | (simp; omega) | (simp; done))))) HO.out R HRI.out).mono ?_
    rintro e w3 ⟨rfl, hb3⟩
    have R_s_3 : Row w3 (w.heap.size) [.int .i64 (t : Int), .int .i64 wd, .slice ac nc cc, .slice as' ns cs] := by (repeat' (first | (with_reducible assumption) | (with_reducible refine Row.new' _ _ _ (by first | rfl | (simp; done) | omega)) | (with_reducible refine Row.alloc ?_ _) | (with_reducible refine Row.drew ?_) | (with_reducible refine Row.drewN ?_ _) | (with_reducible refine Row.step ?_ (by with_reducible assumption)) | (with_reducible refine Row.set2' ?_ _ _; first | exact ⟨_, _, by with_reducible assumption⟩ | exact ⟨_, _, Row.alloc (by with_reducible assumption) _⟩ | exact ⟨_, _, Row.alloc (Row.alloc (by with_reducible assumption) _) _⟩) | (with_reducible refine Row.other ?_ (by first | omega | (simp; done) | (simp; omega)) _)))
    have c_s_0_3 := R_s_3.cell 0 rfl
    have c_s_1_3 := R_s_3.cell 1 rfl
    have c_s_2_3 := R_s_3.cell 2 rfl
    have c_s_3_3 := R_s_3.cell 3 rfl
    have l_s_3 := R_s_3.lt
    have R_q_3 : Row w3 (w2.heap.size) [.int .i64 rm, .int .i64 sd, .slice sa sn sc] := by (repeat' (first | (with_reducible assumption) | (with_reducible refine Row.new' _ _ _ (by first | rfl | (simp; done) | omega)) | (with_reducible refine Row.alloc ?_ _) | (with_reducible refine Row.drew ?_) | (with_reducible refine Row.drewN ?_ _) | (with_reducible refine Row.step ?_ (by with_reducible assumption)) | (with_reducible refine Row.set2' ?_ _ _; first | exact ⟨_, _, by with_reducible assumption⟩ | exact ⟨_, _, Row.alloc (by with_reducible assumption) _⟩ | exact ⟨_, _, Row.alloc (Row.alloc (by with_reducible assumption) _) _⟩) | (with_reducible refine Row.other ?_ (by first | omega | (simp; done) | (simp; omega)) _)))
    have c_q_0_3 := R_q_3.cell 0 rfl
    have c_q_1_3 := R_q_3.cell 1 rfl
    have c_q_2_3 := R_q_3.cell 2 rfl
    have l_q_3 := R_q_3.lt
    replace KN := KN.step (show Below w2.heap.size w2 w3 by (repeat' (first | (with_reducible exact Below.refl _ _) | (with_reducible assumption) | (with_reducible exact Bw.out (by with_reducible assumption)) | (with_reducible refine bw_alloc ?_ _) | (with_reducible refine bw_step ?_ (by with_reducible assumption)) | (with_reducible refine Below.alloc ?_ ?_ _) | (with_reducible refine Below.drew ?_) | (with_reducible refine below_drewN ?_ _) | (with_reducible refine Below.setCell ?_ ?_ _) | (with_reducible refine below_step ?_ (by with_reducible assumption) ?_) | (with_reducible exact Nat.le_refl _) | omega | (simp; omega) | (simp; done))))
    have HB3 : Below w.heap.size w w3 := by (repeat' (first | (with_reducible exact Below.refl _ _) | (with_reducible assumption) | (with_reducible exact Bw.out (by with_reducible assumption)) | (with_reducible refine bw_alloc ?_ _) | (with_reducible refine bw_step ?_ (by with_reducible assumption)) | (with_reducible refine Below.alloc ?_ ?_ _) | (with_reducible refine Below.drew ?_) | (with_reducible refine below_drewN ?_ _) | (with_reducible refine Below.setCell ?_ ?_ _) | (with_reducible refine below_step ?_ (by with_reducible assumption) ?_) | (with_reducible exact Nat.le_refl _) | omega | (simp; omega) | (simp; done)))
    clear R_s_2 c_s_0_2 c_s_1_2 c_s_2_2 c_s_3_2 hb2 HB2
    go_wp2_with fail
    refine (Walked_any rm sd (c : Int) sa sn sc sz _ KN (by omega) X 0 HXX.out HEE.out).mono ?_
    rintro e w4 ⟨rfl, hb4⟩
    have R_s_4 : Row w4 (w.heap.size) [.int .i64 (t : Int), .int .i64 wd, .slice ac nc cc, .slice as' ns cs] := by (repeat' (first | (with_reducible assumption) | (with_reducible refine Row.new' _ _ _ (by first | rfl | (simp; done) | omega)) | (with_reducible refine Row.alloc ?_ _) | (with_reducible refine Row.drew ?_) | (with_reducible refine Row.drewN ?_ _) | (with_reducible refine Row.step ?_ (by with_reducible assumption)) | (with_reducible refine Row.set2' ?_ _ _; first | exact ⟨_, _, by with_reducible assumption⟩ | exact ⟨_, _, Row.alloc (by with_reducible assumption) _⟩ | exact ⟨_, _, Row.alloc (Row.alloc (by with_reducible assumption) _) _⟩) | (with_reducible refine Row.other ?_ (by first | omega | (simp; done) | (simp; omega)) _)))
    have c_s_0_4 := R_s_4.cell 0 rfl
    have c_s_1_4 := R_s_4.cell 1 rfl
    have c_s_2_4 := R_s_4.cell 2 rfl
    have c_s_3_4 := R_s_4.cell 3 rfl
    have l_s_4 := R_s_4.lt
    have R_q_4 : Row w4 (w2.heap.size) [.int .i64 rm, .int .i64 sd, .slice sa sn sc] := by (repeat' (first | (with_reducible assumption) | (with_reducible refine Row.new' _ _ _ (by first | rfl | (simp; done) | omega)) | (with_reducible refine Row.alloc ?_ _) | (with_reducible refine Row.drew ?_) | (with_reducible refine Row.drewN ?_ _) | (with_reducible refine Row.step ?_ (by with_reducible assumption)) | (with_reducible refine Row.set2' ?_ _ _; first | exact ⟨_, _, by with_reducible assumption⟩ | exact ⟨_, _, Row.alloc (by with_reducible assumption) _⟩ | exact ⟨_, _, Row.alloc (Row.alloc (by with_reducible assumption) _) _⟩) | (with_reducible refine Row.other ?_ (by first | omega | (simp; done) | (simp; omega)) _)))
    have c_q_0_4 := R_q_4.cell 0 rfl
    have c_q_1_4 := R_q_4.cell 1 rfl
    have c_q_2_4 := R_q_4.cell 2 rfl
    have l_q_4 := R_q_4.lt
    replace KN := KN.step (show Below w3.heap.size w3 w4 by (repeat' (first | (with_reducible exact Below.refl _ _) | (with_reducible assumption) | (with_reducible exact Bw.out (by with_reducible assumption)) | (with_reducible refine bw_alloc ?_ _) | (with_reducible refine bw_step ?_ (by with_reducible assumption)) | (with_reducible refine Below.alloc ?_ ?_ _) | (with_reducible refine Below.drew ?_) | (with_reducible refine below_drewN ?_ _) | (with_reducible refine Below.setCell ?_ ?_ _) | (with_reducible refine below_step ?_ (by with_reducible assumption) ?_) | (with_reducible exact Nat.le_refl _) | omega | (simp; omega) | (simp; done))))
    have HB4 : Below w.heap.size w w4 := by (repeat' (first | (with_reducible exact Below.refl _ _) | (with_reducible assumption) | (with_reducible exact Bw.out (by with_reducible assumption)) | (with_reducible refine bw_alloc ?_ _) | (with_reducible refine bw_step ?_ (by with_reducible assumption)) | (with_reducible refine Below.alloc ?_ ?_ _) | (with_reducible refine Below.drew ?_) | (with_reducible refine below_drewN ?_ _) | (with_reducible refine Below.setCell ?_ ?_ _) | (with_reducible refine below_step ?_ (by with_reducible assumption) ?_) | (with_reducible exact Nat.le_refl _) | omega | (simp; omega) | (simp; done)))
    clear R_s_3 c_s_0_3 c_s_1_3 c_s_2_3 c_s_3_3 R_q_3 c_q_0_3 c_q_1_3 c_q_2_3 hb3 HB3
    go_wp2_with fail
    refine (top_c c m (c : Int) sa sn sc sz _ KN rfl hc30 (nightB_sh HNI.out) HMM.out hsn30).mono ?_
    rintro e w5 ⟨bt, dt, rfl, KT, hb5⟩
    have R_s_5 : Row w5 (w.heap.size) [.int .i64 (t : Int), .int .i64 wd, .slice ac nc cc, .slice as' ns cs] := by (repeat' (first | (with_reducible assumption) | (with_reducible refine Row.new' _ _ _ (by first | rfl | (simp; done) | omega)) | (with_reducible refine Row.alloc ?_ _) | (with_reducible refine Row.drew ?_) | (with_reducible refine Row.drewN ?_ _) | (with_reducible refine Row.step ?_ (by with_reducible assumption)) | (with_reducible refine Row.set2' ?_ _ _; first | exact ⟨_, _, by with_reducible assumption⟩ | exact ⟨_, _, Row.alloc (by with_reducible assumption) _⟩ | exact ⟨_, _, Row.alloc (Row.alloc (by with_reducible assumption) _) _⟩) | (with_reducible refine Row.other ?_ (by first | omega | (simp; done) | (simp; omega)) _)))
    have c_s_0_5 := R_s_5.cell 0 rfl
    have c_s_1_5 := R_s_5.cell 1 rfl
    have c_s_2_5 := R_s_5.cell 2 rfl
    have c_s_3_5 := R_s_5.cell 3 rfl
    have l_s_5 := R_s_5.lt
    have R_q_5 : Row w5 (w2.heap.size) [.int .i64 rm, .int .i64 sd, .slice sa sn sc] := by (repeat' (first | (with_reducible assumption) | (with_reducible refine Row.new' _ _ _ (by first | rfl | (simp; done) | omega)) | (with_reducible refine Row.alloc ?_ _) | (with_reducible refine Row.drew ?_) | (with_reducible refine Row.drewN ?_ _) | (with_reducible refine Row.step ?_ (by with_reducible assumption)) | (with_reducible refine Row.set2' ?_ _ _; first | exact ⟨_, _, by with_reducible assumption⟩ | exact ⟨_, _, Row.alloc (by with_reducible assumption) _⟩ | exact ⟨_, _, Row.alloc (Row.alloc (by with_reducible assumption) _) _⟩) | (with_reducible refine Row.other ?_ (by first | omega | (simp; done) | (simp; omega)) _)))
    have c_q_0_5 := R_q_5.cell 0 rfl
    have c_q_1_5 := R_q_5.cell 1 rfl
    have c_q_2_5 := R_q_5.cell 2 rfl
    have l_q_5 := R_q_5.lt
    replace KN := KN.step (show Below w4.heap.size w4 w5 by (repeat' (first | (with_reducible exact Below.refl _ _) | (with_reducible assumption) | (with_reducible exact Bw.out (by with_reducible assumption)) | (with_reducible refine bw_alloc ?_ _) | (with_reducible refine bw_step ?_ (by with_reducible assumption)) | (with_reducible refine Below.alloc ?_ ?_ _) | (with_reducible refine Below.drew ?_) | (with_reducible refine below_drewN ?_ _) | (with_reducible refine Below.setCell ?_ ?_ _) | (with_reducible refine below_step ?_ (by with_reducible assumption) ?_) | (with_reducible exact Nat.le_refl _) | omega | (simp; omega) | (simp; done))))
    have HB5 : Below w.heap.size w w5 := by (repeat' (first | (with_reducible exact Below.refl _ _) | (with_reducible assumption) | (with_reducible exact Bw.out (by with_reducible assumption)) | (with_reducible refine bw_alloc ?_ _) | (with_reducible refine bw_step ?_ (by with_reducible assumption)) | (with_reducible refine Below.alloc ?_ ?_ _) | (with_reducible refine Below.drew ?_) | (with_reducible refine below_drewN ?_ _) | (with_reducible refine Below.setCell ?_ ?_ _) | (with_reducible refine below_step ?_ (by with_reducible assumption) ?_) | (with_reducible exact Nat.le_refl _) | omega | (simp; omega) | (simp; done)))
    clear R_s_4 c_s_0_4 c_s_1_4 c_s_2_4 c_s_3_4 R_q_4 c_q_0_4 c_q_1_4 c_q_2_4 hb4 HB4
    have HKT := Lib.hid KT
    have HKN := Lib.hid KN
    clear KT KN hb5
    go_upto_region 12 with fail
    have RA : Row (w5.alloc (.cells #[.int .i64 (t : Int), .int .i64 0, .slice bt m dt, .slice none 0 0] 25)) w5.heap.size [.int .i64 (t : Int), .int .i64 0, .slice bt m dt, .slice none 0 0] := Row.new' _ _ _ rfl
    have hal : Below w5.heap.size w5 (w5.alloc (.cells #[.int .i64 (t : Int), .int .i64 0, .slice bt m dt, .slice none 0 0] 25)) := by (repeat' (first | (with_reducible exact Below.refl _ _) | (with_reducible assumption) | (with_reducible exact Bw.out (by with_reducible assumption)) | (with_reducible refine bw_alloc ?_ _) | (with_reducible refine bw_step ?_ (by with_reducible assumption)) | (with_reducible refine Below.alloc ?_ ?_ _) | (with_reducible refine Below.drew ?_) | (with_reducible refine below_drewN ?_ _) | (with_reducible refine Below.setCell ?_ ?_ _) | (with_reducible refine below_step ?_ (by with_reducible assumption) ?_) | (with_reducible exact Nat.le_refl _) | omega | (simp; omega) | (simp; done)))
    have hs6 : (w5.alloc (.cells #[.int .i64 (t : Int), .int .i64 0, .slice bt m dt, .slice none 0 0] 25)).heap.size = w5.heap.size + 1 := by simp
    generalize w5.alloc (.cells #[.int .i64 (t : Int), .int .i64 0, .slice bt m dt, .slice none 0 0] 25) = w6 at RA hal hs6 ⊢
    obtain ⟨Ga, hGa⟩ : ∃ g, w5.heap.size = g := ⟨_, rfl⟩
    rw [hGa] at RA hal hs6 ⊢
    have HGA := Lib.hid hGa
    have HRQ := Lib.hid R_q_5
    have HB5' := Lib.hid HB5
    have hqG : w2.heap.size < Ga := by rw [← hGa]; exact R_q_5.lt
    obtain ⟨gq, hgq⟩ : ∃ g, w2.heap.size = g := ⟨_, rfl⟩
    rw [hgq] at HRQ hqG
    try rw [hgq]
    have HRA := Lib.hid RA
    have HBA := Lib.hid hal
    have HTL : Hid ((topL sz c).length = m) := HKT.out.1
    clear hGa RA hal R_q_5 R_s_5 HB5 hgq c_s_0_5 c_s_1_5 c_s_2_5 c_s_3_5 l_s_5 c_q_0_5 c_q_1_5 c_q_2_5 l_q_5
    go_wp2_with fail
    go_loopw [82] (fun vi wr => ∃ (k : Nat) (v : Value), k ≤ m ∧ vi = .int .i64 k ∧ Hid (Row wr Ga [.int .i64 (t : Int), .int .i64 0, .slice bt m dt, v]) ∧ Hid (OwnV wr (Ga + 1) v (atL sz ((topL sz c).take k))) ∧ Hid (Below Ga w5 wr)) (fun vi _ => m - (intOf vi).toNat)
    case atStart => exact ⟨0, _, Nat.zero_le _, rfl, HRA.out, by show OwnV _ _ _ _; rw [List.take_zero]; exact OwnV.nil _ _, HBA.out⟩
    case round =>
      obtain ⟨k, v, hk, rfl, hR, hO, hB⟩ := hrel
      have hGlt := hR.out.lt
      have hB5 : Hid (Below w5.heap.size w5 wr) := by show Below _ _ _; rw [HGA.out]; exact hB.out
      have HLk : Hid ((atL sz ((topL sz c).take k)).length = k) := by
        show _ = _
        rw [atL_eq, List.length_map, List.length_take, HTL.out]; omega
      by_cases hlt : k < m
      · obtain ⟨b1, o1, ci, e1, lb1, d1, g1, _, g3⟩ := (HKT.out.sl.below hB5.out).get hlt
        cases e1
        obtain ⟨m1, m2⟩ := topL_mem g3.out
        obtain ⟨C, rfl⟩ := Int.eq_ofNat_of_zero_le m1
        have hCn : C < sn := by have := HKN.out.1; omega
        obtain ⟨b2, o2, z, e2, lb2, d2, g2, _, _⟩ := (HKN.out.sl.below hB5.out).get hCn
        cases e2
        have HAT : Hid (atL sz ((topL sz c).take (k + 1)) = atL sz ((topL sz c).take k) ++ [z]) := by
          show _ = _
          rw [atL_take (by rw [HTL.out]; exact hlt), g1.out]
          unfold shr
          rw [Int.toNat_natCast, g2.out]
        have RQ := HRQ.out.below hB.out hqG
        have q2 := RQ.cell 2 rfl
        have lq := RQ.lt
        have i1 : (0 : Int) ≤ (k : Int) := by omega
        have i2 : (k : Int) < (m : Int) := by omega
        have i3 : (0 : Int) ≤ (C : Int) := by omega
        have i4 : (C : Int) < (sn : Int) := by omega
        obtain ⟨ad, cp, rfl⟩ := hO.out.form HLk.out
        have C3 : CellAt wr Ga 3 (.slice ad k cp) := hR.out.cell 3 rfl
        have Q2 : CellAt wr gq 2 (.slice (some ⟨b2, o2, none⟩) sn sc) := q2
        have D2 : CellAt wr b2 (o2 + C) (.int .i64 z) := d2
        clear g1 g2 g3 m1 m2 RQ
        go_upto_region 17 with fail
        clear d1 q2 d2
        refine AnyJ.beginP (fun w' : World => w'.cell? ⟨Ga, 3, none⟩ = some (.slice ad k cp) ∧ w'.cell? ⟨gq, 2, none⟩ = some (.slice (some ⟨b2, o2, none⟩) sn sc) ∧ w'.cell? ⟨b2, o2 + C, none⟩ = some (.int .i64 z)) (fun j => decide (j ≤ 9)) (by kernel_rfl) ⟨C3.out, Q2.out, D2.out⟩ (fun hS => ?_)
        refine AnyJ.takeD (i := 0) (d := some 95) (v := ?_) rfl (by kernel_rfl) (by kernel_rfl) (by kernel_rfl) (by kernel_rfl) (by kernel_rfl) (fun _ _ _ h => h) (Or.inl ⟨by kernel_rfl, ?_⟩) hS ?_
        rotate_left
        · intro w' hS
          clear hS
          go_simp
          try with_reducible rfl
        refine AnyJ.takeD (i := 1) (d := some 96) (v := ?_) rfl (by kernel_rfl) (by kernel_rfl) (by kernel_rfl) (by kernel_rfl) (by kernel_rfl) (fun _ _ _ h => h) (Or.inl ⟨by kernel_rfl, ?_⟩) hS ?_
        rotate_left
        · intro w' hS
          obtain ⟨sF0, sF1, sF2⟩ := hS
          go_simp
          try with_reducible rfl
        refine AnyJ.takeD (i := 2) (d := some 97) (v := ?_) rfl (by kernel_rfl) (by kernel_rfl) (by kernel_rfl) (by kernel_rfl) (by kernel_rfl) (fun _ _ _ h => h) (Or.inl ⟨by kernel_rfl, ?_⟩) hS ?_
        rotate_left
        · intro w' hS
          clear hS
          go_simp
          try with_reducible rfl
        refine AnyJ.takeD (i := 3) (d := some 98) (v := ?_) rfl (by kernel_rfl) (by kernel_rfl) (by kernel_rfl) (by kernel_rfl) (by kernel_rfl) (fun _ _ _ h => h) (Or.inl ⟨by kernel_rfl, ?_⟩) hS ?_
        rotate_left
        · intro w' hS
          obtain ⟨sF0, sF1, sF2⟩ := hS
          go_simp
          try with_reducible rfl
        refine AnyJ.takeD (i := 4) (d := some 99) (v := ?_) rfl (by kernel_rfl) (by kernel_rfl) (by kernel_rfl) (by kernel_rfl) (by kernel_rfl) (fun _ _ _ h => h) (Or.inl ⟨by kernel_rfl, ?_⟩) hS ?_
        rotate_left
        · intro w' hS
          clear hS
          go_simp
          try with_reducible rfl
        refine AnyJ.takeD (i := 5) (d := some 100) (v := ?_) rfl (by kernel_rfl) (by kernel_rfl) (by kernel_rfl) (by kernel_rfl) (by kernel_rfl) (fun _ _ _ h => h) (Or.inl ⟨by kernel_rfl, ?_⟩) hS ?_
        rotate_left
        · intro w' hS
          clear hS
          go_simp
          try with_reducible rfl
        refine AnyJ.takeD (i := 6) (d := some 101) (v := ?_) rfl (by kernel_rfl) (by kernel_rfl) (by kernel_rfl) (by kernel_rfl) (by kernel_rfl) (fun _ _ _ h => h) (Or.inl ⟨by kernel_rfl, ?_⟩) hS ?_
        rotate_left
        · intro w' hS
          obtain ⟨sF0, sF1, sF2⟩ := hS
          go_simp
          try with_reducible rfl
        clear hS
        refine AnyJ.one (i := 7) (by kernel_rfl) rfl (fun Kz hKz => ?_)
        go_simp
        have hal : Below wr.heap.size wr ((wr.alloc (.cells #[.int .i64 z] 3)).drew) := by (repeat' (first | (with_reducible exact Below.refl _ _) | (with_reducible assumption) | (with_reducible exact Bw.out (by with_reducible assumption)) | (with_reducible refine bw_alloc ?_ _) | (with_reducible refine bw_step ?_ (by with_reducible assumption)) | (with_reducible refine Below.alloc ?_ ?_ _) | (with_reducible refine Below.drew ?_) | (with_reducible refine below_drewN ?_ _) | (with_reducible refine Below.setCell ?_ ?_ _) | (with_reducible refine below_step ?_ (by with_reducible assumption) ?_) | (with_reducible exact Nat.le_refl _) | omega | (simp; omega) | (simp; done)))
        have R4 : Row ((wr.alloc (.cells #[.int .i64 z] 3)).drew) wr.heap.size [.int .i64 z] := (Row.new' _ _ _ rfl).drew
        have hO4 : OwnV ((wr.alloc (.cells #[.int .i64 z] 3)).drew) (Ga + 1) (.slice ad k cp) (atL sz ((topL sz c).take k)) := (hO.out.alloc _).drewN 1
        have hR4 := hR.out.step hal
        generalize ((wr.alloc (.cells #[.int .i64 z] 3)).drew) = w4 at hal R4 hO4 hR4 ⊢
        have hB4 : Below Ga w5 w4 := hB.out.trans (hal.mono (Nat.le_of_lt hGlt))
        refine hKz _ _ (fun _ => ⟨(C3.step hal).out, (Q2.step hal).out, (D2.step hal).out⟩) ?_
        clear hKz Kz
        refine AnyJ.one (i := 8) (by kernel_rfl) rfl (fun Kz hKz => ?_)
        refine step_app_int rfl (.tmp 96) (.tmp 102) 23 rfl Try.underlying23 (Ga + 1) _ (atL sz ((topL sz c).take k)) (by simp [Act.eval, Act.put]) hO4 wr.heap.size 1 z (by simp [Act.eval, Act.put]) (R4.cell 0 rfl) (by rw [HLk.out]; omega) (by have := hal.size; omega) ?_
        intro gg cp2 w7 hown hgr hor
        rw [HLk.out] at hown ⊢
        rw [← HAT.out] at hown
        have hB7 : Below Ga w5 w7 := hB4.grown hgr (Nat.le_of_lt hR4.lt) (fun g e => Nat.le_of_succ_le (World.ownsRow.lt hO4 g e).1)
        have hR7 := hR4.of_block (w' := w7) (hgr.block Ga hR4.lt (fun e => absurd (World.ownsRow.lt hO4 Ga e.symm).1 (by omega)))
        have hB7w : Below w5.heap.size w5 w7 := by rw [HGA.out]; exact hB7
        obtain ⟨b3, o3, z3, e3, _, d3, g3, _, _⟩ := (HKN.out.sl.below hB7w).get hCn
        cases e3
        obtain ⟨b4, o4, z4, e4, _, _, g4, _, _⟩ := HKN.out.sl.get hCn
        cases e4
        have hzz : z3 = z := by
          have h1 := (HKN.out.sl.below hB5.out).get hCn
          obtain ⟨_, _, z5, e5, _, d5, g5, _, _⟩ := h1
          cases e5
          have h6 : z5 = z := by
            have := D2.out
            rw [d5] at this
            simpa using this
          rw [← h6, ← g5.out, g3.out]
        rw [hzz] at d3
        have hS7 : (fun w' : World => w'.cell? ⟨Ga, 3, none⟩ = some (.slice ad k cp) ∧ w'.cell? ⟨gq, 2, none⟩ = some (.slice (some ⟨b2, o2, none⟩) sn sc) ∧ w'.cell? ⟨b2, o2 + C, none⟩ = some (.int .i64 z)) w7 := ⟨hR7.cell 3 rfl, (HRQ.out.below hB7 hqG).cell 2 rfl, d3⟩
        have HO7 := Lib.hid hown
        have HR7 := Lib.hid hR7
        have HB7 := Lib.hid hB7
        refine hKz _ _ (fun _ => hS7) ?_
        clear hKz Kz hown hgr hor hO4 hB4 hal R4 hR4 C3 Q2 D2 hB7w hB7 hR7 d3 hzz g3 g4
        refine AnyJ.takeD (i := 9) (d := some 104) (v := ?_) rfl (by kernel_rfl) (by kernel_rfl) (by kernel_rfl) (by kernel_rfl) (by kernel_rfl) (fun _ _ _ h => h) (Or.inl ⟨by kernel_rfl, ?_⟩) hS7 ?_
        rotate_left
        · intro w' hS
          clear hS
          go_simp
          try with_reducible rfl
        clear hS7
        have x3 := HR7.out.cell 3 rfl
        have z3f := HR7.out.frozen 3
        have l3 := HR7.out.lt
        refine AnyJ.one (i := 10) (by kernel_rfl) rfl (fun Kz hKz => ?_)
        go_simp
        refine hKz _ _ (fun h => absurd h (by decide)) ?_
        clear hKz Kz
        have HR8 := Lib.hid (HR7.out.putI 3 (.slice (some ⟨gg, 0, none⟩) (k + 1) cp2) rfl)
        have HO8 := Lib.hid (HO7.out.putO (a := ⟨Ga, 3, none⟩) (Nat.lt_succ_self Ga) (.slice (some ⟨gg, 0, none⟩) (k + 1) cp2))
        have HB8 := Lib.hid (Below.setCell HB7.out (show Ga ≤ (⟨Ga, 3, none⟩ : Addr).block from Nat.le_refl _) (.slice (some ⟨gg, 0, none⟩) (k + 1) cp2))
        clear x3 z3f l3
        refine AnyJ.done (by kernel_rfl) ?_ _
        try simp only [Act.put, List.setIfInBounds_toArray, List.set_cons_zero, List.set_cons_succ]
        go_wp2_with fail
        go_roundw
        case rel => exact ⟨k + 1, _, by omega, by go_num, HR8.out, HO8.out, HB8.out⟩
        case measure => simp [intOf]; omega
      · obtain rfl : m = k := by omega
        have hBw : Hid (Below w.heap.size w wr) := HB5'.out.trans (hB5.out.mono HB5'.out.size)
        have hall : (topL sz c).take m = topL sz c := List.take_of_length_le (by rw [HTL.out]; exact Nat.le_refl _)
        rw [hall] at hO HLk
        obtain ⟨ad, cp, rfl⟩ := hO.out.form HLk.out
        have a0 := hR.out.cell 0 rfl
        have a1 := hR.out.cell 1 rfl
        have a2 := hR.out.cell 2 rfl
        have a3 := hR.out.cell 3 rfl
        have HOS := Lib.hid (hO.out.sli HLk.out)
        have HKT8 := Lib.hid (HKT.out.sl.below hB5.out)
        clear hall hO hB hR
        go_wp2_with fail
        refine (Run_ok _ n cap l t 0 bt m dt (topL sz c) ad m cp (atL sz (topL sz c)) _ hn (by omega) (by omega) (HS.out.below hBw.out) HKT8.out HOS.out HTO.out X HTR.out).mono ?_
        rintro e w9 ⟨rfl, hb9⟩
        have HB9 : Hid (Below w.heap.size w w9) := hBw.out.trans (hb9.mono hBw.out.size)
        clear hb9
        go_wp2_with fail
        go_ret
        exact ⟨rfl, HB9.out⟩


set_option maxRecDepth 100000 in
theorem sceneWorst_lifted (os : Os) (started : os.Started) (H : Type) (enc : TypeId × Value → H) :
    ReturnsInHanded {} Try.checked os 7 .any (Rows.sceneWorstSpec.pre6 enc Try.prog Try.f7 Rows.sceneWorstRow.domain false) (Rows.sceneWorstSpec.post enc Try.prog Try.f7 false true false false) := by
  refine returnsInHanded_of_change (C := Try.checked) own started (by kernel_rfl) Try.func7
    (ChangeSpec.witness6 (enc := enc) (C := Try.checked) false ⟨#[], #[.slice none 0 0, .agg #[.int .i64 0, .int .i64 0, .slice none 0 0, .slice none 0 0], .int .u8 0], []⟩ 8 (by kernel_rfl) (by kernel_rfl) (by kernel_rfl) (by kernel_rfl)) ?_
  intro W base args ds gs before hval0 hW _ _
  have hval : ∀ (j : Nat) t v, Try.f7.params[j]? = some t → args[j]? = some v → Value.okWide Try.prog W .any base t v := hval0
  have hW' := hW
  obtain ⟨p, q, hA0, hV, rfl, hfz, hnd⟩ := hW
  obtain ⟨rfl, rfl⟩ := trodVars_none hV
  have hA : DataW.TrodAll enc Try.prog W 0 (fun _ => true) true Try.f7.params.toList args.toList ds p := hA0
  rw [Try.params7] at hA hval
  obtain ⟨v0, vs0, d0, ds0, p0, q0, hargs, rfl, rfl, h0, r0⟩ := trodAll_cons hA
  obtain ⟨v1, vs1, d1, ds1, p1, q1, rfl, rfl, rfl, h1, r1⟩ := trodAll_cons r0
  obtain ⟨v2, vs2, d2, ds2, p2, q2, rfl, rfl, rfl, h2, r2⟩ := trodAll_cons r1
  obtain ⟨rfl, rfl, rfl⟩ := trodAll_nil r2
  obtain rfl : args = #[v0, v1, v2] := by cases args; simp_all
  obtain ⟨a0_l, n0_l, c0_l, rfl⟩ := okWide_slice Try.underlying22 (hval 0 22 v0 rfl rfl)
  obtain ⟨fu_l, hf_l⟩ := h0
  obtain ⟨a_l, n_l, c_l, l_l, e_l, g1_l, g2_l, hs_l, wf_l⟩ := sln_of_nights (by simpa [Value.cells] using hf_l)
  cases e_l
  obtain ⟨nt_s, wd_s, ac_s, nc_s, cc_s, zs_s, as_s, ns_s, cs_s, ys_s, rfl, hs_s, wf_s⟩ := scene_of (hval 1 25 v1 rfl rfl) h1
  obtain ⟨y, rfl, rfl, rfl, wy⟩ := open_int Try.underlying5 (hval 2 5 v2 rfl rfl) h2
  clear hA0 hval0
  refine (scworst_walk _ _ _ l_l nt_s wd_s _ _ _ zs_s _ _ _ ys_s y wf_l wf_s wy W ⟨hs_l, g1_l, g2_l⟩ hs_s).mono fun e W' ⟨he, hb⟩ => ?_
  subst he
  exact ⟨_, rfl, law_post (B := 4) laidOut (by rw [Try.params7]; simp only [List.mem_cons, List.not_mem_nil, or_false, forall_eq_or_imp, forall_eq]; first | exact readable_sceneWorst | (repeat' apply And.intro) <;> first | exact of_decide_eq_true (by kernel_rfl) | kernel_rfl) rfl Try.underlying4 rfl rfl hW' hb⟩

theorem sceneWorst_over : Rows.sceneWorstRow.holds Try.pinned (OpenSpec.ofChange Rows.sceneWorstSpec) :=
  OpenClaim.holds_of_wide 7 Try.f7 rfl rfl rfl rfl rfl rfl rfl ⟨rfl, rfl, rfl, rfl, rfl⟩ rfl rfl rfl rfl rfl (by kernel_rfl) Try.func7 (by kernel_rfl)
    (of_decide_eq_true (by kernel_rfl)) (by unfold Func.isWrapper; first | (rw [if_pos (by decide +kernel)]; kernel_rfl) | (rw [if_neg (by decide +kernel)]; exact ⟨rfl, rfl⟩))
    (fun os started H enc _ => sceneWorst_lifted os started H enc)

theorem sceneWorst_holds : Rows.SceneWorstSaid := sceneWorst_over
#print axioms sceneWorst_holds

end Go.Proofs.Ytdijdfhlmnhcjaa
