/-
  The reference of scene, fifth part: sold, Run, one, Sales, SameSales.
-/
import Derived.Test.YtdijdfhlmnhcjaaScnP
import Derived.Test.YtdijdfhlmnhcjaaScnS
import Derived.Test.YtdijdfhlmnhcjaaCh
import Derived.Test.YtdijdfhlmnhcjaaCell
namespace Go.Proofs.Ytdijdfhlmnhcjaa
set_option linter.unusedSimpArgs false
set_option linter.unusedVariables false
open Go.RowKit Go.MapKept Go.Shelf

attribute [local go_sem] Oper.semAt_some

set_option maxRecDepth 100000 in
theorem R_one25 (id ch : Int) (ct : Bool) (kd nt : Int) (w : World) (h : IntKind.i64.wrap (nt + 1) = nt + 1) :
    Calls Try.prog 33 #[.int .i64 id, .int .i64 ch, .bool ct, .int .i64 kd, .int .i64 nt] w
      fun e w' => e = .returned (.agg #[.int .i64 id, .int .i64 ch, .int .i64 id, .bool ct, .int .i64 kd, .int .i64 nt, .int .i64 (nt + 1), .int .i64 1]) ∧ Below w.heap.size w w' := by
  go_enter Try.func33, Try.ntmps33
  go_wp2_with fail
  refine bodyPost_ret (v := .agg #[.int .i64 id, .int .i64 ch, .int .i64 id, .bool ct, .int .i64 kd, .int .i64 nt, .int .i64 (nt + 1), .int .i64 1]) (by simp [results, Try.results33, go_sem]) rfl ⟨rfl, ?_⟩
  (repeat' (first | (with_reducible exact Below.refl _ _) | (with_reducible assumption) | (with_reducible exact Bw.out (by with_reducible assumption)) | (with_reducible refine bw_alloc ?_ _) | (with_reducible refine bw_step ?_ (by with_reducible assumption)) | (with_reducible refine Below.alloc ?_ ?_ _) | (with_reducible refine Below.drew ?_) | (with_reducible refine below_drewN ?_ _) | (with_reducible refine Below.setCell ?_ ?_ _) | (with_reducible refine below_step ?_ (by with_reducible assumption) ?_) | (with_reducible exact Nat.le_refl _) | omega | (simp; omega) | (simp; done)))

set_option maxRecDepth 100000 in
set_option maxHeartbeats 3200000 in
theorem R_sold25 (a : Option Addr) (n cap : Nat) (l : List NightV) (t : Nat) (wd : Int) (ac : Option Addr) (nc cc : Nat) (zs : List Int) (as' : Option Addr) (ns cs : Nat) (ys : List Int) (w : World)
    (hn : n ≤ 9223372036854775807) (hns : ns ≤ 9223372036854775807) (hs : SlN w a n l) (hy : SlI w as' ns ys) (hb : openB l (t : Int) wd zs ys = true) (x : NightV) (hx : l[t]? = some x) (M : Int) (hM : x.sold + ys.sum = M) :
    Calls Try.prog 28 #[.slice a n cap, .agg #[.int .i64 (t : Int), .int .i64 wd, .slice ac nc cc, .slice as' ns cs]] w fun e w' => e = .returned (.int .i64 M) ∧ Below w.heap.size w w' := by
  obtain ⟨x', hx', hnb⟩ := openB_night hb
  rw [Int.toNat_natCast, hx] at hx'
  cases hx'
  obtain ⟨s1, s2, s3⟩ := sells_bound hb
  obtain ⟨_, d0, d1⟩ := nightB_nums hnb
  have htn : t < n := by have := hs.1; have := (List.getElem?_eq_some_iff.1 hx).1; omega
  have hns30 : ns ≤ 30 := by have := hy.1; omega
  have HS := Lib.hid hs
  have HY := Lib.hid hy
  have HYL := Lib.hid hy.1
  have HYB := Lib.hid s3
  have HX := Lib.hid hx
  obtain ⟨rm, sd, sa, sn, sc, sz⟩ := x
  simp only [] at d0 d1 hM
  have HM := Lib.hid hM
  clear hs hy hb hnb s1 s2 s3 hx hM
  go_enter Try.func28, Try.ntmps28
  have RS0 : Row (w.alloc (.cells #[.int .i64 (t : Int), .int .i64 wd, .slice ac nc cc, .slice as' ns cs] 25)) w.heap.size [.int .i64 (t : Int), .int .i64 wd, .slice ac nc cc, .slice as' ns cs] := Row.new' _ _ _ rfl
  have hal : Below w.heap.size w (w.alloc (.cells #[.int .i64 (t : Int), .int .i64 wd, .slice ac nc cc, .slice as' ns cs] 25)) := by (repeat' (first | (with_reducible exact Below.refl _ _) | (with_reducible assumption) | (with_reducible exact Bw.out (by with_reducible assumption)) | (with_reducible refine bw_alloc ?_ _) | (with_reducible refine bw_step ?_ (by with_reducible assumption)) | (with_reducible refine Below.alloc ?_ ?_ _) | (with_reducible refine Below.drew ?_) | (with_reducible refine below_drewN ?_ _) | (with_reducible refine Below.setCell ?_ ?_ _) | (with_reducible refine below_step ?_ (by with_reducible assumption) ?_) | (with_reducible exact Nat.le_refl _) | omega | (simp; omega) | (simp; done)))
  go_upto_region 1 with fail
  obtain ⟨w1, hw1⟩ : ∃ W, w.alloc (.cells #[.int .i64 (t : Int), .int .i64 wd, .slice ac nc cc, .slice as' ns cs] 25) = W := ⟨_, rfl⟩
  rw [hw1] at RS0 hal
  try rw [hw1]
  obtain ⟨g1, hg1⟩ : ∃ g, w.heap.size = g := ⟨_, rfl⟩
  rw [hg1] at RS0
  try rw [hg1]
  have HB1 := Lib.hid hal
  obtain ⟨x, bb, off, hx, _, _, hab, _, c0, c1, c2⟩ := (HS.out.below HB1.out).get htn
  subst hab
  have hxe : x = ⟨rm, sd, sa, sn, sc, sz⟩ := Option.some.inj (hx.symm.trans HX.out)
  subst hxe
  simp only [] at c1
  have q0 := RS0.cell 0 rfl
  have q3 := RS0.cell 3 rfl
  have lq := RS0.lt
  have i1 : (0 : Int) ≤ (t : Int) := by omega
  have i2 : (t : Int) < (n : Int) := by omega
  clear hw1 hal hx hg1
  go_wp2_with fail
  go_loop [5, 6] (fun v vi => ∃ k : Nat, k ≤ ns ∧ v = .int .i64 (idS sd ys k) ∧ vi = .int .i64 k) (fun _ vi => ns - (intOf vi).toNat)
  case atStart => exact ⟨0, Nat.zero_le _, by simp [idS], rfl⟩
  case round =>
    obtain ⟨k, hk, rfl, rfl⟩ := hrel
    by_cases hlt : k < ns
    · obtain ⟨b2, o2, y, e2, _, d2, g2, _, g3⟩ := (HY.out.below HB1.out).get hlt
      cases e2
      have hyb := HYB.out y g3.out
      have hps := sum_boundS (ys := ys.take k) (fun y h => HYB.out y (List.mem_of_mem_take h))
      rw [List.length_take] at hps
      have HSU : Hid (idS sd ys (k + 1) = idS sd ys k + y) := by
        show _ = _
        unfold idS
        rw [sum_takeS (by rw [HYL.out]; exact hlt), g2.out]; omega
      obtain ⟨z, hz⟩ : ∃ z, idS sd ys k = z := ⟨_, rfl⟩
      have hzb : 0 ≤ z ∧ z ≤ 13000 := by rw [← hz]; unfold idS; omega
      rw [hz] at HSU
      try rw [hz]
      obtain ⟨z0, z1⟩ := hzb
      obtain ⟨y0, y1⟩ := hyb
      have i1 : (0 : Int) ≤ (k : Int) := by omega
      have i2 : (k : Int) < (ns : Int) := by omega
      clear hz hps g2 g3
      go_wp2_with fail
      go_round
      case rel => exact ⟨k + 1, by omega, by rw [HSU.out], by go_num⟩
      case measure => simp [intOf]; omega
    · obtain rfl : ns = k := by omega
      have hid : idS sd ys ns = M := by
        rw [← HM.out]
        unfold idS
        rw [List.take_of_length_le (by rw [HYL.out]; exact Nat.le_refl _)]
      rw [hid]
      clear hid
      go_wp2_with fail
      go_ret
      exact ⟨rfl, HB1.out⟩

set_option maxRecDepth 100000 in
set_option maxHeartbeats 3200000 in
theorem R_Run_no25 (a : Option Addr) (n cap : Nat) (l : List NightV) (nt wd : Int) (ac : Option Addr) (nc cc : Nat) (zs : List Int) (as' : Option Addr) (ns cs : Nat) (ys : List Int) (w : World)
    (hn : n ≤ 9223372036854775807) (hnc : nc ≤ 9223372036854775807) (hns : ns ≤ 9223372036854775807) (hs : SlN w a n l) (hz : SlI w ac nc zs) (hy : SlI w as' ns ys) (hb : openB l nt wd zs ys = false) :
    Calls Try.prog 12 #[.slice a n cap, .agg #[.int .i64 nt, .int .i64 wd, .slice ac nc cc, .slice as' ns cs]] w
      fun e w' => e = .returned (.tuple #[.int .i64 0, .int .i64 1]) ∧ Below w.heap.size w w' := by
  have HS := Lib.hid hs
  have HZ := Lib.hid hz
  have HY := Lib.hid hy
  have HB := Lib.hid hb
  clear hs hz hy hb
  go_enter Try.func12, Try.ntmps12
  go_wp2_with fail
  refine (R_Valid25 a n cap l nt wd ac nc cc zs as' ns cs ys _ hn hnc hns (HS.out.below (by (repeat' (first | (with_reducible exact Below.refl _ _) | (with_reducible assumption) | (with_reducible exact Bw.out (by with_reducible assumption)) | (with_reducible refine bw_alloc ?_ _) | (with_reducible refine bw_step ?_ (by with_reducible assumption)) | (with_reducible refine Below.alloc ?_ ?_ _) | (with_reducible refine Below.drew ?_) | (with_reducible refine below_drewN ?_ _) | (with_reducible refine Below.setCell ?_ ?_ _) | (with_reducible refine below_step ?_ (by with_reducible assumption) ?_) | (with_reducible exact Nat.le_refl _) | omega | (simp; omega) | (simp; done))))) (HZ.out.below (by (repeat' (first | (with_reducible exact Below.refl _ _) | (with_reducible assumption) | (with_reducible exact Bw.out (by with_reducible assumption)) | (with_reducible refine bw_alloc ?_ _) | (with_reducible refine bw_step ?_ (by with_reducible assumption)) | (with_reducible refine Below.alloc ?_ ?_ _) | (with_reducible refine Below.drew ?_) | (with_reducible refine below_drewN ?_ _) | (with_reducible refine Below.setCell ?_ ?_ _) | (with_reducible refine below_step ?_ (by with_reducible assumption) ?_) | (with_reducible exact Nat.le_refl _) | omega | (simp; omega) | (simp; done))))) (HY.out.below (by (repeat' (first | (with_reducible exact Below.refl _ _) | (with_reducible assumption) | (with_reducible exact Bw.out (by with_reducible assumption)) | (with_reducible refine bw_alloc ?_ _) | (with_reducible refine bw_step ?_ (by with_reducible assumption)) | (with_reducible refine Below.alloc ?_ ?_ _) | (with_reducible refine Below.drew ?_) | (with_reducible refine below_drewN ?_ _) | (with_reducible refine Below.setCell ?_ ?_ _) | (with_reducible refine below_step ?_ (by with_reducible assumption) ?_) | (with_reducible exact Nat.le_refl _) | omega | (simp; omega) | (simp; done))))) false HB.out).mono ?_
  rintro e w1 ⟨rfl, hb1⟩
  have R_s_1 : Row w1 (w.heap.size) [.int .i64 nt, .int .i64 wd, .slice ac nc cc, .slice as' ns cs] := by (repeat' (first | (with_reducible assumption) | (with_reducible refine Row.new' _ _ _ (by first | rfl | (simp; done) | omega)) | (with_reducible refine Row.alloc ?_ _) | (with_reducible refine Row.drew ?_) | (with_reducible refine Row.drewN ?_ _) | (with_reducible refine Row.step ?_ (by with_reducible assumption)) | (with_reducible refine Row.set2' ?_ _ _; first | exact ⟨_, _, by with_reducible assumption⟩ | exact ⟨_, _, Row.alloc (by with_reducible assumption) _⟩ | exact ⟨_, _, Row.alloc (Row.alloc (by with_reducible assumption) _) _⟩) | (with_reducible refine Row.other ?_ (by first | omega | (simp; done) | (simp; omega)) _)))
  have c_s_0_1 := R_s_1.cell 0 rfl
  have c_s_1_1 := R_s_1.cell 1 rfl
  have c_s_2_1 := R_s_1.cell 2 rfl
  have c_s_3_1 := R_s_1.cell 3 rfl
  have l_s_1 := R_s_1.lt
  have HB1 : Below w.heap.size w w1 := by (repeat' (first | (with_reducible exact Below.refl _ _) | (with_reducible assumption) | (with_reducible exact Bw.out (by with_reducible assumption)) | (with_reducible refine bw_alloc ?_ _) | (with_reducible refine bw_step ?_ (by with_reducible assumption)) | (with_reducible refine Below.alloc ?_ ?_ _) | (with_reducible refine Below.drew ?_) | (with_reducible refine below_drewN ?_ _) | (with_reducible refine Below.setCell ?_ ?_ _) | (with_reducible refine below_step ?_ (by with_reducible assumption) ?_) | (with_reducible exact Nat.le_refl _) | omega | (simp; omega) | (simp; done)))
  go_wp2_with fail
  go_ret2
  refine ⟨rfl, ?_⟩
  (repeat' (first | (with_reducible exact Below.refl _ _) | (with_reducible assumption) | (with_reducible exact Bw.out (by with_reducible assumption)) | (with_reducible refine bw_alloc ?_ _) | (with_reducible refine bw_step ?_ (by with_reducible assumption)) | (with_reducible refine Below.alloc ?_ ?_ _) | (with_reducible refine Below.drew ?_) | (with_reducible refine below_drewN ?_ _) | (with_reducible refine Below.setCell ?_ ?_ _) | (with_reducible refine below_step ?_ (by with_reducible assumption) ?_) | (with_reducible exact Nat.le_refl _) | omega | (simp; omega) | (simp; done)))

set_option maxRecDepth 100000 in
set_option maxHeartbeats 6400000 in
theorem R_Run_ok25 (a : Option Addr) (n cap : Nat) (l : List NightV) (nt wd : Int) (ac : Option Addr) (nc cc : Nat) (zs : List Int) (as' : Option Addr) (ns cs : Nat) (ys : List Int) (w : World)
    (hn : n ≤ 9223372036854775807) (hnc : nc ≤ 9223372036854775807) (hns : ns ≤ 9223372036854775807) (hs : SlN w a n l) (hz : SlI w ac nc zs) (hy : SlI w as' ns ys) (hb : openB l nt wd zs ys = true) (R : Int) (hR : runI l nt ys = R) :
    Calls Try.prog 12 #[.slice a n cap, .agg #[.int .i64 nt, .int .i64 wd, .slice ac nc cc, .slice as' ns cs]] w
      fun e w' => e = .returned (.tuple #[.int .i64 R, .int .i64 0]) ∧ Below w.heap.size w w' := by
  have HS := Lib.hid hs
  have HZ := Lib.hid hz
  have HY := Lib.hid hy
  have HO := Lib.hid hb
  obtain ⟨x, hx, hnb⟩ := openB_night hb
  obtain ⟨s1, s2, s3⟩ := sells_bound hb
  obtain ⟨_, ⟨t0, t1⟩, _⟩ := openB_in hb
  obtain ⟨⟨r0, r1⟩, d0, d1⟩ := nightB_nums hnb
  have hsm := sum_boundS s3
  rw [runI_at hx] at hR
  obtain ⟨t, rfl⟩ := Int.eq_ofNat_of_zero_le t0
  have htn : t < n := by have := hs.1; omega
  rw [Int.toNat_natCast] at hx
  obtain ⟨rm, sd, sa, sn, sc, sz⟩ := x
  simp only [] at r0 r1 d0 d1 hR
  have HX := Lib.hid hx
  obtain ⟨M, hM⟩ : ∃ M, sd + ys.sum = M := ⟨_, rfl⟩
  have hMb : 0 ≤ M ∧ M ≤ 13000 := by omega
  obtain ⟨m0, m1⟩ := hMb
  have hR' : mxI (M - rm) = R := by rw [← hR, ← hM]; congr 1; omega
  have HMM := Lib.hid hM
  have HRR := Lib.hid hR'
  clear hs hz hy hb hx hnb s1 s2 s3 hsm hR hR' t0 t1 hM
  go_enter Try.func12, Try.ntmps12
  go_wp2_with fail
  refine (R_Valid25 a n cap l t wd ac nc cc zs as' ns cs ys _ hn hnc hns (HS.out.below (by (repeat' (first | (with_reducible exact Below.refl _ _) | (with_reducible assumption) | (with_reducible exact Bw.out (by with_reducible assumption)) | (with_reducible refine bw_alloc ?_ _) | (with_reducible refine bw_step ?_ (by with_reducible assumption)) | (with_reducible refine Below.alloc ?_ ?_ _) | (with_reducible refine Below.drew ?_) | (with_reducible refine below_drewN ?_ _) | (with_reducible refine Below.setCell ?_ ?_ _) | (with_reducible refine below_step ?_ (by with_reducible assumption) ?_) | (with_reducible exact Nat.le_refl _) | omega | (simp; omega) | (simp; done))))) (HZ.out.below (by (repeat' (first | (with_reducible exact Below.refl _ _) | (with_reducible assumption) | (with_reducible exact Bw.out (by with_reducible assumption)) | (with_reducible refine bw_alloc ?_ _) | (with_reducible refine bw_step ?_ (by with_reducible assumption)) | (with_reducible refine Below.alloc ?_ ?_ _) | (with_reducible refine Below.drew ?_) | (with_reducible refine below_drewN ?_ _) | (with_reducible refine Below.setCell ?_ ?_ _) | (with_reducible refine below_step ?_ (by with_reducible assumption) ?_) | (with_reducible exact Nat.le_refl _) | omega | (simp; omega) | (simp; done))))) (HY.out.below (by (repeat' (first | (with_reducible exact Below.refl _ _) | (with_reducible assumption) | (with_reducible exact Bw.out (by with_reducible assumption)) | (with_reducible refine bw_alloc ?_ _) | (with_reducible refine bw_step ?_ (by with_reducible assumption)) | (with_reducible refine Below.alloc ?_ ?_ _) | (with_reducible refine Below.drew ?_) | (with_reducible refine below_drewN ?_ _) | (with_reducible refine Below.setCell ?_ ?_ _) | (with_reducible refine below_step ?_ (by with_reducible assumption) ?_) | (with_reducible exact Nat.le_refl _) | omega | (simp; omega) | (simp; done))))) true HO.out).mono ?_
  rintro e w1 ⟨rfl, hb1⟩
  have R_s_1 : Row w1 (w.heap.size) [.int .i64 (t : Int), .int .i64 wd, .slice ac nc cc, .slice as' ns cs] := by (repeat' (first | (with_reducible assumption) | (with_reducible refine Row.new' _ _ _ (by first | rfl | (simp; done) | omega)) | (with_reducible refine Row.alloc ?_ _) | (with_reducible refine Row.drew ?_) | (with_reducible refine Row.drewN ?_ _) | (with_reducible refine Row.step ?_ (by with_reducible assumption)) | (with_reducible refine Row.set2' ?_ _ _; first | exact ⟨_, _, by with_reducible assumption⟩ | exact ⟨_, _, Row.alloc (by with_reducible assumption) _⟩ | exact ⟨_, _, Row.alloc (Row.alloc (by with_reducible assumption) _) _⟩) | (with_reducible refine Row.other ?_ (by first | omega | (simp; done) | (simp; omega)) _)))
  have c_s_0_1 := R_s_1.cell 0 rfl
  have c_s_1_1 := R_s_1.cell 1 rfl
  have c_s_2_1 := R_s_1.cell 2 rfl
  have c_s_3_1 := R_s_1.cell 3 rfl
  have l_s_1 := R_s_1.lt
  have HB1 : Below w.heap.size w w1 := by (repeat' (first | (with_reducible exact Below.refl _ _) | (with_reducible assumption) | (with_reducible exact Bw.out (by with_reducible assumption)) | (with_reducible refine bw_alloc ?_ _) | (with_reducible refine bw_step ?_ (by with_reducible assumption)) | (with_reducible refine Below.alloc ?_ ?_ _) | (with_reducible refine Below.drew ?_) | (with_reducible refine below_drewN ?_ _) | (with_reducible refine Below.setCell ?_ ?_ _) | (with_reducible refine below_step ?_ (by with_reducible assumption) ?_) | (with_reducible exact Nat.le_refl _) | omega | (simp; omega) | (simp; done)))
  obtain ⟨x, bb, off, hx, _, _, hab, hbb, c0, c1, c2⟩ := (HS.out.below HB1).get htn
  subst hab
  have hxe : x = ⟨rm, sd, sa, sn, sc, sz⟩ := Option.some.inj (hx.symm.trans HX.out)
  subst hxe
  simp only [] at c0
  have N0 : CellAt w1 bb (off + t * 3) (.int .i64 rm) := c0
  have i1 : (0 : Int) ≤ (t : Int) := by omega
  have i2 : (t : Int) < (n : Int) := by omega
  clear c0 c1 c2 hx hbb
  go_upto_region 4 with fail
  have hW : IntKind.i64.wrap (M - rm) = M - rm := IntWalk.i64_in _ (by omega)
  by_cases hmx : 0 < M - rm
  · have hr : R = M - rm := by rw [← HRR.out]; unfold mxI; rw [if_pos hmx]
    subst hr
    refine AnyJ.beginP (fun w' : World => w'.cell? ⟨w.heap.size, 0, none⟩ = some (.int .i64 (t : Int)) ∧ w'.cell? ⟨w.heap.size, 1, none⟩ = some (.int .i64 wd) ∧ w'.cell? ⟨w.heap.size, 2, none⟩ = some (.slice ac nc cc) ∧ w'.cell? ⟨w.heap.size, 3, none⟩ = some (.slice as' ns cs) ∧ w'.cell? ⟨bb, off + t * 3, none⟩ = some (.int .i64 rm)) (fun _ => true) (by kernel_rfl) ?_ (fun hS1 => ?_)
    · exact (show ∀ (P S : World → Prop) (W : World), P W → (∀ w', P w' → S w') → S W from fun P S W h f => f W h) (fun w' : World => Row w' (w.heap.size) [.int .i64 (t : Int), .int .i64 wd, .slice ac nc cc, .slice as' ns cs] ∧ w'.cell? ⟨bb, off + t * 3, none⟩ = some (.int .i64 rm)) (fun w' : World => w'.cell? ⟨w.heap.size, 0, none⟩ = some (.int .i64 (t : Int)) ∧ w'.cell? ⟨w.heap.size, 1, none⟩ = some (.int .i64 wd) ∧ w'.cell? ⟨w.heap.size, 2, none⟩ = some (.slice ac nc cc) ∧ w'.cell? ⟨w.heap.size, 3, none⟩ = some (.slice as' ns cs) ∧ w'.cell? ⟨bb, off + t * 3, none⟩ = some (.int .i64 rm)) _ (⟨by (repeat' (first | (with_reducible assumption) | (with_reducible refine Row.new' _ _ _ (by first | rfl | (simp; done) | omega)) | (with_reducible refine Row.alloc ?_ _) | (with_reducible refine Row.drew ?_) | (with_reducible refine Row.drewN ?_ _) | (with_reducible refine Row.step ?_ (by with_reducible assumption)) | (with_reducible refine Row.set2' ?_ _ _; first | exact ⟨_, _, by with_reducible assumption⟩ | exact ⟨_, _, Row.alloc (by with_reducible assumption) _⟩ | exact ⟨_, _, Row.alloc (Row.alloc (by with_reducible assumption) _) _⟩) | (with_reducible refine Row.other ?_ (by first | omega | (simp; done) | (simp; omega)) _))), CellAt.out (by (repeat' (first | (with_reducible assumption) | (with_reducible refine CellAt.drew ?_) | (with_reducible refine CellAt.drewN ?_ _) | (with_reducible refine CellAt.alloc ?_ _) | (with_reducible refine CellAt.step ?_ (by with_reducible assumption)))))⟩) (fun w' ⟨hP0, hF0⟩ => ⟨hP0.cell 0 rfl, hP0.cell 1 rfl, hP0.cell 2 rfl, hP0.cell 3 rfl, hF0⟩)
    refine AnyJ.takeD (i := 0) (d := some 12) (v := ?_) rfl (by kernel_rfl) (by kernel_rfl) (by kernel_rfl) (by kernel_rfl) (by kernel_rfl) (fun _ _ _ h => h) (Or.inl ⟨by kernel_rfl, ?_⟩) hS1 ?_
    rotate_left
    · intro w' hS
      clear hS
      go_simp
      try with_reducible rfl
    refine AnyJ.takeD (i := 1) (d := some 13) (v := ?_) rfl (by kernel_rfl) (by kernel_rfl) (by kernel_rfl) (by kernel_rfl) (by kernel_rfl) (fun _ _ _ h => h) (Or.inl ⟨by kernel_rfl, ?_⟩) hS1 ?_
    rotate_left
    · intro w' hS
      obtain ⟨sF0, sF1, sF2, sF3, sF4⟩ := hS
      go_simp
      try with_reducible rfl
    refine AnyJ.takeD (i := 3) (d := some 15) (v := ?_) rfl (by kernel_rfl) (by kernel_rfl) (by kernel_rfl) (by kernel_rfl) (by kernel_rfl) (fun _ _ _ h => h) (Or.inl ⟨by kernel_rfl, ?_⟩) hS1 ?_
    rotate_left
    · intro w' hS
      clear hS
      go_simp
      try with_reducible rfl
    refine AnyJ.takeD (i := 4) (d := some 16) (v := ?_) rfl (by kernel_rfl) (by kernel_rfl) (by kernel_rfl) (by kernel_rfl) (by kernel_rfl) (fun _ _ _ h => h) (Or.inl ⟨by kernel_rfl, ?_⟩) hS1 ?_
    rotate_left
    · intro w' hS
      clear hS
      go_simp
      try with_reducible rfl
    refine AnyJ.takeD (i := 5) (d := some 17) (v := ?_) rfl (by kernel_rfl) (by kernel_rfl) (by kernel_rfl) (by kernel_rfl) (by kernel_rfl) (fun _ _ _ h => h) (Or.inl ⟨by kernel_rfl, ?_⟩) hS1 ?_
    rotate_left
    · intro w' hS
      obtain ⟨sF0, sF1, sF2, sF3, sF4⟩ := hS
      go_simp
      try with_reducible rfl
    refine AnyJ.takeD (i := 6) (d := some 18) (v := ?_) rfl (by kernel_rfl) (by kernel_rfl) (by kernel_rfl) (by kernel_rfl) (by kernel_rfl) (fun _ _ _ h => h) (Or.inl ⟨by kernel_rfl, ?_⟩) hS1 ?_
    rotate_left
    · intro w' hS
      clear hS
      go_simp
      try with_reducible rfl
    refine AnyJ.takeD (i := 7) (d := some 19) (v := ?_) rfl (by kernel_rfl) (by kernel_rfl) (by kernel_rfl) (by kernel_rfl) (by kernel_rfl) (fun _ _ _ h => h) (Or.inl ⟨by kernel_rfl, ?_⟩) hS1 ?_
    rotate_left
    · intro w' hS
      clear hS
      go_simp
      try with_reducible rfl
    refine AnyJ.takeD (i := 8) (d := some 20) (v := ?_) rfl (by kernel_rfl) (by kernel_rfl) (by kernel_rfl) (by kernel_rfl) (by kernel_rfl) (fun _ _ _ h => h) (Or.inl ⟨by kernel_rfl, ?_⟩) hS1 ?_
    rotate_left
    · intro w' hS
      obtain ⟨sF0, sF1, sF2, sF3, sF4⟩ := hS
      go_simp
      try with_reducible rfl
    refine AnyJ.one (i := 2) (by kernel_rfl) rfl (fun Kz hKz => ?_)
    go_simp
    refine (R_sold25 _ n cap l t wd ac nc cc zs as' ns cs ys _ hn hns (HS.out.below (by (repeat' (first | (with_reducible exact Below.refl _ _) | (with_reducible assumption) | (with_reducible exact Bw.out (by with_reducible assumption)) | (with_reducible refine bw_alloc ?_ _) | (with_reducible refine bw_step ?_ (by with_reducible assumption)) | (with_reducible refine Below.alloc ?_ ?_ _) | (with_reducible refine Below.drew ?_) | (with_reducible refine below_drewN ?_ _) | (with_reducible refine Below.setCell ?_ ?_ _) | (with_reducible refine below_step ?_ (by with_reducible assumption) ?_) | (with_reducible exact Nat.le_refl _) | omega | (simp; omega) | (simp; done))))) (HY.out.below (by (repeat' (first | (with_reducible exact Below.refl _ _) | (with_reducible assumption) | (with_reducible exact Bw.out (by with_reducible assumption)) | (with_reducible refine bw_alloc ?_ _) | (with_reducible refine bw_step ?_ (by with_reducible assumption)) | (with_reducible refine Below.alloc ?_ ?_ _) | (with_reducible refine Below.drew ?_) | (with_reducible refine below_drewN ?_ _) | (with_reducible refine Below.setCell ?_ ?_ _) | (with_reducible refine below_step ?_ (by with_reducible assumption) ?_) | (with_reducible exact Nat.le_refl _) | omega | (simp; omega) | (simp; done))))) HO.out ⟨rm, sd, sa, sn, sc, sz⟩ HX.out M HMM.out).mono ?_
    rintro e w2 ⟨rfl, hb2⟩
    have R_s_2 : Row w2 (w.heap.size) [.int .i64 (t : Int), .int .i64 wd, .slice ac nc cc, .slice as' ns cs] := by (repeat' (first | (with_reducible assumption) | (with_reducible refine Row.new' _ _ _ (by first | rfl | (simp; done) | omega)) | (with_reducible refine Row.alloc ?_ _) | (with_reducible refine Row.drew ?_) | (with_reducible refine Row.drewN ?_ _) | (with_reducible refine Row.step ?_ (by with_reducible assumption)) | (with_reducible refine Row.set2' ?_ _ _; first | exact ⟨_, _, by with_reducible assumption⟩ | exact ⟨_, _, Row.alloc (by with_reducible assumption) _⟩ | exact ⟨_, _, Row.alloc (Row.alloc (by with_reducible assumption) _) _⟩) | (with_reducible refine Row.other ?_ (by first | omega | (simp; done) | (simp; omega)) _)))
    have c_s_0_2 := R_s_2.cell 0 rfl
    have c_s_1_2 := R_s_2.cell 1 rfl
    have c_s_2_2 := R_s_2.cell 2 rfl
    have c_s_3_2 := R_s_2.cell 3 rfl
    have l_s_2 := R_s_2.lt
    have HB2 : Below w.heap.size w w2 := by (repeat' (first | (with_reducible exact Below.refl _ _) | (with_reducible assumption) | (with_reducible exact Bw.out (by with_reducible assumption)) | (with_reducible refine bw_alloc ?_ _) | (with_reducible refine bw_step ?_ (by with_reducible assumption)) | (with_reducible refine Below.alloc ?_ ?_ _) | (with_reducible refine Below.drew ?_) | (with_reducible refine below_drewN ?_ _) | (with_reducible refine Below.setCell ?_ ?_ _) | (with_reducible refine below_step ?_ (by with_reducible assumption) ?_) | (with_reducible exact Nat.le_refl _) | omega | (simp; omega) | (simp; done)))
    obtain ⟨sF0, sF1, sF2, sF3, sF4⟩ := hS1
    have hS2 : (fun w' : World => w'.cell? ⟨w.heap.size, 0, none⟩ = some (.int .i64 (t : Int)) ∧ w'.cell? ⟨w.heap.size, 1, none⟩ = some (.int .i64 wd) ∧ w'.cell? ⟨w.heap.size, 2, none⟩ = some (.slice ac nc cc) ∧ w'.cell? ⟨w.heap.size, 3, none⟩ = some (.slice as' ns cs) ∧ w'.cell? ⟨bb, off + t * 3, none⟩ = some (.int .i64 rm)) w2 := ⟨c_s_0_2, c_s_1_2, c_s_2_2, c_s_3_2, (by first | exact (CellAt.step sF4 (by (repeat' (first | (with_reducible exact Below.refl _ _) | (with_reducible assumption) | (with_reducible exact Bw.out (by with_reducible assumption)) | (with_reducible refine bw_alloc ?_ _) | (with_reducible refine bw_step ?_ (by with_reducible assumption)) | (with_reducible refine Below.alloc ?_ ?_ _) | (with_reducible refine Below.drew ?_) | (with_reducible refine below_drewN ?_ _) | (with_reducible refine Below.setCell ?_ ?_ _) | (with_reducible refine below_step ?_ (by with_reducible assumption) ?_) | (with_reducible exact Nat.le_refl _) | omega | (simp; omega) | (simp; done))))).out | exact SlC.step sF4 (by (repeat' (first | (with_reducible exact Below.refl _ _) | (with_reducible assumption) | (with_reducible exact Bw.out (by with_reducible assumption)) | (with_reducible refine bw_alloc ?_ _) | (with_reducible refine bw_step ?_ (by with_reducible assumption)) | (with_reducible refine Below.alloc ?_ ?_ _) | (with_reducible refine Below.drew ?_) | (with_reducible refine below_drewN ?_ _) | (with_reducible refine Below.setCell ?_ ?_ _) | (with_reducible refine below_step ?_ (by with_reducible assumption) ?_) | (with_reducible exact Nat.le_refl _) | omega | (simp; omega) | (simp; done)))))⟩
    clear sF0 sF1 sF2 sF3 sF4
    refine hKz _ _ (fun _ => hS2) ?_
    clear hKz Kz
    clear R_s_1 c_s_0_1 c_s_1_1 c_s_2_1 c_s_3_1 hb1 HB1
    refine AnyJ.takeD (i := 9) (d := some 21) (v := ?_) rfl (by kernel_rfl) (by kernel_rfl) (by kernel_rfl) (by kernel_rfl) (by kernel_rfl) (fun _ _ _ h => h) (Or.inl ⟨by kernel_rfl, ?_⟩) hS2 ?_
    rotate_left
    · intro w' hS
      clear hS
      go_simp
      try with_reducible rfl
    refine AnyJ.takeD (i := 10) (d := some 22) (v := ?_) rfl (by kernel_rfl) (by kernel_rfl) (by kernel_rfl) (by kernel_rfl) (by kernel_rfl) (fun _ _ _ h => h) (Or.inl ⟨by kernel_rfl, ?_⟩) hS2 ?_
    rotate_left
    · intro w' hS
      clear hS
      go_simp
      try with_reducible rfl
    refine AnyJ.takeD (i := 11) (d := some 4) (v := ?_) rfl (by kernel_rfl) (by kernel_rfl) (by kernel_rfl) (by kernel_rfl) (by kernel_rfl) (fun _ _ _ h => h) (Or.inl ⟨by kernel_rfl, ?_⟩) hS2 ?_
    rotate_left
    · intro w' hS
      clear hS
      go_simp
      try with_reducible rfl
    refine AnyJ.takeD (i := 12) (d := some 5) (v := ?_) rfl (by kernel_rfl) (by kernel_rfl) (by kernel_rfl) (by kernel_rfl) (by kernel_rfl) (fun _ _ _ h => h) (Or.inl ⟨by kernel_rfl, ?_⟩) hS2 ?_
    rotate_left
    · intro w' hS
      clear hS
      go_simp
      try with_reducible rfl
    refine AnyJ.done (by kernel_rfl) ?_ _
    clear hS2
    simp only [Act.put, List.setIfInBounds_toArray, List.set_cons_zero, List.set_cons_succ]
    clear hW
    go_wp2_with fail
    go_ret2
    refine ⟨rfl, ?_⟩
    (repeat' (first | (with_reducible exact Below.refl _ _) | (with_reducible assumption) | (with_reducible exact Bw.out (by with_reducible assumption)) | (with_reducible refine bw_alloc ?_ _) | (with_reducible refine bw_step ?_ (by with_reducible assumption)) | (with_reducible refine Below.alloc ?_ ?_ _) | (with_reducible refine Below.drew ?_) | (with_reducible refine below_drewN ?_ _) | (with_reducible refine Below.setCell ?_ ?_ _) | (with_reducible refine below_step ?_ (by with_reducible assumption) ?_) | (with_reducible exact Nat.le_refl _) | omega | (simp; omega) | (simp; done)))
  · have hr : R = 0 := by rw [← HRR.out]; unfold mxI; rw [if_neg hmx]
    subst hr
    refine AnyJ.beginP (fun w' : World => w'.cell? ⟨w.heap.size, 0, none⟩ = some (.int .i64 (t : Int)) ∧ w'.cell? ⟨w.heap.size, 1, none⟩ = some (.int .i64 wd) ∧ w'.cell? ⟨w.heap.size, 2, none⟩ = some (.slice ac nc cc) ∧ w'.cell? ⟨w.heap.size, 3, none⟩ = some (.slice as' ns cs) ∧ w'.cell? ⟨bb, off + t * 3, none⟩ = some (.int .i64 rm)) (fun _ => true) (by kernel_rfl) ?_ (fun hS1 => ?_)
    · exact (show ∀ (P S : World → Prop) (W : World), P W → (∀ w', P w' → S w') → S W from fun P S W h f => f W h) (fun w' : World => Row w' (w.heap.size) [.int .i64 (t : Int), .int .i64 wd, .slice ac nc cc, .slice as' ns cs] ∧ w'.cell? ⟨bb, off + t * 3, none⟩ = some (.int .i64 rm)) (fun w' : World => w'.cell? ⟨w.heap.size, 0, none⟩ = some (.int .i64 (t : Int)) ∧ w'.cell? ⟨w.heap.size, 1, none⟩ = some (.int .i64 wd) ∧ w'.cell? ⟨w.heap.size, 2, none⟩ = some (.slice ac nc cc) ∧ w'.cell? ⟨w.heap.size, 3, none⟩ = some (.slice as' ns cs) ∧ w'.cell? ⟨bb, off + t * 3, none⟩ = some (.int .i64 rm)) _ (⟨by (repeat' (first | (with_reducible assumption) | (with_reducible refine Row.new' _ _ _ (by first | rfl | (simp; done) | omega)) | (with_reducible refine Row.alloc ?_ _) | (with_reducible refine Row.drew ?_) | (with_reducible refine Row.drewN ?_ _) | (with_reducible refine Row.step ?_ (by with_reducible assumption)) | (with_reducible refine Row.set2' ?_ _ _; first | exact ⟨_, _, by with_reducible assumption⟩ | exact ⟨_, _, Row.alloc (by with_reducible assumption) _⟩ | exact ⟨_, _, Row.alloc (Row.alloc (by with_reducible assumption) _) _⟩) | (with_reducible refine Row.other ?_ (by first | omega | (simp; done) | (simp; omega)) _))), CellAt.out (by (repeat' (first | (with_reducible assumption) | (with_reducible refine CellAt.drew ?_) | (with_reducible refine CellAt.drewN ?_ _) | (with_reducible refine CellAt.alloc ?_ _) | (with_reducible refine CellAt.step ?_ (by with_reducible assumption)))))⟩) (fun w' ⟨hP0, hF0⟩ => ⟨hP0.cell 0 rfl, hP0.cell 1 rfl, hP0.cell 2 rfl, hP0.cell 3 rfl, hF0⟩)
    refine AnyJ.takeD (i := 0) (d := some 12) (v := ?_) rfl (by kernel_rfl) (by kernel_rfl) (by kernel_rfl) (by kernel_rfl) (by kernel_rfl) (fun _ _ _ h => h) (Or.inl ⟨by kernel_rfl, ?_⟩) hS1 ?_
    rotate_left
    · intro w' hS
      clear hS
      go_simp
      try with_reducible rfl
    refine AnyJ.takeD (i := 1) (d := some 13) (v := ?_) rfl (by kernel_rfl) (by kernel_rfl) (by kernel_rfl) (by kernel_rfl) (by kernel_rfl) (fun _ _ _ h => h) (Or.inl ⟨by kernel_rfl, ?_⟩) hS1 ?_
    rotate_left
    · intro w' hS
      obtain ⟨sF0, sF1, sF2, sF3, sF4⟩ := hS
      go_simp
      try with_reducible rfl
    refine AnyJ.takeD (i := 3) (d := some 15) (v := ?_) rfl (by kernel_rfl) (by kernel_rfl) (by kernel_rfl) (by kernel_rfl) (by kernel_rfl) (fun _ _ _ h => h) (Or.inl ⟨by kernel_rfl, ?_⟩) hS1 ?_
    rotate_left
    · intro w' hS
      clear hS
      go_simp
      try with_reducible rfl
    refine AnyJ.takeD (i := 4) (d := some 16) (v := ?_) rfl (by kernel_rfl) (by kernel_rfl) (by kernel_rfl) (by kernel_rfl) (by kernel_rfl) (fun _ _ _ h => h) (Or.inl ⟨by kernel_rfl, ?_⟩) hS1 ?_
    rotate_left
    · intro w' hS
      clear hS
      go_simp
      try with_reducible rfl
    refine AnyJ.takeD (i := 5) (d := some 17) (v := ?_) rfl (by kernel_rfl) (by kernel_rfl) (by kernel_rfl) (by kernel_rfl) (by kernel_rfl) (fun _ _ _ h => h) (Or.inl ⟨by kernel_rfl, ?_⟩) hS1 ?_
    rotate_left
    · intro w' hS
      obtain ⟨sF0, sF1, sF2, sF3, sF4⟩ := hS
      go_simp
      try with_reducible rfl
    refine AnyJ.takeD (i := 6) (d := some 18) (v := ?_) rfl (by kernel_rfl) (by kernel_rfl) (by kernel_rfl) (by kernel_rfl) (by kernel_rfl) (fun _ _ _ h => h) (Or.inl ⟨by kernel_rfl, ?_⟩) hS1 ?_
    rotate_left
    · intro w' hS
      clear hS
      go_simp
      try with_reducible rfl
    refine AnyJ.takeD (i := 7) (d := some 19) (v := ?_) rfl (by kernel_rfl) (by kernel_rfl) (by kernel_rfl) (by kernel_rfl) (by kernel_rfl) (fun _ _ _ h => h) (Or.inl ⟨by kernel_rfl, ?_⟩) hS1 ?_
    rotate_left
    · intro w' hS
      clear hS
      go_simp
      try with_reducible rfl
    refine AnyJ.takeD (i := 8) (d := some 20) (v := ?_) rfl (by kernel_rfl) (by kernel_rfl) (by kernel_rfl) (by kernel_rfl) (by kernel_rfl) (fun _ _ _ h => h) (Or.inl ⟨by kernel_rfl, ?_⟩) hS1 ?_
    rotate_left
    · intro w' hS
      obtain ⟨sF0, sF1, sF2, sF3, sF4⟩ := hS
      go_simp
      try with_reducible rfl
    refine AnyJ.one (i := 2) (by kernel_rfl) rfl (fun Kz hKz => ?_)
    go_simp
    refine (R_sold25 _ n cap l t wd ac nc cc zs as' ns cs ys _ hn hns (HS.out.below (by (repeat' (first | (with_reducible exact Below.refl _ _) | (with_reducible assumption) | (with_reducible exact Bw.out (by with_reducible assumption)) | (with_reducible refine bw_alloc ?_ _) | (with_reducible refine bw_step ?_ (by with_reducible assumption)) | (with_reducible refine Below.alloc ?_ ?_ _) | (with_reducible refine Below.drew ?_) | (with_reducible refine below_drewN ?_ _) | (with_reducible refine Below.setCell ?_ ?_ _) | (with_reducible refine below_step ?_ (by with_reducible assumption) ?_) | (with_reducible exact Nat.le_refl _) | omega | (simp; omega) | (simp; done))))) (HY.out.below (by (repeat' (first | (with_reducible exact Below.refl _ _) | (with_reducible assumption) | (with_reducible exact Bw.out (by with_reducible assumption)) | (with_reducible refine bw_alloc ?_ _) | (with_reducible refine bw_step ?_ (by with_reducible assumption)) | (with_reducible refine Below.alloc ?_ ?_ _) | (with_reducible refine Below.drew ?_) | (with_reducible refine below_drewN ?_ _) | (with_reducible refine Below.setCell ?_ ?_ _) | (with_reducible refine below_step ?_ (by with_reducible assumption) ?_) | (with_reducible exact Nat.le_refl _) | omega | (simp; omega) | (simp; done))))) HO.out ⟨rm, sd, sa, sn, sc, sz⟩ HX.out M HMM.out).mono ?_
    rintro e w2 ⟨rfl, hb2⟩
    have R_s_2 : Row w2 (w.heap.size) [.int .i64 (t : Int), .int .i64 wd, .slice ac nc cc, .slice as' ns cs] := by (repeat' (first | (with_reducible assumption) | (with_reducible refine Row.new' _ _ _ (by first | rfl | (simp; done) | omega)) | (with_reducible refine Row.alloc ?_ _) | (with_reducible refine Row.drew ?_) | (with_reducible refine Row.drewN ?_ _) | (with_reducible refine Row.step ?_ (by with_reducible assumption)) | (with_reducible refine Row.set2' ?_ _ _; first | exact ⟨_, _, by with_reducible assumption⟩ | exact ⟨_, _, Row.alloc (by with_reducible assumption) _⟩ | exact ⟨_, _, Row.alloc (Row.alloc (by with_reducible assumption) _) _⟩) | (with_reducible refine Row.other ?_ (by first | omega | (simp; done) | (simp; omega)) _)))
    have c_s_0_2 := R_s_2.cell 0 rfl
    have c_s_1_2 := R_s_2.cell 1 rfl
    have c_s_2_2 := R_s_2.cell 2 rfl
    have c_s_3_2 := R_s_2.cell 3 rfl
    have l_s_2 := R_s_2.lt
    have HB2 : Below w.heap.size w w2 := by (repeat' (first | (with_reducible exact Below.refl _ _) | (with_reducible assumption) | (with_reducible exact Bw.out (by with_reducible assumption)) | (with_reducible refine bw_alloc ?_ _) | (with_reducible refine bw_step ?_ (by with_reducible assumption)) | (with_reducible refine Below.alloc ?_ ?_ _) | (with_reducible refine Below.drew ?_) | (with_reducible refine below_drewN ?_ _) | (with_reducible refine Below.setCell ?_ ?_ _) | (with_reducible refine below_step ?_ (by with_reducible assumption) ?_) | (with_reducible exact Nat.le_refl _) | omega | (simp; omega) | (simp; done)))
    obtain ⟨sF0, sF1, sF2, sF3, sF4⟩ := hS1
    have hS2 : (fun w' : World => w'.cell? ⟨w.heap.size, 0, none⟩ = some (.int .i64 (t : Int)) ∧ w'.cell? ⟨w.heap.size, 1, none⟩ = some (.int .i64 wd) ∧ w'.cell? ⟨w.heap.size, 2, none⟩ = some (.slice ac nc cc) ∧ w'.cell? ⟨w.heap.size, 3, none⟩ = some (.slice as' ns cs) ∧ w'.cell? ⟨bb, off + t * 3, none⟩ = some (.int .i64 rm)) w2 := ⟨c_s_0_2, c_s_1_2, c_s_2_2, c_s_3_2, (by first | exact (CellAt.step sF4 (by (repeat' (first | (with_reducible exact Below.refl _ _) | (with_reducible assumption) | (with_reducible exact Bw.out (by with_reducible assumption)) | (with_reducible refine bw_alloc ?_ _) | (with_reducible refine bw_step ?_ (by with_reducible assumption)) | (with_reducible refine Below.alloc ?_ ?_ _) | (with_reducible refine Below.drew ?_) | (with_reducible refine below_drewN ?_ _) | (with_reducible refine Below.setCell ?_ ?_ _) | (with_reducible refine below_step ?_ (by with_reducible assumption) ?_) | (with_reducible exact Nat.le_refl _) | omega | (simp; omega) | (simp; done))))).out | exact SlC.step sF4 (by (repeat' (first | (with_reducible exact Below.refl _ _) | (with_reducible assumption) | (with_reducible exact Bw.out (by with_reducible assumption)) | (with_reducible refine bw_alloc ?_ _) | (with_reducible refine bw_step ?_ (by with_reducible assumption)) | (with_reducible refine Below.alloc ?_ ?_ _) | (with_reducible refine Below.drew ?_) | (with_reducible refine below_drewN ?_ _) | (with_reducible refine Below.setCell ?_ ?_ _) | (with_reducible refine below_step ?_ (by with_reducible assumption) ?_) | (with_reducible exact Nat.le_refl _) | omega | (simp; omega) | (simp; done)))))⟩
    clear sF0 sF1 sF2 sF3 sF4
    refine hKz _ _ (fun _ => hS2) ?_
    clear hKz Kz
    clear R_s_1 c_s_0_1 c_s_1_1 c_s_2_1 c_s_3_1 hb1 HB1
    refine AnyJ.takeD (i := 9) (d := some 21) (v := ?_) rfl (by kernel_rfl) (by kernel_rfl) (by kernel_rfl) (by kernel_rfl) (by kernel_rfl) (fun _ _ _ h => h) (Or.inl ⟨by kernel_rfl, ?_⟩) hS2 ?_
    rotate_left
    · intro w' hS
      clear hS
      go_simp
      try with_reducible rfl
    refine AnyJ.takeD (i := 10) (d := some 22) (v := ?_) rfl (by kernel_rfl) (by kernel_rfl) (by kernel_rfl) (by kernel_rfl) (by kernel_rfl) (fun _ _ _ h => h) (Or.inl ⟨by kernel_rfl, ?_⟩) hS2 ?_
    rotate_left
    · intro w' hS
      clear hS
      go_simp
      try with_reducible rfl
    refine AnyJ.takeD (i := 11) (d := some 4) (v := ?_) rfl (by kernel_rfl) (by kernel_rfl) (by kernel_rfl) (by kernel_rfl) (by kernel_rfl) (fun _ _ _ h => h) (Or.inl ⟨by kernel_rfl, ?_⟩) hS2 ?_
    rotate_left
    · intro w' hS
      clear hS
      go_simp
      try with_reducible rfl
    refine AnyJ.takeD (i := 12) (d := some 5) (v := ?_) rfl (by kernel_rfl) (by kernel_rfl) (by kernel_rfl) (by kernel_rfl) (by kernel_rfl) (fun _ _ _ h => h) (Or.inl ⟨by kernel_rfl, ?_⟩) hS2 ?_
    rotate_left
    · intro w' hS
      clear hS
      go_simp
      try with_reducible rfl
    refine AnyJ.done (by kernel_rfl) ?_ _
    clear hS2
    simp only [Act.put, List.setIfInBounds_toArray, List.set_cons_zero, List.set_cons_succ]
    clear hW
    go_wp2_with fail
    go_ret2
    refine ⟨rfl, ?_⟩
    (repeat' (first | (with_reducible exact Below.refl _ _) | (with_reducible assumption) | (with_reducible exact Bw.out (by with_reducible assumption)) | (with_reducible refine bw_alloc ?_ _) | (with_reducible refine bw_step ?_ (by with_reducible assumption)) | (with_reducible refine Below.alloc ?_ ?_ _) | (with_reducible refine Below.drew ?_) | (with_reducible refine below_drewN ?_ _) | (with_reducible refine Below.setCell ?_ ?_ _) | (with_reducible refine below_step ?_ (by with_reducible assumption) ?_) | (with_reducible exact Nat.le_refl _) | omega | (simp; omega) | (simp; done)))

end Go.Proofs.Ytdijdfhlmnhcjaa
