/-
  Package scene, sixth part: Valid, Run.
-/
import Derived.Test.YtdijdfhlmnhcjaaScnE
namespace Go.Proofs.Ytdijdfhlmnhcjaa
set_option linter.unusedSimpArgs false
set_option linter.unusedVariables false
open Go.RowKit Go.MapKept

/-- open in short words. -/
theorem open_no (a : Option Addr) (n cap : Nat) (l : List NightV) (nt wd : Int) (ac : Option Addr) (nc cc : Nat) (zs : List Int) (as' : Option Addr) (ns cs : Nat) (ys : List Int) (w : World)
    (hn : n ≤ 9223372036854775807) (hnc : nc ≤ 9223372036854775807) (hns : ns ≤ 9223372036854775807) (hs : SlN w a n l) (hz : SlI w ac nc zs) (hy : SlI w as' ns ys) (hb : openB l nt wd zs ys = false) :
    Calls Try.prog 27 #[.slice a n cap, .agg #[.int .i64 nt, .int .i64 wd, .slice ac nc cc, .slice as' ns cs]] w
      fun e w' => e = .returned (.tuple #[.agg #[.int .i64 0, .int .i64 0, .slice none 0 0, .slice none 0 0, .int .i64 0, .int .i64 0, .slice none 0 0], .bool false]) ∧ Below w.heap.size w w' := by
  refine (open_any a n cap l nt wd ac nc cc zs as' ns cs ys w hn hnc hns hs hz hy false hb).mono ?_
  rintro e w' ⟨pv, rfl, h1, _, hB⟩
  rw [h1 rfl]
  exact ⟨rfl, hB⟩
theorem open_ok (a : Option Addr) (n cap : Nat) (l : List NightV) (nt wd : Int) (ac : Option Addr) (nc cc : Nat) (zs : List Int) (as' : Option Addr) (ns cs : Nat) (ys : List Int) (w : World)
    (hn : n ≤ 9223372036854775807) (hnc : nc ≤ 9223372036854775807) (hns : ns ≤ 9223372036854775807) (hs : SlN w a n l) (hz : SlI w ac nc zs) (hy : SlI w as' ns ys) (hb : openB l nt wd zs ys = true)
    (rm sd : Int) (sa : Option Addr) (sn sc : Nat) (sz : List Int) (hx : l[nt.toNat]? = some ⟨rm, sd, sa, sn, sc, sz⟩) :
    Calls Try.prog 27 #[.slice a n cap, .agg #[.int .i64 nt, .int .i64 wd, .slice ac nc cc, .slice as' ns cs]] w
      fun e w' => e = .returned (.tuple #[.agg #[.int .i64 nt, .int .i64 wd, .slice ac nc cc, .slice as' ns cs, .int .i64 rm, .int .i64 sd, .slice sa sn sc], .bool true]) ∧ Below w.heap.size w w' := by
  refine (open_any a n cap l nt wd ac nc cc zs as' ns cs ys w hn hnc hns hs hz hy true hb).mono ?_
  rintro e w' ⟨pv, rfl, _, h2, hB⟩
  rw [h2 rfl _ hx]
  exact ⟨rfl, hB⟩
theorem openB_night {l : List NightV} {nt wd : Int} {zs ys : List Int} (h : openB l nt wd zs ys = true) : ∃ x, l[nt.toNat]? = some x ∧ nightB x.rooms x.sold x.zs = true := by
  obtain ⟨h1, h2, _⟩ := openB_in h
  have hi : nt.toNat < l.length := by omega
  exact ⟨l[nt.toNat], List.getElem?_eq_getElem hi, (nightsB_in h1).2 _ (List.getElem_mem hi)⟩

set_option maxRecDepth 100000 in
set_option maxHeartbeats 3200000 in
theorem Valid_any (a : Option Addr) (n cap : Nat) (l : List NightV) (nt wd : Int) (ac : Option Addr) (nc cc : Nat) (zs : List Int) (as' : Option Addr) (ns cs : Nat) (ys : List Int) (w : World)
    (hn : n ≤ 9223372036854775807) (hnc : nc ≤ 9223372036854775807) (hns : ns ≤ 9223372036854775807) (hs : SlN w a n l) (hz : SlI w ac nc zs) (hy : SlI w as' ns ys) (b : Bool) (hb : openB l nt wd zs ys = b) :
    Calls Try.prog 13 #[.slice a n cap, .agg #[.int .i64 nt, .int .i64 wd, .slice ac nc cc, .slice as' ns cs]] w
      fun e w' => e = .returned (.bool b) ∧ Below w.heap.size w w' := by
  have HS := Lib.hid hs
  have HZ := Lib.hid hz
  have HY := Lib.hid hy
  have HB := Lib.hid hb
  clear hs hz hy hb
  cases b with
  | false =>
    go_enter Try.func13, Try.ntmps13
    go_wp2_with fail
    refine (open_no a n cap l nt wd ac nc cc zs as' ns cs ys _ hn hnc hns (HS.out.below (by (repeat' (first | (with_reducible exact Below.refl _ _) | (with_reducible assumption) | (with_reducible exact Bw.out (by with_reducible assumption)) | (with_reducible refine bw_alloc ?_ _) | (with_reducible refine bw_step ?_ (by with_reducible assumption)) | (with_reducible refine Below.alloc ?_ ?_ _) | (with_reducible refine Below.drew ?_) | (with_reducible refine below_drewN ?_ _) | (with_reducible refine Below.setCell ?_ ?_ _) | (with_reducible refine below_step ?_ (by with_reducible assumption) ?_) | (with_reducible exact Nat.le_refl _) | omega | (simp; omega) | (simp; done))))) (HZ.out.below (by (repeat' (first | (with_reducible exact Below.refl _ _) | (with_reducible assumption) | (with_reducible exact Bw.out (by with_reducible assumption)) | (with_reducible refine bw_alloc ?_ _) | (with_reducible refine bw_step ?_ (by with_reducible assumption)) | (with_reducible refine Below.alloc ?_ ?_ _) | (with_reducible refine Below.drew ?_) | (with_reducible refine below_drewN ?_ _) | (with_reducible refine Below.setCell ?_ ?_ _) | (with_reducible refine below_step ?_ (by with_reducible assumption) ?_) | (with_reducible exact Nat.le_refl _) | omega | (simp; omega) | (simp; done))))) (HY.out.below (by (repeat' (first | (with_reducible exact Below.refl _ _) | (with_reducible assumption) | (with_reducible exact Bw.out (by with_reducible assumption)) | (with_reducible refine bw_alloc ?_ _) | (with_reducible refine bw_step ?_ (by with_reducible assumption)) | (with_reducible refine Below.alloc ?_ ?_ _) | (with_reducible refine Below.drew ?_) | (with_reducible refine below_drewN ?_ _) | (with_reducible refine Below.setCell ?_ ?_ _) | (with_reducible refine below_step ?_ (by with_reducible assumption) ?_) | (with_reducible exact Nat.le_refl _) | omega | (simp; omega) | (simp; done))))) HB.out).mono ?_
    rintro e w1 ⟨rfl, hb1⟩
    have R_s_1 : Row w1 (w.heap.size) [.int .i64 nt, .int .i64 wd, .slice ac nc cc, .slice as' ns cs] := by (repeat' (first | (with_reducible assumption) | (with_reducible refine Row.new' _ _ _ (by first | rfl | (simp; done) | omega)) | (with_reducible refine Row.alloc ?_ _) | (with_reducible refine Row.drew ?_) | (with_reducible refine Row.drewN ?_ _) | (with_reducible refine Row.step ?_ (by with_reducible assumption)) | (with_reducible refine Row.set2' ?_ _ _; first | exact ⟨_, _, by with_reducible assumption⟩ | exact ⟨_, _, Row.alloc (by with_reducible assumption) _⟩ | exact ⟨_, _, Row.alloc (Row.alloc (by with_reducible assumption) _) _⟩) | (with_reducible refine Row.other ?_ (by first | omega | (simp; done) | (simp; omega)) _)))
    have c_s_0_1 := R_s_1.cell 0 rfl
    have c_s_1_1 := R_s_1.cell 1 rfl
    have c_s_2_1 := R_s_1.cell 2 rfl
    have c_s_3_1 := R_s_1.cell 3 rfl
    have l_s_1 := R_s_1.lt
    have HB1 : Below w.heap.size w w1 := by (repeat' (first | (with_reducible exact Below.refl _ _) | (with_reducible assumption) | (with_reducible exact Bw.out (by with_reducible assumption)) | (with_reducible refine bw_alloc ?_ _) | (with_reducible refine bw_step ?_ (by with_reducible assumption)) | (with_reducible refine Below.alloc ?_ ?_ _) | (with_reducible refine Below.drew ?_) | (with_reducible refine below_drewN ?_ _) | (with_reducible refine Below.setCell ?_ ?_ _) | (with_reducible refine below_step ?_ (by with_reducible assumption) ?_) | (with_reducible exact Nat.le_refl _) | omega | (simp; omega) | (simp; done)))
    go_wp2_with fail
    go_ret
    refine ⟨(by first | rfl | exact ret_bool (by first | rfl | (simp; done) | (simp; omega))), ?_⟩
    (repeat' (first | (with_reducible exact Below.refl _ _) | (with_reducible assumption) | (with_reducible exact Bw.out (by with_reducible assumption)) | (with_reducible refine bw_alloc ?_ _) | (with_reducible refine bw_step ?_ (by with_reducible assumption)) | (with_reducible refine Below.alloc ?_ ?_ _) | (with_reducible refine Below.drew ?_) | (with_reducible refine below_drewN ?_ _) | (with_reducible refine Below.setCell ?_ ?_ _) | (with_reducible refine below_step ?_ (by with_reducible assumption) ?_) | (with_reducible exact Nat.le_refl _) | omega | (simp; omega) | (simp; done)))
  | true =>
    obtain ⟨x, hx, _⟩ := openB_night HB.out
    obtain ⟨rm, sd, sa, sn, sc, sz⟩ := x
    have HX := Lib.hid hx
    clear hx
    go_enter Try.func13, Try.ntmps13
    go_wp2_with fail
    refine (open_ok a n cap l nt wd ac nc cc zs as' ns cs ys _ hn hnc hns (HS.out.below (by (repeat' (first | (with_reducible exact Below.refl _ _) | (with_reducible assumption) | (with_reducible exact Bw.out (by with_reducible assumption)) | (with_reducible refine bw_alloc ?_ _) | (with_reducible refine bw_step ?_ (by with_reducible assumption)) | (with_reducible refine Below.alloc ?_ ?_ _) | (with_reducible refine Below.drew ?_) | (with_reducible refine below_drewN ?_ _) | (with_reducible refine Below.setCell ?_ ?_ _) | (with_reducible refine below_step ?_ (by with_reducible assumption) ?_) | (with_reducible exact Nat.le_refl _) | omega | (simp; omega) | (simp; done))))) (HZ.out.below (by (repeat' (first | (with_reducible exact Below.refl _ _) | (with_reducible assumption) | (with_reducible exact Bw.out (by with_reducible assumption)) | (with_reducible refine bw_alloc ?_ _) | (with_reducible refine bw_step ?_ (by with_reducible assumption)) | (with_reducible refine Below.alloc ?_ ?_ _) | (with_reducible refine Below.drew ?_) | (with_reducible refine below_drewN ?_ _) | (with_reducible refine Below.setCell ?_ ?_ _) | (with_reducible refine below_step ?_ (by with_reducible assumption) ?_) | (with_reducible exact Nat.le_refl _) | omega | (simp; omega) | (simp; done))))) (HY.out.below (by (repeat' (first | (with_reducible exact Below.refl _ _) | (with_reducible assumption) | (with_reducible exact Bw.out (by with_reducible assumption)) | (with_reducible refine bw_alloc ?_ _) | (with_reducible refine bw_step ?_ (by with_reducible assumption)) | (with_reducible refine Below.alloc ?_ ?_ _) | (with_reducible refine Below.drew ?_) | (with_reducible refine below_drewN ?_ _) | (with_reducible refine Below.setCell ?_ ?_ _) | (with_reducible refine below_step ?_ (by with_reducible assumption) ?_) | (with_reducible exact Nat.le_refl _) | omega | (simp; omega) | (simp; done))))) HB.out rm sd sa sn sc sz HX.out).mono ?_
    rintro e w1 ⟨rfl, hb1⟩
    have R_s_1 : Row w1 (w.heap.size) [.int .i64 nt, .int .i64 wd, .slice ac nc cc, .slice as' ns cs] := by (repeat' (first | (with_reducible assumption) | (with_reducible refine Row.new' _ _ _ (by first | rfl | (simp; done) | omega)) | (with_reducible refine Row.alloc ?_ _) | (with_reducible refine Row.drew ?_) | (with_reducible refine Row.drewN ?_ _) | (with_reducible refine Row.step ?_ (by with_reducible assumption)) | (with_reducible refine Row.set2' ?_ _ _; first | exact ⟨_, _, by with_reducible assumption⟩ | exact ⟨_, _, Row.alloc (by with_reducible assumption) _⟩ | exact ⟨_, _, Row.alloc (Row.alloc (by with_reducible assumption) _) _⟩) | (with_reducible refine Row.other ?_ (by first | omega | (simp; done) | (simp; omega)) _)))
    have c_s_0_1 := R_s_1.cell 0 rfl
    have c_s_1_1 := R_s_1.cell 1 rfl
    have c_s_2_1 := R_s_1.cell 2 rfl
    have c_s_3_1 := R_s_1.cell 3 rfl
    have l_s_1 := R_s_1.lt
    have HB1 : Below w.heap.size w w1 := by (repeat' (first | (with_reducible exact Below.refl _ _) | (with_reducible assumption) | (with_reducible exact Bw.out (by with_reducible assumption)) | (with_reducible refine bw_alloc ?_ _) | (with_reducible refine bw_step ?_ (by with_reducible assumption)) | (with_reducible refine Below.alloc ?_ ?_ _) | (with_reducible refine Below.drew ?_) | (with_reducible refine below_drewN ?_ _) | (with_reducible refine Below.setCell ?_ ?_ _) | (with_reducible refine below_step ?_ (by with_reducible assumption) ?_) | (with_reducible exact Nat.le_refl _) | omega | (simp; omega) | (simp; done)))
    go_wp2_with fail
    go_ret
    refine ⟨(by first | rfl | exact ret_bool (by first | rfl | (simp; done) | (simp; omega))), ?_⟩
    (repeat' (first | (with_reducible exact Below.refl _ _) | (with_reducible assumption) | (with_reducible exact Bw.out (by with_reducible assumption)) | (with_reducible refine bw_alloc ?_ _) | (with_reducible refine bw_step ?_ (by with_reducible assumption)) | (with_reducible refine Below.alloc ?_ ?_ _) | (with_reducible refine Below.drew ?_) | (with_reducible refine below_drewN ?_ _) | (with_reducible refine Below.setCell ?_ ?_ _) | (with_reducible refine below_step ?_ (by with_reducible assumption) ?_) | (with_reducible exact Nat.le_refl _) | omega | (simp; omega) | (simp; done)))

/-- What Run answers for a valid scene. -/
def runI (l : List NightV) (nt : Int) (ys : List Int) : Int := mxI (((l[nt.toNat]?.map NightV.sold).getD 0) - ((l[nt.toNat]?.map NightV.rooms).getD 0) + ys.sum)
theorem runI_at {l : List NightV} {nt : Int} {ys : List Int} {x : NightV} (h : l[nt.toNat]? = some x) : runI l nt ys = mxI (x.sold - x.rooms + ys.sum) := by
  unfold runI; rw [h]; rfl
theorem sh_bounds {r s : Int} {zs : List Int} (h : nightB r s zs = true) : zs.length ≤ 30 ∧ ∀ z ∈ zs, 0 ≤ z ∧ z ≤ 400 := by
  unfold nightB sharesB at h
  simp only [Bool.and_eq_true, decide_eq_true_eq, Bool.not_eq_true', List.any_eq_false] at h
  refine ⟨h.1.1.1, fun z hz => ?_⟩
  have := h.1.1.2 z hz
  simp [outB] at this
  omega
/-- The sums of what valid scenes sell are small. -/
theorem sells_bound {l : List NightV} {nt wd : Int} {zs ys : List Int} (h : openB l nt wd zs ys = true) : zs.length ≤ 30 ∧ ys.length = zs.length ∧ ∀ y ∈ ys, 0 ≤ y ∧ y ≤ 400 := by
  obtain ⟨x, hx, hn⟩ := openB_night h
  obtain ⟨_, _, h3, _, h5⟩ := openB_in h
  obtain ⟨b1, b2⟩ := sh_bounds hn
  rw [shAt_get hx] at h5
  have hnd : zs.Nodup := by
    rw [List.nodup_iff_pairwise_ne, List.pairwise_iff_getElem]
    intro i j hi hj hij e
    obtain ⟨c1, _⟩ := chanB_in (h5 j hj)
    apply c1
    have e2 : zs.getD j 0 = zs[i] := by simp [List.getD, hj, e]
    rw [e2]
    exact List.mem_take_iff_getElem.2 ⟨i, by omega, rfl⟩
  have hsub : zs ⊆ upto x.zs.length := fun z hz => by
    obtain ⟨i, hi, rfl⟩ := List.getElem_of_mem hz
    obtain ⟨_, c2, _⟩ := chanB_in (h5 i hi)
    have e2 : zs.getD i 0 = zs[i] := by simp [List.getD, hi]
    rw [e2] at c2
    exact mem_upto.2 (by omega)
  have hle := List.Nodup.length_le_of_subset hnd hsub
  rw [upto_length] at hle
  refine ⟨by omega, h3, fun y hy => ?_⟩
  obtain ⟨i, hi, rfl⟩ := List.getElem_of_mem hy
  obtain ⟨_, c2, c3⟩ := chanB_in (h5 i (by omega))
  have e2 : ys.getD i 0 = ys[i] := by simp [List.getD, hi]
  rw [e2] at c3
  have hc : (zs.getD i 0).toNat < x.zs.length := by omega
  have e3 : x.zs.getD (zs.getD i 0).toNat 0 = x.zs[(zs.getD i 0).toNat] := by rw [List.getD_eq_getElem?_getD, List.getElem?_eq_getElem hc]; rfl
  have := b2 _ (List.getElem_mem hc)
  rw [e3] at c3
  omega
theorem sum_take {ys : List Int} {k : Nat} (hk : k < ys.length) : (ys.take (k + 1)).sum = (ys.take k).sum + ys.getD k 0 := by
  rw [take_snoc_int hk, List.sum_append]
  simp
theorem sum_bound {ys : List Int} (h : ∀ y ∈ ys, 0 ≤ y ∧ y ≤ 400) : 0 ≤ ys.sum ∧ ys.sum ≤ 400 * ys.length := by
  induction ys with
  | nil => simp
  | cons y r ih =>
    have h1 := h y (by simp)
    have h2 := ih (fun z hz => h z (by simp [hz]))
    rw [List.sum_cons, List.length_cons]
    omega

set_option maxRecDepth 100000 in
set_option maxHeartbeats 3200000 in
theorem Run_no (a : Option Addr) (n cap : Nat) (l : List NightV) (nt wd : Int) (ac : Option Addr) (nc cc : Nat) (zs : List Int) (as' : Option Addr) (ns cs : Nat) (ys : List Int) (w : World)
    (hn : n ≤ 9223372036854775807) (hnc : nc ≤ 9223372036854775807) (hns : ns ≤ 9223372036854775807) (hs : SlN w a n l) (hz : SlI w ac nc zs) (hy : SlI w as' ns ys) (hb : openB l nt wd zs ys = false) :
    Calls Try.prog 11 #[.slice a n cap, .agg #[.int .i64 nt, .int .i64 wd, .slice ac nc cc, .slice as' ns cs]] w
      fun e w' => e = .returned (.tuple #[.int .i64 0, .int .i64 1]) ∧ Below w.heap.size w w' := by
  have HS := Lib.hid hs
  have HZ := Lib.hid hz
  have HY := Lib.hid hy
  have HB := Lib.hid hb
  clear hs hz hy hb
  go_enter Try.func11, Try.ntmps11
  go_wp2_with fail
  refine (open_no a n cap l nt wd ac nc cc zs as' ns cs ys _ hn hnc hns (HS.out.below (by (repeat' (first | (with_reducible exact Below.refl _ _) | (with_reducible assumption) | (with_reducible exact Bw.out (by with_reducible assumption)) | (with_reducible refine bw_alloc ?_ _) | (with_reducible refine bw_step ?_ (by with_reducible assumption)) | (with_reducible refine Below.alloc ?_ ?_ _) | (with_reducible refine Below.drew ?_) | (with_reducible refine below_drewN ?_ _) | (with_reducible refine Below.setCell ?_ ?_ _) | (with_reducible refine below_step ?_ (by with_reducible assumption) ?_) | (with_reducible exact Nat.le_refl _) | omega | (simp; omega) | (simp; done))))) (HZ.out.below (by (repeat' (first | (with_reducible exact Below.refl _ _) | (with_reducible assumption) | (with_reducible exact Bw.out (by with_reducible assumption)) | (with_reducible refine bw_alloc ?_ _) | (with_reducible refine bw_step ?_ (by with_reducible assumption)) | (with_reducible refine Below.alloc ?_ ?_ _) | (with_reducible refine Below.drew ?_) | (with_reducible refine below_drewN ?_ _) | (with_reducible refine Below.setCell ?_ ?_ _) | (with_reducible refine below_step ?_ (by with_reducible assumption) ?_) | (with_reducible exact Nat.le_refl _) | omega | (simp; omega) | (simp; done))))) (HY.out.below (by (repeat' (first | (with_reducible exact Below.refl _ _) | (with_reducible assumption) | (with_reducible exact Bw.out (by with_reducible assumption)) | (with_reducible refine bw_alloc ?_ _) | (with_reducible refine bw_step ?_ (by with_reducible assumption)) | (with_reducible refine Below.alloc ?_ ?_ _) | (with_reducible refine Below.drew ?_) | (with_reducible refine below_drewN ?_ _) | (with_reducible refine Below.setCell ?_ ?_ _) | (with_reducible refine below_step ?_ (by with_reducible assumption) ?_) | (with_reducible exact Nat.le_refl _) | omega | (simp; omega) | (simp; done))))) HB.out).mono ?_
  rintro e w1 ⟨rfl, hb1⟩
  have R_s_1 : Row w1 (w.heap.size) [.int .i64 nt, .int .i64 wd, .slice ac nc cc, .slice as' ns cs] := by (repeat' (first | (with_reducible assumption) | (with_reducible refine Row.new' _ _ _ (by first | rfl | (simp; done) | omega)) | (with_reducible refine Row.alloc ?_ _) | (with_reducible refine Row.drew ?_) | (with_reducible refine Row.drewN ?_ _) | (with_reducible refine Row.step ?_ (by with_reducible assumption)) | (with_reducible refine Row.set2' ?_ _ _; first | exact ⟨_, _, by with_reducible assumption⟩ | exact ⟨_, _, Row.alloc (by with_reducible assumption) _⟩ | exact ⟨_, _, Row.alloc (Row.alloc (by with_reducible assumption) _) _⟩) | (with_reducible refine Row.other ?_ (by first | omega | (simp; done) | (simp; omega)) _)))
  have c_s_0_1 := R_s_1.cell 0 rfl
  have c_s_1_1 := R_s_1.cell 1 rfl
  have c_s_2_1 := R_s_1.cell 2 rfl
  have c_s_3_1 := R_s_1.cell 3 rfl
  have l_s_1 := R_s_1.lt
  have HB1 : Below w.heap.size w w1 := by (repeat' (first | (with_reducible exact Below.refl _ _) | (with_reducible assumption) | (with_reducible exact Bw.out (by with_reducible assumption)) | (with_reducible refine bw_alloc ?_ _) | (with_reducible refine bw_step ?_ (by with_reducible assumption)) | (with_reducible refine Below.alloc ?_ ?_ _) | (with_reducible refine Below.drew ?_) | (with_reducible refine below_drewN ?_ _) | (with_reducible refine Below.setCell ?_ ?_ _) | (with_reducible refine below_step ?_ (by with_reducible assumption) ?_) | (with_reducible exact Nat.le_refl _) | omega | (simp; omega) | (simp; done)))
  go_wp2_with fail
  refine bodyPost_ret (v := .tuple #[.int .i64 0, .int .i64 1]) (by simp [results, Try.results11, go_sem]) rfl ⟨rfl, ?_⟩
  (repeat' (first | (with_reducible exact Below.refl _ _) | (with_reducible assumption) | (with_reducible exact Bw.out (by with_reducible assumption)) | (with_reducible refine bw_alloc ?_ _) | (with_reducible refine bw_step ?_ (by with_reducible assumption)) | (with_reducible refine Below.alloc ?_ ?_ _) | (with_reducible refine Below.drew ?_) | (with_reducible refine below_drewN ?_ _) | (with_reducible refine Below.setCell ?_ ?_ _) | (with_reducible refine below_step ?_ (by with_reducible assumption) ?_) | (with_reducible exact Nat.le_refl _) | omega | (simp; omega) | (simp; done)))
set_option maxRecDepth 100000 in
set_option maxHeartbeats 3200000 in
theorem Run_ok (a : Option Addr) (n cap : Nat) (l : List NightV) (nt wd : Int) (ac : Option Addr) (nc cc : Nat) (zs : List Int) (as' : Option Addr) (ns cs : Nat) (ys : List Int) (w : World)
    (hn : n ≤ 9223372036854775807) (hnc : nc ≤ 9223372036854775807) (hns : ns ≤ 9223372036854775807) (hs : SlN w a n l) (hz : SlI w ac nc zs) (hy : SlI w as' ns ys) (hb : openB l nt wd zs ys = true) (R : Int) (hR : runI l nt ys = R) :
    Calls Try.prog 11 #[.slice a n cap, .agg #[.int .i64 nt, .int .i64 wd, .slice ac nc cc, .slice as' ns cs]] w
      fun e w' => e = .returned (.tuple #[.int .i64 R, .int .i64 0]) ∧ Below w.heap.size w w' := by
  have HS := Lib.hid hs
  have HZ := Lib.hid hz
  have HY := Lib.hid hy
  have HYL := Lib.hid hy.1
  have HB := Lib.hid hb
  obtain ⟨x, hx, hnb⟩ := openB_night hb
  obtain ⟨s1, s2, s3⟩ := sells_bound hb
  rw [runI_at hx] at hR
  obtain ⟨rm, sd, sa, sn, sc, sz⟩ := x
  obtain ⟨⟨r0, r1⟩, d0, d1⟩ := nightB_nums hnb
  simp only [] at r0 r1 d0 d1 hR
  have hns30 : ns ≤ 30 := by have := HYL.out; omega
  have HX := Lib.hid hx
  have HR := Lib.hid hR
  have HYB := Lib.hid s3
  clear hs hz hy hb hx hnb s1 s2 s3 hR
  go_enter Try.func11, Try.ntmps11
  go_wp2_with fail
  refine (open_ok a n cap l nt wd ac nc cc zs as' ns cs ys _ hn hnc hns (HS.out.below (by (repeat' (first | (with_reducible exact Below.refl _ _) | (with_reducible assumption) | (with_reducible exact Bw.out (by with_reducible assumption)) | (with_reducible refine bw_alloc ?_ _) | (with_reducible refine bw_step ?_ (by with_reducible assumption)) | (with_reducible refine Below.alloc ?_ ?_ _) | (with_reducible refine Below.drew ?_) | (with_reducible refine below_drewN ?_ _) | (with_reducible refine Below.setCell ?_ ?_ _) | (with_reducible refine below_step ?_ (by with_reducible assumption) ?_) | (with_reducible exact Nat.le_refl _) | omega | (simp; omega) | (simp; done))))) (HZ.out.below (by (repeat' (first | (with_reducible exact Below.refl _ _) | (with_reducible assumption) | (with_reducible exact Bw.out (by with_reducible assumption)) | (with_reducible refine bw_alloc ?_ _) | (with_reducible refine bw_step ?_ (by with_reducible assumption)) | (with_reducible refine Below.alloc ?_ ?_ _) | (with_reducible refine Below.drew ?_) | (with_reducible refine below_drewN ?_ _) | (with_reducible refine Below.setCell ?_ ?_ _) | (with_reducible refine below_step ?_ (by with_reducible assumption) ?_) | (with_reducible exact Nat.le_refl _) | omega | (simp; omega) | (simp; done))))) (HY.out.below (by (repeat' (first | (with_reducible exact Below.refl _ _) | (with_reducible assumption) | (with_reducible exact Bw.out (by with_reducible assumption)) | (with_reducible refine bw_alloc ?_ _) | (with_reducible refine bw_step ?_ (by with_reducible assumption)) | (with_reducible refine Below.alloc ?_ ?_ _) | (with_reducible refine Below.drew ?_) | (with_reducible refine below_drewN ?_ _) | (with_reducible refine Below.setCell ?_ ?_ _) | (with_reducible refine below_step ?_ (by with_reducible assumption) ?_) | (with_reducible exact Nat.le_refl _) | omega | (simp; omega) | (simp; done))))) HB.out rm sd sa sn sc sz HX.out).mono ?_
  rintro e w1 ⟨rfl, hb1⟩
  have R_s_1 : Row w1 (w.heap.size) [.int .i64 nt, .int .i64 wd, .slice ac nc cc, .slice as' ns cs] := by (repeat' (first | (with_reducible assumption) | (with_reducible refine Row.new' _ _ _ (by first | rfl | (simp; done) | omega)) | (with_reducible refine Row.alloc ?_ _) | (with_reducible refine Row.drew ?_) | (with_reducible refine Row.drewN ?_ _) | (with_reducible refine Row.step ?_ (by with_reducible assumption)) | (with_reducible refine Row.set2' ?_ _ _; first | exact ⟨_, _, by with_reducible assumption⟩ | exact ⟨_, _, Row.alloc (by with_reducible assumption) _⟩ | exact ⟨_, _, Row.alloc (Row.alloc (by with_reducible assumption) _) _⟩) | (with_reducible refine Row.other ?_ (by first | omega | (simp; done) | (simp; omega)) _)))
  have c_s_0_1 := R_s_1.cell 0 rfl
  have c_s_1_1 := R_s_1.cell 1 rfl
  have c_s_2_1 := R_s_1.cell 2 rfl
  have c_s_3_1 := R_s_1.cell 3 rfl
  have l_s_1 := R_s_1.lt
  have HB1 : Below w.heap.size w w1 := by (repeat' (first | (with_reducible exact Below.refl _ _) | (with_reducible assumption) | (with_reducible exact Bw.out (by with_reducible assumption)) | (with_reducible refine bw_alloc ?_ _) | (with_reducible refine bw_step ?_ (by with_reducible assumption)) | (with_reducible refine Below.alloc ?_ ?_ _) | (with_reducible refine Below.drew ?_) | (with_reducible refine below_drewN ?_ _) | (with_reducible refine Below.setCell ?_ ?_ _) | (with_reducible refine below_step ?_ (by with_reducible assumption) ?_) | (with_reducible exact Nat.le_refl _) | omega | (simp; omega) | (simp; done)))
  have HB1' := Lib.hid HB1
  go_wp2_with fail
  go_loopw [8, 30] (fun vn vi wr => ∃ (k : Nat) (N : Int), k ≤ ns ∧ vi = .int .i64 k ∧ vn = .int .i64 N ∧ -400 ≤ N ∧ N ≤ 1000 + 400 * (k : Int) ∧ Hid (sd - rm + (ys.take k).sum = N) ∧ Hid (Below w.heap.size w wr)) (fun _ vi _ => ns - (intOf vi).toNat)
  case atStart => exact ⟨0, sd - rm, Nat.zero_le _, rfl, by go_num, by omega, by omega, by show _ = _; simp, by have hB := HB1'.out; show Below _ _ _; (repeat' (first | (with_reducible exact Below.refl _ _) | (with_reducible assumption) | (with_reducible exact Bw.out (by with_reducible assumption)) | (with_reducible refine bw_alloc ?_ _) | (with_reducible refine bw_step ?_ (by with_reducible assumption)) | (with_reducible refine Below.alloc ?_ ?_ _) | (with_reducible refine Below.drew ?_) | (with_reducible refine below_drewN ?_ _) | (with_reducible refine Below.setCell ?_ ?_ _) | (with_reducible refine below_step ?_ (by with_reducible assumption) ?_) | (with_reducible exact Nat.le_refl _) | omega | (simp; omega) | (simp; done)))⟩
  case round =>
    obtain ⟨k, N, hk, rfl, rfl, n0, n1, hN, hB⟩ := hrel
    by_cases hlt : k < ns
    · obtain ⟨by', oy, y, rfl, _, qy, hyv, _, hmem⟩ := (HY.out.below hB.out).get hlt
      obtain ⟨y0, y1⟩ := HYB.out y hmem.out
      have k1 : (0 : Int) ≤ (k : Int) := by omega
      have k2 : (k : Int) < (ns : Int) := by omega
      have HN2 : Hid (sd - rm + (ys.take (k + 1)).sum = N + y) := by
        show _ = _
        rw [sum_take (by rw [HYL.out]; exact hlt), hyv.out, ← hN.out]; omega
      clear hyv hmem
      go_wp2_with fail
      go_roundw
      case rel => exact ⟨k + 1, N + y, by omega, by go_num, by go_num, by omega, by omega, HN2.out, hB.out⟩
      case measure => simp [intOf]; omega
    · obtain rfl : ns = k := by omega
      have hNR : mxI N = R := by
        rw [← HR.out, ← hN.out, List.take_of_length_le (by rw [HYL.out]; exact Nat.le_refl _)]
      by_cases hp : 0 < N
      · have hRN : R = N := by rw [← hNR]; unfold mxI; exact if_pos hp
        subst hRN
        clear hNR
        go_wp2_with fail
        exact bodyPost_ret (v := .tuple #[.int .i64 R, .int .i64 0]) (by simp [results, Try.results11, go_sem]) rfl ⟨rfl, hB.out⟩
      · have hRN : R = 0 := by rw [← hNR]; unfold mxI; exact if_neg hp
        subst hRN
        clear hNR
        go_wp2_with fail
        exact bodyPost_ret (v := .tuple #[.int .i64 0, .int .i64 0]) (by simp [results, Try.results11, go_sem]) rfl ⟨rfl, hB.out⟩

end Go.Proofs.Ytdijdfhlmnhcjaa
