/-
  The reference of scene, sixth part: Sales, SameSales.
-/
import Derived.Test.YtdijdfhlmnhcjaaScnR
namespace Go.Proofs.Ytdijdfhlmnhcjaa
set_option linter.unusedSimpArgs false
set_option linter.unusedVariables false
open Go.RowKit Go.MapKept Go.Shelf

attribute [local go_sem] Oper.semAt_some

/-- 'append' of one sale as a step of a drawn region. -/
theorem step_app_sale {ops : Array Oper} {o : Oper} {a : Act} {w : World} {K : Act → World → Prop} {Q : Exit → Act → World → Prop} {E : Prop}
    (hg : o.guard = none) (s x : Operand) (t : TypeId) (hop : o.op = Op.call { callee := Callee.builtin Builtin.append, args := #[s, x], argTypes := #[t, t] }) (ht : Try.prog.underlying t = some (.slice 44))
    (base : Nat) (v : Value) (l : List SaleV) (hs : a.eval s = v) (hown : OwnX w base v l) (g c : Nat) (y : SaleV) (hx : a.eval x = .slice (some ⟨g, 0, none⟩) 1 c)
    (hr : Row w g (saleCells y)) (hn : l.length ≤ 1000000000) (hbase : base ≤ w.heap.size)
    (hK : ∀ gg cap w', OwnX w' base (.slice (some ⟨gg, 0, none⟩) (l.length + 1) cap) (l ++ [y]) → w.grownBy w' v.ownBlock → (v.ownBlock = some gg ∨ gg = w.heap.size) → K (a.put o.dst (.slice (some ⟨gg, 0, none⟩) (l.length + 1) cap)) w') :
    if Region.wanted o (yielded ops a.tmps) = true then Oper.wp Try.prog o a w K Q else E := by
  obtain ⟨i0, hi, hz0, hz1, hz2⟩ := info_parts info_sale
  refine step_append_lies w hg s x t hop base 44 i0 (.agg #[.int .i64 0, .int .i64 0, .int .i64 0, .bool false, .int .i64 0, .int .i64 0, .int .i64 0, .int .i64 0]) 8 64 ht hi hz0 hz1 hz2 rfl (by decide) v l.length _ hs hown ⟨g, 0, none⟩ 1 c (salesCells [y]) hx rfl ?_ (fun u hu => salesCells_one hu) (by omega) ?_ ?_ hbase _ rfl ?_
  · intro j u hj
    have e : salesCells [y] = saleCells y := by simp [salesCells]
    rw [e] at hj
    have := hr.cell j hj
    rw [show (⟨g, 0, none⟩ : Addr).add j = ⟨g, j, none⟩ by simp [Addr.add]; try (intro h; exact h.symm)]
    exact this
  · unfold maxLen; omega
  · omega
  · intro gg cap w' h1 h2 h3 _
    exact hK gg cap w' (by unfold OwnX; rw [salesCells_append, List.length_append]; exact h1) h2 h3
theorem OwnX.lt' {w : World} {base : Nat} {v : Value} {l : List SaleV} (h : OwnX w base v l) (g : Nat) (e : v.ownBlock = some g) : base ≤ g := (h.own e).1

set_option maxRecDepth 100000 in
set_option maxHeartbeats 1600000 in
theorem R_Sales_no25 (a : Option Addr) (n cap : Nat) (l : List NightV) (nt wd : Int) (ac : Option Addr) (nc cc : Nat) (zs : List Int) (as' : Option Addr) (ns cs : Nat) (ys : List Int) (kd : Int) (w : World)
    (hn : n ≤ 9223372036854775807) (hnc : nc ≤ 9223372036854775807) (hns : ns ≤ 9223372036854775807) (hs : SlN w a n l) (hz : SlI w ac nc zs) (hy : SlI w as' ns ys) (hb : (openB l nt wd zs ys && inR kd 1 20) = false) :
    Calls Try.prog 16 #[.slice a n cap, .agg #[.int .i64 nt, .int .i64 wd, .slice ac nc cc, .slice as' ns cs], .int .i64 kd] w
      fun e w' => e = .returned (.tuple #[.slice none 0 0, .int .i64 1]) ∧ Below w.heap.size w w' := by
  have HS := Lib.hid hs
  have HZ := Lib.hid hz
  have HY := Lib.hid hy
  clear hs hz hy
  cases ho : openB l nt wd zs ys with
  | false =>
    have HB := Lib.hid ho
    clear hb ho
    go_enter Try.func16, Try.ntmps16
    go_wp2_with fail
    refine (R_Valid25 a n cap l nt wd ac nc cc zs as' ns cs ys _ hn hnc hns (HS.out.below (by (repeat' (first | (with_reducible exact Below.refl _ _) | (with_reducible assumption) | (with_reducible exact Bw.out (by with_reducible assumption)) | (with_reducible refine bw_alloc ?_ _) | (with_reducible refine bw_step ?_ (by with_reducible assumption)) | (with_reducible refine Below.alloc ?_ ?_ _) | (with_reducible refine Below.drew ?_) | (with_reducible refine below_drewN ?_ _) | (with_reducible refine Below.setCell ?_ ?_ _) | (with_reducible refine below_step ?_ (by with_reducible assumption) ?_) | (with_reducible exact Nat.le_refl _) | omega | (simp; omega) | (simp; done))))) (HZ.out.below (by (repeat' (first | (with_reducible exact Below.refl _ _) | (with_reducible assumption) | (with_reducible exact Bw.out (by with_reducible assumption)) | (with_reducible refine bw_alloc ?_ _) | (with_reducible refine bw_step ?_ (by with_reducible assumption)) | (with_reducible refine Below.alloc ?_ ?_ _) | (with_reducible refine Below.drew ?_) | (with_reducible refine below_drewN ?_ _) | (with_reducible refine Below.setCell ?_ ?_ _) | (with_reducible refine below_step ?_ (by with_reducible assumption) ?_) | (with_reducible exact Nat.le_refl _) | omega | (simp; omega) | (simp; done))))) (HY.out.below (by (repeat' (first | (with_reducible exact Below.refl _ _) | (with_reducible assumption) | (with_reducible exact Bw.out (by with_reducible assumption)) | (with_reducible refine bw_alloc ?_ _) | (with_reducible refine bw_step ?_ (by with_reducible assumption)) | (with_reducible refine Below.alloc ?_ ?_ _) | (with_reducible refine Below.drew ?_) | (with_reducible refine below_drewN ?_ _) | (with_reducible refine Below.setCell ?_ ?_ _) | (with_reducible refine below_step ?_ (by with_reducible assumption) ?_) | (with_reducible exact Nat.le_refl _) | omega | (simp; omega) | (simp; done))))) false HB.out).mono ?_
    rintro e w1 ⟨rfl, hb1⟩
    have R_s_1 : Row w1 (w.heap.size) [.int .i64 nt, .int .i64 wd, .slice ac nc cc, .slice as' ns cs] := by (repeat' (first | (with_reducible assumption) | (with_reducible refine Row.new' _ _ _ (by first | rfl | (simp; done) | omega)) | (with_reducible refine Row.alloc ?_ _) | (with_reducible refine Row.drew ?_) | (with_reducible refine Row.drewN ?_ _) | (with_reducible refine Row.step ?_ (by with_reducible assumption)) | (with_reducible refine Row.set2' ?_ _ _; first | exact ⟨_, _, by with_reducible assumption⟩ | exact ⟨_, _, Row.alloc (by with_reducible assumption) _⟩ | exact ⟨_, _, Row.alloc (Row.alloc (by with_reducible assumption) _) _⟩) | (with_reducible refine Row.other ?_ (by first | omega | (simp; done) | (simp; omega)) _)))
    have c_s_0_1 := R_s_1.cell 0 rfl
    have c_s_1_1 := R_s_1.cell 1 rfl
    have c_s_2_1 := R_s_1.cell 2 rfl
    have c_s_3_1 := R_s_1.cell 3 rfl
    have l_s_1 := R_s_1.lt
    have HB1 : Below w.heap.size w w1 := by (repeat' (first | (with_reducible exact Below.refl _ _) | (with_reducible assumption) | (with_reducible exact Bw.out (by with_reducible assumption)) | (with_reducible refine bw_alloc ?_ _) | (with_reducible refine bw_step ?_ (by with_reducible assumption)) | (with_reducible refine Below.alloc ?_ ?_ _) | (with_reducible refine Below.drew ?_) | (with_reducible refine below_drewN ?_ _) | (with_reducible refine Below.setCell ?_ ?_ _) | (with_reducible refine below_step ?_ (by with_reducible assumption) ?_) | (with_reducible exact Nat.le_refl _) | omega | (simp; omega) | (simp; done)))
    go_wp2_with fail
    go_ret2
    refine ⟨rfl, ?_⟩
    (repeat' (first | (with_reducible exact Below.refl _ _) | (with_reducible assumption) | (with_reducible exact Bw.out (by with_reducible assumption)) | (with_reducible refine bw_alloc ?_ _) | (with_reducible refine bw_step ?_ (by with_reducible assumption)) | (with_reducible refine Below.alloc ?_ ?_ _) | (with_reducible refine Below.drew ?_) | (with_reducible refine below_drewN ?_ _) | (with_reducible refine Below.setCell ?_ ?_ _) | (with_reducible refine below_step ?_ (by with_reducible assumption) ?_) | (with_reducible exact Nat.le_refl _) | omega | (simp; omega) | (simp; done)))
  | true =>
    have HB := Lib.hid ho
    have hk : inR kd 1 20 = false := by rw [ho] at hb; simpa using hb
    clear hb ho
    go_enter Try.func16, Try.ntmps16
    go_wp2_with fail
    refine (R_Valid25 a n cap l nt wd ac nc cc zs as' ns cs ys _ hn hnc hns (HS.out.below (by (repeat' (first | (with_reducible exact Below.refl _ _) | (with_reducible assumption) | (with_reducible exact Bw.out (by with_reducible assumption)) | (with_reducible refine bw_alloc ?_ _) | (with_reducible refine bw_step ?_ (by with_reducible assumption)) | (with_reducible refine Below.alloc ?_ ?_ _) | (with_reducible refine Below.drew ?_) | (with_reducible refine below_drewN ?_ _) | (with_reducible refine Below.setCell ?_ ?_ _) | (with_reducible refine below_step ?_ (by with_reducible assumption) ?_) | (with_reducible exact Nat.le_refl _) | omega | (simp; omega) | (simp; done))))) (HZ.out.below (by (repeat' (first | (with_reducible exact Below.refl _ _) | (with_reducible assumption) | (with_reducible exact Bw.out (by with_reducible assumption)) | (with_reducible refine bw_alloc ?_ _) | (with_reducible refine bw_step ?_ (by with_reducible assumption)) | (with_reducible refine Below.alloc ?_ ?_ _) | (with_reducible refine Below.drew ?_) | (with_reducible refine below_drewN ?_ _) | (with_reducible refine Below.setCell ?_ ?_ _) | (with_reducible refine below_step ?_ (by with_reducible assumption) ?_) | (with_reducible exact Nat.le_refl _) | omega | (simp; omega) | (simp; done))))) (HY.out.below (by (repeat' (first | (with_reducible exact Below.refl _ _) | (with_reducible assumption) | (with_reducible exact Bw.out (by with_reducible assumption)) | (with_reducible refine bw_alloc ?_ _) | (with_reducible refine bw_step ?_ (by with_reducible assumption)) | (with_reducible refine Below.alloc ?_ ?_ _) | (with_reducible refine Below.drew ?_) | (with_reducible refine below_drewN ?_ _) | (with_reducible refine Below.setCell ?_ ?_ _) | (with_reducible refine below_step ?_ (by with_reducible assumption) ?_) | (with_reducible exact Nat.le_refl _) | omega | (simp; omega) | (simp; done))))) true HB.out).mono ?_
    rintro e w1 ⟨rfl, hb1⟩
    have R_s_1 : Row w1 (w.heap.size) [.int .i64 nt, .int .i64 wd, .slice ac nc cc, .slice as' ns cs] := by (repeat' (first | (with_reducible assumption) | (with_reducible refine Row.new' _ _ _ (by first | rfl | (simp; done) | omega)) | (with_reducible refine Row.alloc ?_ _) | (with_reducible refine Row.drew ?_) | (with_reducible refine Row.drewN ?_ _) | (with_reducible refine Row.step ?_ (by with_reducible assumption)) | (with_reducible refine Row.set2' ?_ _ _; first | exact ⟨_, _, by with_reducible assumption⟩ | exact ⟨_, _, Row.alloc (by with_reducible assumption) _⟩ | exact ⟨_, _, Row.alloc (Row.alloc (by with_reducible assumption) _) _⟩) | (with_reducible refine Row.other ?_ (by first | omega | (simp; done) | (simp; omega)) _)))
    have c_s_0_1 := R_s_1.cell 0 rfl
    have c_s_1_1 := R_s_1.cell 1 rfl
    have c_s_2_1 := R_s_1.cell 2 rfl
    have c_s_3_1 := R_s_1.cell 3 rfl
    have l_s_1 := R_s_1.lt
    have HB1 : Below w.heap.size w w1 := by (repeat' (first | (with_reducible exact Below.refl _ _) | (with_reducible assumption) | (with_reducible exact Bw.out (by with_reducible assumption)) | (with_reducible refine bw_alloc ?_ _) | (with_reducible refine bw_step ?_ (by with_reducible assumption)) | (with_reducible refine Below.alloc ?_ ?_ _) | (with_reducible refine Below.drew ?_) | (with_reducible refine below_drewN ?_ _) | (with_reducible refine Below.setCell ?_ ?_ _) | (with_reducible refine below_step ?_ (by with_reducible assumption) ?_) | (with_reducible exact Nat.le_refl _) | omega | (simp; omega) | (simp; done)))
    go_wp2_with fail
    refine (R_in25 _ _ _ _ false hk).mono ?_
    rintro e w' ⟨rfl, rfl⟩
    go_wp2_with fail
    go_ret2
    refine ⟨rfl, ?_⟩
    (repeat' (first | (with_reducible exact Below.refl _ _) | (with_reducible assumption) | (with_reducible exact Bw.out (by with_reducible assumption)) | (with_reducible refine bw_alloc ?_ _) | (with_reducible refine bw_step ?_ (by with_reducible assumption)) | (with_reducible refine Below.alloc ?_ ?_ _) | (with_reducible refine Below.drew ?_) | (with_reducible refine below_drewN ?_ _) | (with_reducible refine Below.setCell ?_ ?_ _) | (with_reducible refine below_step ?_ (by with_reducible assumption) ?_) | (with_reducible exact Nat.le_refl _) | omega | (simp; omega) | (simp; done)))

set_option maxRecDepth 100000 in
set_option maxHeartbeats 12800000 in
theorem R_Sales_ok25 (a : Option Addr) (n cap : Nat) (l : List NightV) (nt wd : Int) (ac : Option Addr) (nc cc : Nat) (zs : List Int) (as' : Option Addr) (ns cs : Nat) (ys : List Int) (kd : Int) (w : World)
    (hn : n ≤ 9223372036854775807) (hnc : nc ≤ 9223372036854775807) (hns : ns ≤ 9223372036854775807) (hs : SlN w a n l) (hz : SlI w ac nc zs) (hy : SlI w as' ns ys) (hb : (openB l nt wd zs ys && inR kd 1 20) = true) (N : Nat) (hN : (salesX l nt kd zs ys).length = N) :
    Calls Try.prog 16 #[.slice a n cap, .agg #[.int .i64 nt, .int .i64 wd, .slice ac nc cc, .slice as' ns cs], .int .i64 kd] w
      fun e w' => ∃ ad cp, e = .returned (.tuple #[.slice ad N cp, .int .i64 0]) ∧ SlS w' ad N (salesX l nt kd zs ys) ∧ Below w.heap.size w w' := by
  rw [Bool.and_eq_true] at hb
  obtain ⟨ho, hk⟩ := hb
  have HS := Lib.hid hs
  have HZ := Lib.hid hz
  have HY := Lib.hid hy
  have HZL := Lib.hid hz.1
  have HYL := Lib.hid hy.1
  have HO := Lib.hid ho
  obtain ⟨x, hx, hnb⟩ := openB_night ho
  obtain ⟨s1, s2, s3⟩ := sells_bound ho
  obtain ⟨_, ⟨t0, t1⟩, _⟩ := openB_in ho
  obtain ⟨t, rfl⟩ := Int.eq_ofNat_of_zero_le t0
  have htn : t < n := by have := hs.1; omega
  have hl366 := (nightsB_in (openB_in ho).1).1
  have ht366 : t ≤ 366 := by omega
  rw [Int.toNat_natCast] at hx
  obtain ⟨rm, sd, sa, sn, sc, sz⟩ := x
  obtain ⟨_, d0, d1⟩ := nightB_nums hnb
  simp only [] at d0 d1
  obtain ⟨D, rfl⟩ := Int.eq_ofNat_of_zero_le d0
  have hnc30 : nc ≤ 30 := by have := HZL.out; omega
  have hnsc : ns = nc := by have := HZL.out; have := HYL.out; omega
  have HNSC := Lib.hid hnsc
  have HX := Lib.hid hx
  have HYB := Lib.hid s3
  have HSX : Hid (salesX l t kd zs ys = salesK kd t D zs ys nc) := by
    show _ = _
    unfold salesX
    rw [Int.toNat_natCast, hx, HZL.out]; rfl
  have HK := Lib.hid hk
  have HNL := Lib.hid hN
  have hyn : ys.length = nc := by have := HZL.out; omega
  have hpl : ∀ k, k ≤ nc → ((salesK kd t D zs ys k).length : Int) = idS D ys k ∧ (salesK kd t D zs ys k).length ≤ 13000 := fun k hk => by
    have h1 := salesK_length (kd := kd) (nt := (t : Int)) (zs := zs) (sd := (D : Int)) (by omega) s3 k (by omega)
    have h2 := sum_boundS (ys := ys.take k) (fun y h => s3 y (List.mem_of_mem_take h))
    rw [List.length_take] at h2
    refine ⟨h1, ?_⟩
    unfold idS at h1
    omega
  have HPL := Lib.hid hpl
  have hwt : IntKind.i64.wrap ((t : Int) + 1) = (t : Int) + 1 := IntWalk.i64_in _ (by omega)
  have HWT := Lib.hid hwt
  clear hs hz hy ho hx hnb s1 s2 s3 hnsc t0 t1 hl366 hk hN hpl d0 hwt hyn
  go_enter Try.func16, Try.ntmps16
  go_wp2_with fail
  refine (R_Valid25 a n cap l t wd ac nc cc zs as' ns cs ys _ hn hnc hns (HS.out.below (by (repeat' (first | (with_reducible exact Below.refl _ _) | (with_reducible assumption) | (with_reducible exact Bw.out (by with_reducible assumption)) | (with_reducible refine bw_alloc ?_ _) | (with_reducible refine bw_step ?_ (by with_reducible assumption)) | (with_reducible refine Below.alloc ?_ ?_ _) | (with_reducible refine Below.drew ?_) | (with_reducible refine below_drewN ?_ _) | (with_reducible refine Below.setCell ?_ ?_ _) | (with_reducible refine below_step ?_ (by with_reducible assumption) ?_) | (with_reducible exact Nat.le_refl _) | omega | (simp; omega) | (simp; done))))) (HZ.out.below (by (repeat' (first | (with_reducible exact Below.refl _ _) | (with_reducible assumption) | (with_reducible exact Bw.out (by with_reducible assumption)) | (with_reducible refine bw_alloc ?_ _) | (with_reducible refine bw_step ?_ (by with_reducible assumption)) | (with_reducible refine Below.alloc ?_ ?_ _) | (with_reducible refine Below.drew ?_) | (with_reducible refine below_drewN ?_ _) | (with_reducible refine Below.setCell ?_ ?_ _) | (with_reducible refine below_step ?_ (by with_reducible assumption) ?_) | (with_reducible exact Nat.le_refl _) | omega | (simp; omega) | (simp; done))))) (HY.out.below (by (repeat' (first | (with_reducible exact Below.refl _ _) | (with_reducible assumption) | (with_reducible exact Bw.out (by with_reducible assumption)) | (with_reducible refine bw_alloc ?_ _) | (with_reducible refine bw_step ?_ (by with_reducible assumption)) | (with_reducible refine Below.alloc ?_ ?_ _) | (with_reducible refine Below.drew ?_) | (with_reducible refine below_drewN ?_ _) | (with_reducible refine Below.setCell ?_ ?_ _) | (with_reducible refine below_step ?_ (by with_reducible assumption) ?_) | (with_reducible exact Nat.le_refl _) | omega | (simp; omega) | (simp; done))))) true HO.out).mono ?_
  rintro e w1 ⟨rfl, hb1⟩
  have R_s_1 : Row w1 (w.heap.size) [.int .i64 (t : Int), .int .i64 wd, .slice ac nc cc, .slice as' ns cs] := by (repeat' (first | (with_reducible assumption) | (with_reducible refine Row.new' _ _ _ (by first | rfl | (simp; done) | omega)) | (with_reducible refine Row.alloc ?_ _) | (with_reducible refine Row.drew ?_) | (with_reducible refine Row.drewN ?_ _) | (with_reducible refine Row.step ?_ (by with_reducible assumption)) | (with_reducible refine Row.set2' ?_ _ _; first | exact ⟨_, _, by with_reducible assumption⟩ | exact ⟨_, _, Row.alloc (by with_reducible assumption) _⟩ | exact ⟨_, _, Row.alloc (Row.alloc (by with_reducible assumption) _) _⟩) | (with_reducible refine Row.other ?_ (by first | omega | (simp; done) | (simp; omega)) _)))
  have c_s_0_1 := R_s_1.cell 0 rfl
  have c_s_1_1 := R_s_1.cell 1 rfl
  have c_s_2_1 := R_s_1.cell 2 rfl
  have c_s_3_1 := R_s_1.cell 3 rfl
  have l_s_1 := R_s_1.lt
  have HB1 : Below w.heap.size w w1 := by (repeat' (first | (with_reducible exact Below.refl _ _) | (with_reducible assumption) | (with_reducible exact Bw.out (by with_reducible assumption)) | (with_reducible refine bw_alloc ?_ _) | (with_reducible refine bw_step ?_ (by with_reducible assumption)) | (with_reducible refine Below.alloc ?_ ?_ _) | (with_reducible refine Below.drew ?_) | (with_reducible refine below_drewN ?_ _) | (with_reducible refine Below.setCell ?_ ?_ _) | (with_reducible refine below_step ?_ (by with_reducible assumption) ?_) | (with_reducible exact Nat.le_refl _) | omega | (simp; omega) | (simp; done)))
  go_wp2_with fail
  refine (R_in25 _ _ _ _ true HK.out).mono ?_
  rintro e w' ⟨rfl, rfl⟩
  obtain ⟨w1, hw1⟩ : ∃ W, W = w' := ⟨_, rfl⟩
  subst hw1
  have HRS := Lib.hid R_s_1
  have HB := Lib.hid HB1
  have hsB : w.heap.size < w1.heap.size := R_s_1.lt
  obtain ⟨gs, hgs⟩ : ∃ g, w.heap.size = g := ⟨_, rfl⟩
  rw [hgs] at HRS hsB c_s_0_1 c_s_2_1 c_s_3_1 l_s_1
  try rw [hgs]
  have HGS := Lib.hid hgs
  clear hgs R_s_1 HB1 hb1 c_s_1_1
  go_wp2_with fail
  go_loopw [9, 10] (fun v vi wr => ∃ (k : Nat) (ad : Option Addr) (cp : Nat), k ≤ D ∧ v = .slice ad k cp ∧ vi = .int .i64 k ∧ Hid (OwnX wr w1.heap.size (.slice ad k cp) (manyS kd t 0 0 false k)) ∧ Hid (Below w1.heap.size w1 wr)) (fun _ vi _ => D - (intOf vi).toNat)
  case atStart => exact ⟨0, none, 0, Nat.zero_le _, rfl, rfl, OwnX.nil _ _, Below.refl _ _⟩
  case round =>
    obtain ⟨k, ad, cp, hk, rfl, rfl, hO, hB⟩ := hrel
    have hBw : Hid (Below w.heap.size w wr) := HB.out.trans (hB.out.mono HB.out.size)
    have hRS := HRS.out.step hB.out
    have q0 := hRS.cell 0 rfl
    have q2 := hRS.cell 2 rfl
    have q3 := hRS.cell 3 rfl
    have lq := hRS.lt
    obtain ⟨x, bb, off, hx, _, _, hab, _, c0, c1, c2⟩ := (HS.out.below hBw.out).get htn
    have hxe : x = ⟨rm, (D : Int), sa, sn, sc, sz⟩ := Option.some.inj (hx.symm.trans HX.out)
    subst hxe
    subst hab
    simp only [] at c1
    have i1 : (0 : Int) ≤ (t : Int) := by omega
    have i2 : (t : Int) < (n : Int) := by omega
    clear hx hRS c_s_0_1 c_s_2_1 c_s_3_1 l_s_1 c0 c2
    by_cases hlt : k < D
    · go_wp2_with fail
      refine (R_one25 ((k : Int) + 1) 0 false kd (t : Int) _ HWT.out).mono ?_
      rintro e w3 ⟨rfl, hb3⟩
      have hO3 : OwnX w3 w1.heap.size (.slice ad k cp) (manyS kd t 0 0 false k) := hO.out.blk (fun g hg => hb3.block g (hO.out.own hg).2.1)
      have HO3 := Lib.hid hO3
      have HB3 : Hid (Below w1.heap.size w1 w3) := hB.out.trans (hb3.mono hB.out.size)
      have hsz3 := HB3.out.size
      have HMS : Hid (manyS kd t 0 0 false (k + 1) = manyS kd t 0 0 false k ++ [⟨(k : Int) + 1, 0, (k : Int) + 1, false, kd, (t : Int), (t : Int) + 1, 1⟩]) := by
        show _ = _; rw [manyS_succ]; simp [oneS]
      clear hb3 hO3 hO hB q0 q2 q3 lq c1 hBw
      go_wp2_with (at_builtin; refine wpList_append_sale rfl _ _ _ rfl Try.underlying26 w1.heap.size _ _ rfl (HO3.out.alloc _) w3.heap.size 1 ⟨(k : Int) + 1, 0, (k : Int) + 1, false, kd, (t : Int), (t : Int) + 1, 1⟩ rfl (Row.new' w3 _ _ rfl) (by rw [manyS_length]; omega) (by simp; omega) ?_; intro v5 w5 hown hgrn hown2 hbel)
      rw [← HMS.out] at hown
      obtain ⟨ad5, cp5, rfl, _⟩ := hown.shape (k + 1) (manyS_length _ _ _ _ _ _)
      have HO5 := Lib.hid hown
      have HB5 := Lib.hid (hbel _ (HB3.out.alloc hsz3 _))
      clear hown hgrn hown2 hbel
      go_wp2_with fail
      go_roundw
      case rel => exact ⟨k + 1, ad5, cp5, by omega, rfl, by go_num, HO5.out, HB5.out⟩
      case measure => simp [intOf]; omega
    · obtain rfl : D = k := by omega
      have HO0 : Hid (OwnX wr w1.heap.size (.slice ad D cp) (salesK kd t D zs ys 0)) := by
        show OwnX _ _ _ _
        simp only [salesK, Int.toNat_natCast]
        exact hO.out
      have HB0 := hB
      clear hO hB hBw
      go_wp2_with fail
      clear q0 q2 q3 lq c1
      go_loopw [9, 11] (fun v vi wr => ∃ (i p : Nat) (ad : Option Addr) (cp : Nat), i ≤ nc ∧ v = .slice ad p cp ∧ vi = .int .i64 i ∧ Hid ((salesK kd t D zs ys i).length = p) ∧ Hid (OwnX wr w1.heap.size (.slice ad p cp) (salesK kd t D zs ys i)) ∧ Hid (Below w1.heap.size w1 wr)) (fun _ vi _ => nc - (intOf vi).toNat)
      case atStart => exact ⟨0, D, ad, cp, Nat.zero_le _, rfl, rfl, by show _ = _; simp [salesK, manyS_length], HO0.out, HB0.out⟩
      case round =>
        obtain ⟨i, p, ad, cp, hi, rfl, rfl, hP, hO, hB⟩ := hrel
        have hBw : Hid (Below w.heap.size w wr) := HB.out.trans (hB.out.mono HB.out.size)
        have hRS := HRS.out.step hB.out
        have q2 := hRS.cell 2 rfl
        have lq := hRS.lt
        clear hRS
        by_cases hin : i < nc
        · have hpp := HPL.out i hi
          rw [hP.out] at hpp
          obtain ⟨hp1, hp2⟩ := hpp
          have HP1 := Lib.hid hp1
          obtain ⟨b2, o2, y, e2, _, d2, g2, _, g3⟩ := (HY.out.below hBw.out).get (show i < ns by rw [HNSC.out]; exact hin)
          obtain ⟨b1, o1, c, e1, _, d1', g1, _, _⟩ := (HZ.out.below hBw.out).get hin
          obtain ⟨y0, y1⟩ := HYB.out y g3.out
          obtain ⟨Y, rfl⟩ := Int.eq_ofNat_of_zero_le y0
          have HSU : Hid (salesK kd t D zs ys (i + 1) = salesK kd t D zs ys i ++ manyS kd t (idS D ys i) c true Y) := by
            show _ = _
            simp only [salesK]
            rw [g1.out, g2.out, Int.toNat_natCast]
          cases e1
          cases e2
          have i1 : (0 : Int) ≤ (i : Int) := by omega
          have i2 : (i : Int) < (nc : Int) := by omega
          have i3 : (i : Int) < (ns : Int) := by have := HNSC.out; omega
          have HGY : Hid (ys.getD i 0 = (Y : Int)) := g2
          have HGZ : Hid (zs.getD i 0 = c) := g1
          clear hp1 d1' d2 g1 g2 g3 y0 i1 i2 i3
          have HO0' : Hid (OwnX wr w1.heap.size (.slice ad (p + 0) cp) (salesK kd t D zs ys i ++ manyS kd t (idS D ys i) c true 0)) := by
            show OwnX _ _ _ _
            simp only [manyS, List.range_zero, List.map_nil, List.append_nil, Nat.add_zero]
            exact hO.out
          have HBi := hB
          clear hO hB hBw
          go_wp2_with fail
          clear q2 lq
          go_loopw [9, 12] (fun v vi wr => ∃ (k q : Nat) (ad : Option Addr) (cp : Nat), k ≤ Y ∧ Hid (p + k = q) ∧ v = .slice ad q cp ∧ vi = .int .i64 k ∧ Hid (OwnX wr w1.heap.size (.slice ad q cp) (salesK kd t D zs ys i ++ manyS kd t (idS D ys i) c true k)) ∧ Hid (Below w1.heap.size w1 wr)) (fun _ vi _ => Y - (intOf vi).toNat)
          case atStart => exact ⟨0, p, ad, cp, Nat.zero_le _, rfl, rfl, rfl, HO0'.out, HBi.out⟩
          case round =>
            obtain ⟨k, q, ad, cp, hk, hq, rfl, rfl, hO, hB⟩ := hrel
            have hBw : Hid (Below w.heap.size w wr) := HB.out.trans (hB.out.mono HB.out.size)
            have hRS := HRS.out.step hB.out
            have q0 := hRS.cell 0 rfl
            have q2 := hRS.cell 2 rfl
            have q3 := hRS.cell 3 rfl
            have lq := hRS.lt
            obtain ⟨b2', o2', y, e2, lb2, d2, g2, _, _⟩ := (HY.out.below hBw.out).get (show i < ns by rw [HNSC.out]; exact hin)
            obtain ⟨b1', o1', c', e1, lb1, d1', g1, _, _⟩ := (HZ.out.below hBw.out).get hin
            cases e1
            cases e2
            have hyY : y = (Y : Int) := g2.out.symm.trans HGY.out
            have hcc : c' = c := g1.out.symm.trans HGZ.out
            subst hyY hcc
            have i1 : (0 : Int) ≤ (i : Int) := by omega
            have i2 : (i : Int) < (nc : Int) := by omega
            have i3 : (i : Int) < (ns : Int) := by have := HNSC.out; omega
            clear g1 g2
            by_cases hkY : k < Y
            · have C0 : CellAt wr gs 0 (.int .i64 (t : Int)) := q0
              have C2 : CellAt wr gs 2 (.slice (some ⟨b1, o1, none⟩) nc cc) := q2
              have D1 : CellAt wr b1 (o1 + i) (.int .i64 c') := d1'
              have hqb : q ≤ 13400 := by have := hq.out; omega
              have hwq : IntKind.i64.wrap ((q : Int) + 1) = (q : Int) + 1 := IntWalk.i64_in _ (by omega)
              have HMS : Hid (salesK kd t D zs ys i ++ manyS kd t (idS D ys i) c' true (k + 1) = (salesK kd t D zs ys i ++ manyS kd t (idS D ys i) c' true k) ++ [⟨(q : Int) + 1, c', (q : Int) + 1, true, kd, (t : Int), (t : Int) + 1, 1⟩]) := by
                show _ = _
                rw [manyS_succ, List.append_assoc]
                have e : idS D ys i + (k : Int) + 1 = (q : Int) + 1 := by rw [← HP1.out]; have := hq.out; omega
                simp only [oneS, e]
              have HLQ : Hid ((salesK kd t D zs ys i ++ manyS kd t (idS D ys i) c' true k).length = q) := by
                show _ = _; rw [List.length_append, manyS_length, hP.out]; exact hq.out
              clear hRS hBw
              go_upto_region 15 with fail
              clear q0 q2 q3 d1' d2
              refine AnyJ.beginP (fun w' : World => w'.cell? ⟨gs, 0, none⟩ = some (.int .i64 (t : Int)) ∧ w'.cell? ⟨gs, 2, none⟩ = some (.slice (some ⟨b1, o1, none⟩) nc cc) ∧ w'.cell? ⟨b1, o1 + i, none⟩ = some (.int .i64 c')) (fun _ => true) (by kernel_rfl) ⟨C0.out, C2.out, D1.out⟩ (fun hS => ?_)
              refine AnyJ.takeD (i := 0) (d := some 59) (v := ?_) rfl (by kernel_rfl) (by kernel_rfl) (by kernel_rfl) (by kernel_rfl) (by kernel_rfl) (fun _ _ _ h => h) (Or.inl ⟨by kernel_rfl, ?_⟩) hS ?_
              rotate_left
              · intro w' hS
                clear hS
                go_simp
                try with_reducible rfl
              refine AnyJ.takeD (i := 1) (d := some 60) (v := ?_) rfl (by kernel_rfl) (by kernel_rfl) (by kernel_rfl) (by kernel_rfl) (by kernel_rfl) (fun _ _ _ h => h) (Or.inl ⟨by kernel_rfl, ?_⟩) hS ?_
              rotate_left
              · intro w' hS
                clear hS
                go_simp
                try with_reducible rfl
              refine AnyJ.takeD (i := 2) (d := some 61) (v := ?_) rfl (by kernel_rfl) (by kernel_rfl) (by kernel_rfl) (by kernel_rfl) (by kernel_rfl) (fun _ _ _ h => h) (Or.inl ⟨by kernel_rfl, ?_⟩) hS ?_
              rotate_left
              · intro w' hS
                clear hS
                go_simp
                try with_reducible rfl
              refine AnyJ.takeD (i := 3) (d := some 62) (v := ?_) rfl (by kernel_rfl) (by kernel_rfl) (by kernel_rfl) (by kernel_rfl) (by kernel_rfl) (fun _ _ _ h => h) (Or.inl ⟨by kernel_rfl, ?_⟩) hS ?_
              rotate_left
              · intro w' hS
                clear hS
                go_simp
                try with_reducible rfl
              refine AnyJ.takeD (i := 4) (d := some 63) (v := ?_) rfl (by kernel_rfl) (by kernel_rfl) (by kernel_rfl) (by kernel_rfl) (by kernel_rfl) (fun _ _ _ h => h) (Or.inl ⟨by kernel_rfl, ?_⟩) hS ?_
              rotate_left
              · intro w' hS
                clear hS
                go_simp
                try with_reducible rfl
              refine AnyJ.takeD (i := 5) (d := some 64) (v := ?_) rfl (by kernel_rfl) (by kernel_rfl) (by kernel_rfl) (by kernel_rfl) (by kernel_rfl) (fun _ _ _ h => h) (Or.inl ⟨by kernel_rfl, ?_⟩) hS ?_
              rotate_left
              · intro w' hS
                obtain ⟨sF0, sF1, sF2⟩ := hS
                go_simp
                try with_reducible rfl
              refine AnyJ.takeD (i := 6) (d := some 65) (v := ?_) rfl (by kernel_rfl) (by kernel_rfl) (by kernel_rfl) (by kernel_rfl) (by kernel_rfl) (fun _ _ _ h => h) (Or.inl ⟨by kernel_rfl, ?_⟩) hS ?_
              rotate_left
              · intro w' hS
                clear hS
                go_simp
                try with_reducible rfl
              refine AnyJ.takeD (i := 7) (d := some 66) (v := ?_) rfl (by kernel_rfl) (by kernel_rfl) (by kernel_rfl) (by kernel_rfl) (by kernel_rfl) (fun _ _ _ h => h) (Or.inl ⟨by kernel_rfl, ?_⟩) hS ?_
              rotate_left
              · intro w' hS
                clear hS
                go_simp
                try with_reducible rfl
              refine AnyJ.takeD (i := 8) (d := some 67) (v := ?_) rfl (by kernel_rfl) (by kernel_rfl) (by kernel_rfl) (by kernel_rfl) (by kernel_rfl) (fun _ _ _ h => h) (Or.inl ⟨by kernel_rfl, ?_⟩) hS ?_
              rotate_left
              · intro w' hS
                obtain ⟨sF0, sF1, sF2⟩ := hS
                go_simp
                try with_reducible rfl
              refine AnyJ.takeD (i := 9) (d := some 68) (v := ?_) rfl (by kernel_rfl) (by kernel_rfl) (by kernel_rfl) (by kernel_rfl) (by kernel_rfl) (fun _ _ _ h => h) (Or.inl ⟨by kernel_rfl, ?_⟩) hS ?_
              rotate_left
              · intro w' hS
                clear hS
                go_simp
                try with_reducible rfl
              refine AnyJ.takeD (i := 10) (d := some 69) (v := ?_) rfl (by kernel_rfl) (by kernel_rfl) (by kernel_rfl) (by kernel_rfl) (by kernel_rfl) (fun _ _ _ h => h) (Or.inl ⟨by kernel_rfl, ?_⟩) hS ?_
              rotate_left
              · intro w' hS
                clear hS
                go_simp
                try with_reducible rfl
              refine AnyJ.takeD (i := 11) (d := some 70) (v := ?_) rfl (by kernel_rfl) (by kernel_rfl) (by kernel_rfl) (by kernel_rfl) (by kernel_rfl) (fun _ _ _ h => h) (Or.inl ⟨by kernel_rfl, ?_⟩) hS ?_
              rotate_left
              · intro w' hS
                obtain ⟨sF0, sF1, sF2⟩ := hS
                go_simp
                try with_reducible rfl
              clear hS
              refine AnyJ.one (i := 12) (by kernel_rfl) rfl (fun Kz hKz => ?_)
              go_simp
              refine (R_one25 ((q : Int) + 1) c' true kd (t : Int) _ HWT.out).mono ?_
              rintro e w3 ⟨rfl, hb3⟩
              have hb3' : Below wr.heap.size wr w3 := ((Below.refl _ wr).drew).trans hb3
              have HO3 : Hid (OwnX w3 w1.heap.size (.slice ad q cp) (salesK kd t D zs ys i ++ manyS kd t (idS D ys i) c' true k)) := hO.out.blk (fun g hg => hb3'.block g (hO.out.own hg).2.1)
              have HB3 : Hid (Below w1.heap.size w1 w3) := hB.out.trans (hb3'.mono hB.out.size)
              have E0 := C0.step hb3'
              have E2 := C2.step hb3'
              have F1 := D1.step hb3'
              refine hKz _ _ (fun _ => ⟨E0.out, E2.out, F1.out⟩) ?_
              clear hKz Kz hb3 hb3' C0 C2 D1 hO hB
              refine AnyJ.one (i := 13) (by kernel_rfl) rfl (fun Kz hKz => ?_)
              go_simp
              have hal : Below w3.heap.size w3 (w3.alloc (.cells #[.int .i64 ((q : Int) + 1), .int .i64 c', .int .i64 ((q : Int) + 1), .bool true, .int .i64 kd, .int .i64 (t : Int), .int .i64 ((t : Int) + 1), .int .i64 1] 44)) := by (repeat' (first | (with_reducible exact Below.refl _ _) | (with_reducible assumption) | (with_reducible exact Bw.out (by with_reducible assumption)) | (with_reducible refine bw_alloc ?_ _) | (with_reducible refine bw_step ?_ (by with_reducible assumption)) | (with_reducible refine Below.alloc ?_ ?_ _) | (with_reducible refine Below.drew ?_) | (with_reducible refine below_drewN ?_ _) | (with_reducible refine Below.setCell ?_ ?_ _) | (with_reducible refine below_step ?_ (by with_reducible assumption) ?_) | (with_reducible exact Nat.le_refl _) | omega | (simp; omega) | (simp; done)))
              have R4 : Row (w3.alloc (.cells #[.int .i64 ((q : Int) + 1), .int .i64 c', .int .i64 ((q : Int) + 1), .bool true, .int .i64 kd, .int .i64 (t : Int), .int .i64 ((t : Int) + 1), .int .i64 1] 44)) w3.heap.size (saleCells ⟨(q : Int) + 1, c', (q : Int) + 1, true, kd, (t : Int), (t : Int) + 1, 1⟩) := Row.new' _ _ _ rfl
              have hO4 := HO3.out.alloc (.cells #[.int .i64 ((q : Int) + 1), .int .i64 c', .int .i64 ((q : Int) + 1), .bool true, .int .i64 kd, .int .i64 (t : Int), .int .i64 ((t : Int) + 1), .int .i64 1] 44)
              generalize (w3.alloc (.cells #[.int .i64 ((q : Int) + 1), .int .i64 c', .int .i64 ((q : Int) + 1), .bool true, .int .i64 kd, .int .i64 (t : Int), .int .i64 ((t : Int) + 1), .int .i64 1] 44)) = w4 at hal R4 hO4 ⊢
              have hB4 : Below w1.heap.size w1 w4 := HB3.out.trans (hal.mono HB3.out.size)
              refine hKz _ _ (fun _ => ⟨(E0.step hal).out, (E2.step hal).out, (F1.step hal).out⟩) ?_
              clear hKz Kz
              refine AnyJ.one (i := 14) (by kernel_rfl) rfl (fun Kz hKz => ?_)
              refine step_app_sale rfl (.tmp 59) (.tmp 72) 26 rfl Try.underlying26 w1.heap.size _ (salesK kd t D zs ys i ++ manyS kd t (idS D ys i) c' true k) (by simp [Act.eval, Act.put]) hO4 w3.heap.size 1 ⟨(q : Int) + 1, c', (q : Int) + 1, true, kd, (t : Int), (t : Int) + 1, 1⟩ (by simp [Act.eval, Act.put]) R4 (by rw [HLQ.out]; omega) hB4.size ?_
              intro gg cp2 w5 hown hgr hor
              rw [HLQ.out] at hown ⊢
              rw [← HMS.out] at hown
              have HO5 := Lib.hid hown
              have HB5 : Hid (Below w1.heap.size w1 w5) := hB4.grown hgr hB4.size (fun g e => hO4.lt' g e)
              have hS5 : (fun w' : World => w'.cell? ⟨gs, 0, none⟩ = some (.int .i64 (t : Int)) ∧ w'.cell? ⟨gs, 2, none⟩ = some (.slice (some ⟨b1, o1, none⟩) nc cc) ∧ w'.cell? ⟨b1, o1 + i, none⟩ = some (.int .i64 c')) w5 := by
                have k4 := HRS.out.step HB5.out
                refine ⟨k4.cell 0 rfl, k4.cell 2 rfl, ?_⟩
                obtain ⟨b1', o1', c'', e1, _, d5, g5, _, _⟩ := (HZ.out.below (HB.out.trans (HB5.out.mono HB.out.size))).get hin
                cases e1
                rw [d5, ← g5.out, HGZ.out]
              refine hKz _ _ (fun _ => hS5) ?_
              clear hKz Kz hown hgr hor hO4 hB4 hal R4 E0 E2 F1
              refine AnyJ.takeD (i := 15) (d := some 9) (v := .slice (some ⟨gg, 0, none⟩) (q + 1) cp2) rfl (by kernel_rfl) (by kernel_rfl) (by kernel_rfl) (by kernel_rfl) (by kernel_rfl) (fun _ _ _ h => h) (Or.inl ⟨by kernel_rfl, ?_⟩) hS5 ?_
              · intro w' hS
                clear hS
                go_simp
                try with_reducible rfl
              clear hS5 hwq
              refine AnyJ.done (by kernel_rfl) ?_ _
              try simp only [Act.put, List.setIfInBounds_toArray, List.set_cons_zero, List.set_cons_succ]
              go_wp2_with fail
              go_roundw
              case rel => exact ⟨k + 1, q + 1, some ⟨gg, 0, none⟩, cp2, by omega, by have := hq.out; show _ = _; omega, rfl, by go_num, HO5.out, HB5.out⟩
              case measure => simp [intOf]; omega
            · obtain rfl : Y = k := by omega
              have HOE : Hid (OwnX wr w1.heap.size (.slice ad q cp) (salesK kd t D zs ys (i + 1))) := by
                show OwnX _ _ _ _; rw [HSU.out]; exact hO.out
              have HLE : Hid ((salesK kd t D zs ys (i + 1)).length = q) := by
                show _ = _; rw [HSU.out, List.length_append, manyS_length, hP.out]; exact hq.out
              have hB6 := hB
              clear hO hB hRS hBw
              go_wp2_with fail
              go_roundw
              case rel => exact ⟨i + 1, q, ad, cp, by omega, rfl, by go_num, HLE.out, HOE.out, hB6.out⟩
              case measure => simp [intOf]; omega
        · obtain rfl : nc = i := by omega
          have hNp : p = N := by rw [← hP.out, ← HSX.out]; exact HNL.out
          subst hNp
          have HF : Hid (SlS wr ad p (salesX l t kd zs ys)) := by show SlS _ _ _ _; rw [HSX.out]; exact hO.out.sl.1
          clear hP hO
          go_wp2_with fail
          exact bodyPost_ret (v := .tuple #[.slice ad p cp, .int .i64 0]) (by simp [results, Try.results16, go_sem]) rfl ⟨_, _, rfl, HF.out, hBw.out⟩

end Go.Proofs.Ytdijdfhlmnhcjaa
