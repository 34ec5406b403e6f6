/-
  SceneSales: the sales of a scene are, as it says, heard or not, of its channels, of its night alone, of a kind; they are counted as Run says on its night, and as none too many on all others.
  No condition: for every input.
-/
import Derived.Test.YtdijdfhlmnhcjaaScnS
import Derived.Test.YtdijdfhlmnhcjaaScnP
import Derived.Test.YtdijdfhlmnhcjaaRMap
namespace Go.Proofs.Ytdijdfhlmnhcjaa
set_option linter.unusedSimpArgs false
set_option linter.unusedVariables false
open Go.ChangeShapes Go.WideShapes Go.ChangeAt Go.RowKit Go.MapKept

/-- What is left of each channel behind k channels; behind the sales S. -/
def LeftK (f : List (Int × Value)) (zs ys : List Int) (k : Nat) : Prop := (∀ i, i < k → look f (zs.getD i 0) = some (.int .i64 (ys.getD i 0))) ∧ ∀ c v, look f c = some v → c ∈ zs
def LeftF (f : List (Int × Value)) (zs ys : List Int) (S : List SaleV) : Prop := (∀ i, i < zs.length → look f (zs.getD i 0) = some (.int .i64 (ys.getD i 0 - (chanC S (zs.getD i 0) : Int)))) ∧ ∀ c v, look f c = some v → c ∈ zs
theorem LeftK.start (zs ys : List Int) : LeftK [] zs ys 0 := ⟨fun i hi => absurd hi (Nat.not_lt_zero _), fun c v h => by simp [look] at h⟩
theorem getD_mem {zs : List Int} {i : Nat} (h : i < zs.length) : zs.getD i 0 ∈ zs := by
  rw [List.getD_eq_getElem?_getD, List.getElem?_eq_getElem h, Option.getD_some]
  exact List.getElem_mem _
theorem mem_getD {zs : List Int} {c : Int} (h : c ∈ zs) : ∃ i, i < zs.length ∧ zs.getD i 0 = c := by
  obtain ⟨i, hi, rfl⟩ := List.getElem_of_mem h
  exact ⟨i, hi, by rw [List.getD_eq_getElem?_getD, List.getElem?_eq_getElem hi, Option.getD_some]⟩
theorem LeftK.put {f : List (Int × Value)} {zs ys : List Int} {k : Nat} (h : LeftK f zs ys k) (hn : zs.Nodup) (hk : k < zs.length) : LeftK (upd f (zs.getD k 0) (.int .i64 (ys.getD k 0))) zs ys (k + 1) := by
  refine ⟨fun i hi => ?_, fun c v hc => ?_⟩
  · rw [look_upd]
    by_cases e : i = k
    · subst e; rw [if_pos rfl]
    · rw [if_neg (fun q => e (nodup_getD hn (by omega) hk q))]
      exact h.1 i (by omega)
  · rw [look_upd] at hc
    by_cases e : c = zs.getD k 0
    · rw [e]; exact getD_mem hk
    · rw [if_neg e] at hc; exact h.2 c v hc
theorem LeftK.all {f : List (Int × Value)} {zs ys : List Int} {k : Nat} (h : LeftK f zs ys k) (hk : zs.length = k) : LeftF f zs ys [] :=
  ⟨fun i hi => by rw [h.1 i (by omega)]; simp [chanC], h.2⟩
theorem LeftF.keep {f : List (Int × Value)} {zs ys : List Int} {S T : List SaleV} (h : LeftF f zs ys S) (e : ∀ c, chanC T c = chanC S c) : LeftF f zs ys T :=
  ⟨fun i hi => by rw [e]; exact h.1 i hi, h.2⟩
theorem LeftF.put {f : List (Int × Value)} {zs ys : List Int} {S T : List SaleV} {q : Nat} {v : Int} (h : LeftF f zs ys S) (hn : zs.Nodup) (hq : q < zs.length) (hv : v = ys.getD q 0 - (chanC S (zs.getD q 0) : Int) - 1) (e : ∀ c, chanC T c = chanC S c + if zs.getD q 0 = c then 1 else 0) : LeftF (upd f (zs.getD q 0) (.int .i64 v)) zs ys T := by
  refine ⟨fun i hi => ?_, fun c u hc => ?_⟩
  · rw [look_upd, e]
    by_cases hiq : i = q
    · subst hiq
      rw [if_pos rfl, if_pos rfl, hv]
      congr 2
      omega
    · rw [if_neg (fun p => hiq (nodup_getD hn hi hq p)), if_neg (fun p => hiq (nodup_getD hn hi hq p.symm)), Nat.add_zero]
      exact h.1 i hi
  · rw [look_upd] at hc
    by_cases e : c = zs.getD q 0
    · rw [e]; exact getD_mem hq
    · rw [if_neg e] at hc; exact h.2 c u hc
theorem LeftF.done {f : List (Int × Value)} {zs ys : List Int} {S : List SaleV} (h : LeftF f zs ys S) (e : ∀ i, i < zs.length → (chanC S (zs.getD i 0) : Int) = ys.getD i 0) {c : Int} {v : Value} (hc : look f c = some v) : v = .int .i64 0 := by
  obtain ⟨i, hi, rfl⟩ := mem_getD (h.2 c v hc)
  rw [h.1 i hi, e i hi] at hc
  simp at hc
  exact hc.symm

theorem Sales_c (a : Option Addr) (n cap : Nat) (l : List NightV) (nt wd : Int) (ac : Option Addr) (nc cc : Nat) (zs : List Int) (as' : Option Addr) (ns cs : Nat) (ys : List Int) (kd : Int) (w : World)
    (hn : n ≤ 9223372036854775807) (hnc : nc ≤ 9223372036854775807) (hns : ns ≤ 9223372036854775807) (hs : SlN w a n l) (hz : SlI w ac nc zs) (hy : SlI w as' ns ys) (hb : (openB l nt wd zs ys && inR kd 1 20) = true) (N : Nat) (hN : (salesX l nt kd zs ys).length = N) :
    Calls Try.prog 15 #[.slice a n cap, .agg #[.int .i64 nt, .int .i64 wd, .slice ac nc cc, .slice as' ns cs], .int .i64 kd] w
      fun e w' => ∃ ad cp, e = .returned (.tuple #[.slice ad N cp, .int .i64 0]) ∧ SlS w' ad N (salesX l nt kd zs ys) ∧ Below w.heap.size w w' := by
  refine (Sales_ok a n cap l nt wd ac nc cc zs as' ns cs ys kd w hn hnc hns hs hz hy hb).mono ?_
  rintro e w' ⟨v, base, rfl, hv, _, hb⟩
  obtain ⟨ad, cp, rfl, hv⟩ := hv.shape N hN
  exact ⟨ad, cp, rfl, hv.sl.1, hb⟩
theorem usB25_in {l : List NightV} {nt wd : Int} {zs ys : List Int} (h : usB25 l nt wd zs ys = true) : (∀ x ∈ l, x.zs.length ≤ 40) ∧ l.length ≤ 400 ∧ zs.length ≤ 40 ∧ ys.length ≤ 40 ∧ openB l nt wd zs ys = true := by
  unfold usB25 at h
  simp only [Bool.and_eq_true, decide_eq_true_eq] at h
  obtain ⟨h1, h2, h3, h4⟩ := h
  obtain ⟨f1, f2, _⟩ := fewB_in h1
  exact ⟨f1, f2, h2, h3, h4⟩
theorem sales_wf {l : List NightV} {nt wd kd : Int} {zs ys : List Int} (h : openB l nt wd zs ys = true) (hk : inR kd 1 20 = true) : ∀ x ∈ salesX l nt kd zs ys, SaleWf x := fun x hx => by
  have h1 := (salesB_in (sales_right h hk)).1 x hx
  obtain ⟨a1, a2, a3, a4⟩ := saleB_in h1
  have := askB_in a4
  unfold SaleWf I64
  omega
theorem underlying_mapii : Try.prog.underlying 40 = some (.map 3 3) := Try.underlying40
theorem zero_int (w : World) : (zeroValue 3).run Try.prog w = .ok (.int .i64 0) w := by kernel_rfl

set_option maxRecDepth 100000 in
set_option maxHeartbeats 12800000 in
theorem scsales_walk (a : Option Addr) (n cap : Nat) (l : List NightV) (nt wd : Int) (ac : Option Addr) (nc cc : Nat) (zs : List Int) (as' : Option Addr) (ns cs : Nat) (ys : List Int) (y : Int) (_ : ∀ x ∈ l, NightWf x) (_ : ScnWf nt wd zs ys) (hwy : (Lit.int .u8 y).wf = true) (w : World)
    (hl : SlN w a n l ∧ n ≤ cap ∧ cap ≤ maxLen) (hS : ScnIn w nt wd ac nc cc zs as' ns cs ys) :
    Calls Try.prog 4 #[.slice a n cap, .agg #[.int .i64 nt, .int .i64 wd, .slice ac nc cc, .slice as' ns cs], .int .u8 y] w fun e w' => e = .returned (.bool true) ∧ Below w.heap.size w w' := by
  obtain ⟨hs, k1, k2⟩ := hl
  obtain ⟨hz, hy, k3, k4, k5, k6⟩ := hS
  unfold maxLen at k2 k4 k6
  have HS := Lib.hid hs
  have HZ := Lib.hid hz
  have HY := Lib.hid hy
  have HL := Lib.hid hs.1
  have HZL := Lib.hid hz.1
  have HYL := Lib.hid hy.1
  obtain ⟨y0, y1⟩ := bd_u8 hwy
  have hn : n ≤ 9223372036854775807 := by omega
  have hnc : nc ≤ 9223372036854775807 := by omega
  have hns : ns ≤ 9223372036854775807 := by omega
  clear hs hz hy hwy
  cases hR : usB25 l nt wd zs ys with
  | false =>
    have HR := Lib.hid hR
    clear hR
    go_enter Try.func4, Try.ntmps4
    go_wp2_with fail
    refine (s_head_any _).mono ?_
    rintro e w1 ⟨rfl, hb1⟩
    have R_s_1 : Row w1 (w.heap.size) [.int .i64 nt, .int .i64 wd, .slice ac nc cc, .slice as' ns cs] := by (repeat' (first | (with_reducible assumption) | (with_reducible refine Row.new' _ _ _ (by first | rfl | (simp; done) | omega)) | (with_reducible refine Row.alloc ?_ _) | (with_reducible refine Row.drew ?_) | (with_reducible refine Row.drewN ?_ _) | (with_reducible refine Row.step ?_ (by with_reducible assumption)) | (with_reducible refine Row.set2' ?_ _ _; first | exact ⟨_, _, by with_reducible assumption⟩ | exact ⟨_, _, Row.alloc (by with_reducible assumption) _⟩ | exact ⟨_, _, Row.alloc (Row.alloc (by with_reducible assumption) _) _⟩) | (with_reducible refine Row.other ?_ (by first | omega | (simp; done) | (simp; omega)) _)))
    have c_s_0_1 := R_s_1.cell 0 rfl
    have c_s_1_1 := R_s_1.cell 1 rfl
    have c_s_2_1 := R_s_1.cell 2 rfl
    have c_s_3_1 := R_s_1.cell 3 rfl
    have l_s_1 := R_s_1.lt
    have HB1 : Below w.heap.size w w1 := by (repeat' (first | (with_reducible exact Below.refl _ _) | (with_reducible assumption) | (with_reducible exact Bw.out (by with_reducible assumption)) | (with_reducible refine bw_alloc ?_ _) | (with_reducible refine bw_step ?_ (by with_reducible assumption)) | (with_reducible refine Below.alloc ?_ ?_ _) | (with_reducible refine Below.drew ?_) | (with_reducible refine below_drewN ?_ _) | (with_reducible refine Below.setCell ?_ ?_ _) | (with_reducible refine below_step ?_ (by with_reducible assumption) ?_) | (with_reducible exact Nat.le_refl _) | omega | (simp; omega) | (simp; done)))
    go_wp2_with fail
    refine (usable25 a n cap l nt wd ac nc cc zs as' ns cs ys _ hn hnc hns (HS.out.below (by (repeat' (first | (with_reducible exact Below.refl _ _) | (with_reducible assumption) | (with_reducible exact Bw.out (by with_reducible assumption)) | (with_reducible refine bw_alloc ?_ _) | (with_reducible refine bw_step ?_ (by with_reducible assumption)) | (with_reducible refine Below.alloc ?_ ?_ _) | (with_reducible refine Below.drew ?_) | (with_reducible refine below_drewN ?_ _) | (with_reducible refine Below.setCell ?_ ?_ _) | (with_reducible refine below_step ?_ (by with_reducible assumption) ?_) | (with_reducible exact Nat.le_refl _) | omega | (simp; omega) | (simp; done))))) (HZ.out.below (by (repeat' (first | (with_reducible exact Below.refl _ _) | (with_reducible assumption) | (with_reducible exact Bw.out (by with_reducible assumption)) | (with_reducible refine bw_alloc ?_ _) | (with_reducible refine bw_step ?_ (by with_reducible assumption)) | (with_reducible refine Below.alloc ?_ ?_ _) | (with_reducible refine Below.drew ?_) | (with_reducible refine below_drewN ?_ _) | (with_reducible refine Below.setCell ?_ ?_ _) | (with_reducible refine below_step ?_ (by with_reducible assumption) ?_) | (with_reducible exact Nat.le_refl _) | omega | (simp; omega) | (simp; done))))) (HY.out.below (by (repeat' (first | (with_reducible exact Below.refl _ _) | (with_reducible assumption) | (with_reducible exact Bw.out (by with_reducible assumption)) | (with_reducible refine bw_alloc ?_ _) | (with_reducible refine bw_step ?_ (by with_reducible assumption)) | (with_reducible refine Below.alloc ?_ ?_ _) | (with_reducible refine Below.drew ?_) | (with_reducible refine below_drewN ?_ _) | (with_reducible refine Below.setCell ?_ ?_ _) | (with_reducible refine below_step ?_ (by with_reducible assumption) ?_) | (with_reducible exact Nat.le_refl _) | omega | (simp; omega) | (simp; done))))) false HR.out).mono ?_
    rintro e w2 ⟨rfl, hb2⟩
    have R_s_2 : Row w2 (w.heap.size) [.int .i64 nt, .int .i64 wd, .slice ac nc cc, .slice as' ns cs] := by (repeat' (first | (with_reducible assumption) | (with_reducible refine Row.new' _ _ _ (by first | rfl | (simp; done) | omega)) | (with_reducible refine Row.alloc ?_ _) | (with_reducible refine Row.drew ?_) | (with_reducible refine Row.drewN ?_ _) | (with_reducible refine Row.step ?_ (by with_reducible assumption)) | (with_reducible refine Row.set2' ?_ _ _; first | exact ⟨_, _, by with_reducible assumption⟩ | exact ⟨_, _, Row.alloc (by with_reducible assumption) _⟩ | exact ⟨_, _, Row.alloc (Row.alloc (by with_reducible assumption) _) _⟩) | (with_reducible refine Row.other ?_ (by first | omega | (simp; done) | (simp; omega)) _)))
    have c_s_0_2 := R_s_2.cell 0 rfl
    have c_s_1_2 := R_s_2.cell 1 rfl
    have c_s_2_2 := R_s_2.cell 2 rfl
    have c_s_3_2 := R_s_2.cell 3 rfl
    have l_s_2 := R_s_2.lt
    have HB2 : Below w.heap.size w w2 := by (repeat' (first | (with_reducible exact Below.refl _ _) | (with_reducible assumption) | (with_reducible exact Bw.out (by with_reducible assumption)) | (with_reducible refine bw_alloc ?_ _) | (with_reducible refine bw_step ?_ (by with_reducible assumption)) | (with_reducible refine Below.alloc ?_ ?_ _) | (with_reducible refine Below.drew ?_) | (with_reducible refine below_drewN ?_ _) | (with_reducible refine Below.setCell ?_ ?_ _) | (with_reducible refine below_step ?_ (by with_reducible assumption) ?_) | (with_reducible exact Nat.le_refl _) | omega | (simp; omega) | (simp; done)))
    clear R_s_1 c_s_0_1 c_s_1_1 c_s_2_1 c_s_3_1 hb1 HB1
    go_wp2_with fail
    go_ret
    refine ⟨(by first | rfl | exact ret_bool (by first | rfl | (simp; done) | (simp; omega))), ?_⟩
    (repeat' (first | (with_reducible exact Below.refl _ _) | (with_reducible assumption) | (with_reducible exact Bw.out (by with_reducible assumption)) | (with_reducible refine bw_alloc ?_ _) | (with_reducible refine bw_step ?_ (by with_reducible assumption)) | (with_reducible refine Below.alloc ?_ ?_ _) | (with_reducible refine Below.drew ?_) | (with_reducible refine below_drewN ?_ _) | (with_reducible refine Below.setCell ?_ ?_ _) | (with_reducible refine below_step ?_ (by with_reducible assumption) ?_) | (with_reducible exact Nat.le_refl _) | omega | (simp; omega) | (simp; done)))
  | true =>
    have HR := Lib.hid hR
    obtain ⟨_, f1, f2, f3, hO⟩ := usB25_in hR
    obtain ⟨x, hx, hnb⟩ := openB_night hO
    obtain ⟨s1, s2, s3⟩ := sells_bound hO
    obtain ⟨g1, ⟨t0, t1⟩, _⟩ := openB_in hO
    obtain ⟨rr0, rr1⟩ := run_bounds hO
    have HO := Lib.hid hO
    have HND := Lib.hid (open_nodup hO)
    have HYB := Lib.hid s3
    obtain ⟨⟨r0, r1⟩, d0, d1⟩ := nightB_nums hnb
    have hn366 : n ≤ 366 := by have := (nightsB_in g1).1; have := HL.out; omega
    have hnc30 : nc ≤ 30 := by have := HZL.out; omega
    have hnsc : ns = nc := by have := HZL.out; have := HYL.out; omega
    have HNSC := Lib.hid hnsc
    have HX := Lib.hid hx
    obtain ⟨Y, rfl⟩ := Int.eq_ofNat_of_zero_le y0
    obtain ⟨t, rfl⟩ := Int.eq_ofNat_of_zero_le t0
    have htn : t < n := by have := HL.out; omega
    obtain ⟨K, hK⟩ : ∃ K : Nat, Y % 20 = K := ⟨_, rfl⟩
    have hK20 : K < 20 := by omega
    have hkd : inR (1 + (K : Int)) 1 20 = true := inR_iff.2 (by omega)
    have hSR := sales_right HO.out hkd
    obtain ⟨hg1, hg2⟩ : ((salesX l (t : Int) (1 + (K : Int)) zs ys).length : Int) = x.sold + ys.sum ∧ ∀ (i : Nat) (y : SaleV), (salesX l (t : Int) (1 + (K : Int)) zs ys)[i]? = some y → ∃ (ch : Int) (ct : Bool), y = SaleV.mk ((i : Int) + 1) ch ((i : Int) + 1) ct (1 + (K : Int)) (t : Int) ((t : Int) + 1) 1 ∧ (ct = true → ch ∈ zs) ∧ (ct = false → ch = 0) := by
      have e : salesX l (t : Int) (1 + (K : Int)) zs ys = salesK (1 + (K : Int)) (t : Int) x.sold zs ys zs.length := by unfold salesX; rw [hx]; rfl
      rw [e]
      refine ⟨?_, salesK_get d0 s3 s2 zs.length (by omega)⟩
      rw [salesK_length d0 s3 zs.length (by omega)]
      unfold idS
      rw [List.take_of_length_le (by omega)]
    obtain ⟨hh1, hh2⟩ : heardC (salesX l (t : Int) (1 + (K : Int)) zs ys) = x.sold.toNat ∧ ∀ i, i < zs.length → (chanC (salesX l (t : Int) (1 + (K : Int)) zs ys) (zs.getD i 0) : Int) = ys.getD i 0 := by
      have e : salesX l (t : Int) (1 + (K : Int)) zs ys = salesK (1 + (K : Int)) (t : Int) x.sold zs ys zs.length := by unfold salesX; rw [hx]; rfl
      rw [e]
      refine ⟨heard_all _ _ _ _ _ _, fun i hi => ?_⟩
      rw [chan_all _ _ _ (open_nodup hO) hi zs.length (Nat.le_refl _), if_pos hi]
      have := s3 _ (getD_mem (show i < ys.length by omega))
      omega
    have hcb : cntB l (salesX l (t : Int) (1 + (K : Int)) zs ys) [] = true := cntB_none g1 hSR
    have hwf := sales_wf HO.out hkd
    have hcnt : ∀ i, i < l.length → (cntL l (salesX l (t : Int) (1 + (K : Int)) zs ys) []).getD i 0 = if (i : Int) = (t : Int) then runI l t ys else 0 := fun i hi => sales_count HO.out hi
    have HOK : Hid ((openB l (t : Int) wd zs ys && inR (1 + (K : Int)) 1 20) = true) := by show _ = _; rw [HO.out, hkd]; rfl
    have hys := sum_boundS s3
    have HXS : Hid ((salesX l (t : Int) (1 + (K : Int)) zs ys).length ≤ 13000) := by show _ ≤ _; omega
    obtain ⟨R, hR2⟩ : ∃ R, runI l (t : Int) ys = R := ⟨_, rfl⟩
    rw [hR2] at rr0 rr1 hcnt
    obtain ⟨N, hN⟩ : ∃ N, (salesX l (t : Int) (1 + (K : Int)) zs ys).length = N := ⟨_, rfl⟩
    have hN3 : N ≤ 13000 := by have := HXS.out; omega
    have HRI := Lib.hid hR2
    have HNL := Lib.hid hN
    obtain ⟨S, hSe⟩ : ∃ S, salesX l (t : Int) (1 + (K : Int)) zs ys = S := ⟨_, rfl⟩
    have HSE := Lib.hid hSe
    rw [hSe] at hg2 hh1 hh2 hcb hwf hcnt hN
    have HG := Lib.hid hg2
    have HH1 := Lib.hid hh1
    have HH2 := Lib.hid hh2
    have HCB := Lib.hid hcb
    have HWF := Lib.hid hwf
    have HCNT := Lib.hid hcnt
    have HSL := Lib.hid hN
    have hmod : ((Y : Int)).tmod 20 = (K : Int) := by rw [← hK]; rfl
    have hwY : IntKind.i64.wrap (Y : Int) = (Y : Int) := IntWalk.i64_in _ (by omega)
    have hwK : IntKind.i64.wrap (K : Int) = (K : Int) := IntWalk.i64_in _ (by omega)
    have hwK1 : IntKind.i64.wrap (1 + (K : Int)) = 1 + (K : Int) := IntWalk.i64_in _ (by omega)
    obtain ⟨rm, sd, sa, sn, sc, sz⟩ := x
    simp only [] at r0 r1 d0 d1
    have HH3 : Hid (heardC S = sd.toNat) := HH1.out
    clear hR hO hnb s1 s2 s3 g1 hSR hcb hwf hcnt hSe hN hg1 hg2 hh1 hh2 hK hkd hR2 hx t0 t1 f1 f2 f3 HXS HH1 hys hnsc
    go_enter Try.func4, Try.ntmps4
    go_wp2_with fail
    refine (s_head_any _).mono ?_
    rintro e w1 ⟨rfl, hb1⟩
    have R_s_1 : Row w1 (w.heap.size) [.int .i64 (t : Int), .int .i64 wd, .slice ac nc cc, .slice as' ns cs] := by (repeat' (first | (with_reducible assumption) | (with_reducible refine Row.new' _ _ _ (by first | rfl | (simp; done) | omega)) | (with_reducible refine Row.alloc ?_ _) | (with_reducible refine Row.drew ?_) | (with_reducible refine Row.drewN ?_ _) | (with_reducible refine Row.step ?_ (by with_reducible assumption)) | (with_reducible refine Row.set2' ?_ _ _; first | exact ⟨_, _, by with_reducible assumption⟩ | exact ⟨_, _, Row.alloc (by with_reducible assumption) _⟩ | exact ⟨_, _, Row.alloc (Row.alloc (by with_reducible assumption) _) _⟩) | (with_reducible refine Row.other ?_ (by first | omega | (simp; done) | (simp; omega)) _)))
    have c_s_0_1 := R_s_1.cell 0 rfl
    have c_s_1_1 := R_s_1.cell 1 rfl
    have c_s_2_1 := R_s_1.cell 2 rfl
    have c_s_3_1 := R_s_1.cell 3 rfl
    have l_s_1 := R_s_1.lt
    have HB1 : Below w.heap.size w w1 := by (repeat' (first | (with_reducible exact Below.refl _ _) | (with_reducible assumption) | (with_reducible exact Bw.out (by with_reducible assumption)) | (with_reducible refine bw_alloc ?_ _) | (with_reducible refine bw_step ?_ (by with_reducible assumption)) | (with_reducible refine Below.alloc ?_ ?_ _) | (with_reducible refine Below.drew ?_) | (with_reducible refine below_drewN ?_ _) | (with_reducible refine Below.setCell ?_ ?_ _) | (with_reducible refine below_step ?_ (by with_reducible assumption) ?_) | (with_reducible exact Nat.le_refl _) | omega | (simp; omega) | (simp; done)))
    go_wp2_with fail
    refine (usable25 a n cap l t wd ac nc cc zs as' ns cs ys _ hn hnc hns (HS.out.below (by (repeat' (first | (with_reducible exact Below.refl _ _) | (with_reducible assumption) | (with_reducible exact Bw.out (by with_reducible assumption)) | (with_reducible refine bw_alloc ?_ _) | (with_reducible refine bw_step ?_ (by with_reducible assumption)) | (with_reducible refine Below.alloc ?_ ?_ _) | (with_reducible refine Below.drew ?_) | (with_reducible refine below_drewN ?_ _) | (with_reducible refine Below.setCell ?_ ?_ _) | (with_reducible refine below_step ?_ (by with_reducible assumption) ?_) | (with_reducible exact Nat.le_refl _) | omega | (simp; omega) | (simp; done))))) (HZ.out.below (by (repeat' (first | (with_reducible exact Below.refl _ _) | (with_reducible assumption) | (with_reducible exact Bw.out (by with_reducible assumption)) | (with_reducible refine bw_alloc ?_ _) | (with_reducible refine bw_step ?_ (by with_reducible assumption)) | (with_reducible refine Below.alloc ?_ ?_ _) | (with_reducible refine Below.drew ?_) | (with_reducible refine below_drewN ?_ _) | (with_reducible refine Below.setCell ?_ ?_ _) | (with_reducible refine below_step ?_ (by with_reducible assumption) ?_) | (with_reducible exact Nat.le_refl _) | omega | (simp; omega) | (simp; done))))) (HY.out.below (by (repeat' (first | (with_reducible exact Below.refl _ _) | (with_reducible assumption) | (with_reducible exact Bw.out (by with_reducible assumption)) | (with_reducible refine bw_alloc ?_ _) | (with_reducible refine bw_step ?_ (by with_reducible assumption)) | (with_reducible refine Below.alloc ?_ ?_ _) | (with_reducible refine Below.drew ?_) | (with_reducible refine below_drewN ?_ _) | (with_reducible refine Below.setCell ?_ ?_ _) | (with_reducible refine below_step ?_ (by with_reducible assumption) ?_) | (with_reducible exact Nat.le_refl _) | omega | (simp; omega) | (simp; done))))) true HR.out).mono ?_
    rintro e w2 ⟨rfl, hb2⟩
    have R_s_2 : Row w2 (w.heap.size) [.int .i64 (t : Int), .int .i64 wd, .slice ac nc cc, .slice as' ns cs] := by (repeat' (first | (with_reducible assumption) | (with_reducible refine Row.new' _ _ _ (by first | rfl | (simp; done) | omega)) | (with_reducible refine Row.alloc ?_ _) | (with_reducible refine Row.drew ?_) | (with_reducible refine Row.drewN ?_ _) | (with_reducible refine Row.step ?_ (by with_reducible assumption)) | (with_reducible refine Row.set2' ?_ _ _; first | exact ⟨_, _, by with_reducible assumption⟩ | exact ⟨_, _, Row.alloc (by with_reducible assumption) _⟩ | exact ⟨_, _, Row.alloc (Row.alloc (by with_reducible assumption) _) _⟩) | (with_reducible refine Row.other ?_ (by first | omega | (simp; done) | (simp; omega)) _)))
    have c_s_0_2 := R_s_2.cell 0 rfl
    have c_s_1_2 := R_s_2.cell 1 rfl
    have c_s_2_2 := R_s_2.cell 2 rfl
    have c_s_3_2 := R_s_2.cell 3 rfl
    have l_s_2 := R_s_2.lt
    have HB2 : Below w.heap.size w w2 := by (repeat' (first | (with_reducible exact Below.refl _ _) | (with_reducible assumption) | (with_reducible exact Bw.out (by with_reducible assumption)) | (with_reducible refine bw_alloc ?_ _) | (with_reducible refine bw_step ?_ (by with_reducible assumption)) | (with_reducible refine Below.alloc ?_ ?_ _) | (with_reducible refine Below.drew ?_) | (with_reducible refine below_drewN ?_ _) | (with_reducible refine Below.setCell ?_ ?_ _) | (with_reducible refine below_step ?_ (by with_reducible assumption) ?_) | (with_reducible exact Nat.le_refl _) | omega | (simp; omega) | (simp; done)))
    clear R_s_1 c_s_0_1 c_s_1_1 c_s_2_1 c_s_3_1 hb1 HB1
    go_wp2_with fail
    refine (Run_ok a n cap l t wd ac nc cc zs as' ns cs ys _ hn hnc hns (HS.out.below (by (repeat' (first | (with_reducible exact Below.refl _ _) | (with_reducible assumption) | (with_reducible exact Bw.out (by with_reducible assumption)) | (with_reducible refine bw_alloc ?_ _) | (with_reducible refine bw_step ?_ (by with_reducible assumption)) | (with_reducible refine Below.alloc ?_ ?_ _) | (with_reducible refine Below.drew ?_) | (with_reducible refine below_drewN ?_ _) | (with_reducible refine Below.setCell ?_ ?_ _) | (with_reducible refine below_step ?_ (by with_reducible assumption) ?_) | (with_reducible exact Nat.le_refl _) | omega | (simp; omega) | (simp; done))))) (HZ.out.below (by (repeat' (first | (with_reducible exact Below.refl _ _) | (with_reducible assumption) | (with_reducible exact Bw.out (by with_reducible assumption)) | (with_reducible refine bw_alloc ?_ _) | (with_reducible refine bw_step ?_ (by with_reducible assumption)) | (with_reducible refine Below.alloc ?_ ?_ _) | (with_reducible refine Below.drew ?_) | (with_reducible refine below_drewN ?_ _) | (with_reducible refine Below.setCell ?_ ?_ _) | (with_reducible refine below_step ?_ (by with_reducible assumption) ?_) | (with_reducible exact Nat.le_refl _) | omega | (simp; omega) | (simp; done))))) (HY.out.below (by (repeat' (first | (with_reducible exact Below.refl _ _) | (with_reducible assumption) | (with_reducible exact Bw.out (by with_reducible assumption)) | (with_reducible refine bw_alloc ?_ _) | (with_reducible refine bw_step ?_ (by with_reducible assumption)) | (with_reducible refine Below.alloc ?_ ?_ _) | (with_reducible refine Below.drew ?_) | (with_reducible refine below_drewN ?_ _) | (with_reducible refine Below.setCell ?_ ?_ _) | (with_reducible refine below_step ?_ (by with_reducible assumption) ?_) | (with_reducible exact Nat.le_refl _) | omega | (simp; omega) | (simp; done))))) HO.out R HRI.out).mono ?_
    rintro e w3 ⟨rfl, hb3⟩
    have R_s_3 : Row w3 (w.heap.size) [.int .i64 (t : Int), .int .i64 wd, .slice ac nc cc, .slice as' ns cs] := by (repeat' (first | (with_reducible assumption) | (with_reducible refine Row.new' _ _ _ (by first | rfl | (simp; done) | omega)) | (with_reducible refine Row.alloc ?_ _) | (with_reducible refine Row.drew ?_) | (with_reducible refine Row.drewN ?_ _) | (with_reducible refine Row.step ?_ (by with_reducible assumption)) | (with_reducible refine Row.set2' ?_ _ _; first | exact ⟨_, _, by with_reducible assumption⟩ | exact ⟨_, _, Row.alloc (by with_reducible assumption) _⟩ | exact ⟨_, _, Row.alloc (Row.alloc (by with_reducible assumption) _) _⟩) | (with_reducible refine Row.other ?_ (by first | omega | (simp; done) | (simp; omega)) _)))
    have c_s_0_3 := R_s_3.cell 0 rfl
    have c_s_1_3 := R_s_3.cell 1 rfl
    have c_s_2_3 := R_s_3.cell 2 rfl
    have c_s_3_3 := R_s_3.cell 3 rfl
    have l_s_3 := R_s_3.lt
    have HB3 : Below w.heap.size w w3 := by (repeat' (first | (with_reducible exact Below.refl _ _) | (with_reducible assumption) | (with_reducible exact Bw.out (by with_reducible assumption)) | (with_reducible refine bw_alloc ?_ _) | (with_reducible refine bw_step ?_ (by with_reducible assumption)) | (with_reducible refine Below.alloc ?_ ?_ _) | (with_reducible refine Below.drew ?_) | (with_reducible refine below_drewN ?_ _) | (with_reducible refine Below.setCell ?_ ?_ _) | (with_reducible refine below_step ?_ (by with_reducible assumption) ?_) | (with_reducible exact Nat.le_refl _) | omega | (simp; omega) | (simp; done)))
    clear R_s_2 c_s_0_2 c_s_1_2 c_s_2_2 c_s_3_2 hb2 HB2
    go_wp2_with fail
    refine (Sales_c a n cap l t wd ac nc cc zs as' ns cs ys (1 + (K : Int)) _ hn hnc hns (HS.out.below (by (repeat' (first | (with_reducible exact Below.refl _ _) | (with_reducible assumption) | (with_reducible exact Bw.out (by with_reducible assumption)) | (with_reducible refine bw_alloc ?_ _) | (with_reducible refine bw_step ?_ (by with_reducible assumption)) | (with_reducible refine Below.alloc ?_ ?_ _) | (with_reducible refine Below.drew ?_) | (with_reducible refine below_drewN ?_ _) | (with_reducible refine Below.setCell ?_ ?_ _) | (with_reducible refine below_step ?_ (by with_reducible assumption) ?_) | (with_reducible exact Nat.le_refl _) | omega | (simp; omega) | (simp; done))))) (HZ.out.below (by (repeat' (first | (with_reducible exact Below.refl _ _) | (with_reducible assumption) | (with_reducible exact Bw.out (by with_reducible assumption)) | (with_reducible refine bw_alloc ?_ _) | (with_reducible refine bw_step ?_ (by with_reducible assumption)) | (with_reducible refine Below.alloc ?_ ?_ _) | (with_reducible refine Below.drew ?_) | (with_reducible refine below_drewN ?_ _) | (with_reducible refine Below.setCell ?_ ?_ _) | (with_reducible refine below_step ?_ (by with_reducible assumption) ?_) | (with_reducible exact Nat.le_refl _) | omega | (simp; omega) | (simp; done))))) (HY.out.below (by (repeat' (first | (with_reducible exact Below.refl _ _) | (with_reducible assumption) | (with_reducible exact Bw.out (by with_reducible assumption)) | (with_reducible refine bw_alloc ?_ _) | (with_reducible refine bw_step ?_ (by with_reducible assumption)) | (with_reducible refine Below.alloc ?_ ?_ _) | (with_reducible refine Below.drew ?_) | (with_reducible refine below_drewN ?_ _) | (with_reducible refine Below.setCell ?_ ?_ _) | (with_reducible refine below_step ?_ (by with_reducible assumption) ?_) | (with_reducible exact Nat.le_refl _) | omega | (simp; omega) | (simp; done))))) HOK.out N HNL.out).mono ?_
    rintro e w4 ⟨ad, cp, rfl, hks, hb4⟩
    have R_s_4 : Row w4 (w.heap.size) [.int .i64 (t : Int), .int .i64 wd, .slice ac nc cc, .slice as' ns cs] := by (repeat' (first | (with_reducible assumption) | (with_reducible refine Row.new' _ _ _ (by first | rfl | (simp; done) | omega)) | (with_reducible refine Row.alloc ?_ _) | (with_reducible refine Row.drew ?_) | (with_reducible refine Row.drewN ?_ _) | (with_reducible refine Row.step ?_ (by with_reducible assumption)) | (with_reducible refine Row.set2' ?_ _ _; first | exact ⟨_, _, by with_reducible assumption⟩ | exact ⟨_, _, Row.alloc (by with_reducible assumption) _⟩ | exact ⟨_, _, Row.alloc (Row.alloc (by with_reducible assumption) _) _⟩) | (with_reducible refine Row.other ?_ (by first | omega | (simp; done) | (simp; omega)) _)))
    have c_s_0_4 := R_s_4.cell 0 rfl
    have c_s_1_4 := R_s_4.cell 1 rfl
    have c_s_2_4 := R_s_4.cell 2 rfl
    have c_s_3_4 := R_s_4.cell 3 rfl
    have l_s_4 := R_s_4.lt
    have HB4 : Below w.heap.size w w4 := by (repeat' (first | (with_reducible exact Below.refl _ _) | (with_reducible assumption) | (with_reducible exact Bw.out (by with_reducible assumption)) | (with_reducible refine bw_alloc ?_ _) | (with_reducible refine bw_step ?_ (by with_reducible assumption)) | (with_reducible refine Below.alloc ?_ ?_ _) | (with_reducible refine Below.drew ?_) | (with_reducible refine below_drewN ?_ _) | (with_reducible refine Below.setCell ?_ ?_ _) | (with_reducible refine below_step ?_ (by with_reducible assumption) ?_) | (with_reducible exact Nat.le_refl _) | omega | (simp; omega) | (simp; done)))
    clear R_s_3 c_s_0_3 c_s_1_3 c_s_2_3 c_s_3_3 hb3 HB3
    rw [HSE.out] at hks
    have KS := Lib.hid hks
    clear hks
    go_wp2_with fail
    refine (Count_c a n cap l ad N cp S none 0 0 [] _ (HS.out.below (by (repeat' (first | (with_reducible exact Below.refl _ _) | (with_reducible assumption) | (with_reducible exact Bw.out (by with_reducible assumption)) | (with_reducible refine bw_alloc ?_ _) | (with_reducible refine bw_step ?_ (by with_reducible assumption)) | (with_reducible refine Below.alloc ?_ ?_ _) | (with_reducible refine Below.drew ?_) | (with_reducible refine below_drewN ?_ _) | (with_reducible refine Below.setCell ?_ ?_ _) | (with_reducible refine below_step ?_ (by with_reducible assumption) ?_) | (with_reducible exact Nat.le_refl _) | omega | (simp; omega) | (simp; done))))) KS.out (SlI.nil _ _) HWF.out HCB.out).mono ?_
    rintro e w5 ⟨gm, rfl, hkm, hb5⟩
    have R_s_5 : Row w5 (w.heap.size) [.int .i64 (t : Int), .int .i64 wd, .slice ac nc cc, .slice as' ns cs] := by (repeat' (first | (with_reducible assumption) | (with_reducible refine Row.new' _ _ _ (by first | rfl | (simp; done) | omega)) | (with_reducible refine Row.alloc ?_ _) | (with_reducible refine Row.drew ?_) | (with_reducible refine Row.drewN ?_ _) | (with_reducible refine Row.step ?_ (by with_reducible assumption)) | (with_reducible refine Row.set2' ?_ _ _; first | exact ⟨_, _, by with_reducible assumption⟩ | exact ⟨_, _, Row.alloc (by with_reducible assumption) _⟩ | exact ⟨_, _, Row.alloc (Row.alloc (by with_reducible assumption) _) _⟩) | (with_reducible refine Row.other ?_ (by first | omega | (simp; done) | (simp; omega)) _)))
    have c_s_0_5 := R_s_5.cell 0 rfl
    have c_s_1_5 := R_s_5.cell 1 rfl
    have c_s_2_5 := R_s_5.cell 2 rfl
    have c_s_3_5 := R_s_5.cell 3 rfl
    have l_s_5 := R_s_5.lt
    have HB5 : Below w.heap.size w w5 := by (repeat' (first | (with_reducible exact Below.refl _ _) | (with_reducible assumption) | (with_reducible exact Bw.out (by with_reducible assumption)) | (with_reducible refine bw_alloc ?_ _) | (with_reducible refine bw_step ?_ (by with_reducible assumption)) | (with_reducible refine Below.alloc ?_ ?_ _) | (with_reducible refine Below.drew ?_) | (with_reducible refine below_drewN ?_ _) | (with_reducible refine Below.setCell ?_ ?_ _) | (with_reducible refine below_step ?_ (by with_reducible assumption) ?_) | (with_reducible exact Nat.le_refl _) | omega | (simp; omega) | (simp; done)))
    clear R_s_4 c_s_0_4 c_s_1_4 c_s_2_4 c_s_3_4 hb4 HB4
    have KM := Lib.hid hkm
    replace KS := Lib.hid (KS.out.step hb5)
    have HRS := Lib.hid R_s_5
    have HB := Lib.hid HB5
    clear hkm hmod hwY hwK hwK1 hb5 HB5
    go_wp2_with fail
    go_loop [73] (fun vi => ∃ k : Nat, k ≤ n ∧ vi = .int .i64 k) (fun vi => n - (intOf vi).toNat)
    case atStart => exact ⟨0, Nat.zero_le _, rfl⟩
    case round =>
      obtain ⟨k, hk, rfl⟩ := hrel
      by_cases hkn : k < n
      · obtain ⟨bm, om, m, e1, _, cm, gm2, _, _⟩ := KM.out.get hkn
        cases e1
        rw [Nat.zero_add] at cm
        have i1 : (0 : Int) ≤ (k : Int) := by omega
        have i2 : (k : Int) < (n : Int) := by omega
        have hm := HCNT.out k (by rw [HL.out]; exact hkn)
        rw [gm2.out] at hm
        clear gm2
        by_cases hkt : k = t
        · subst hkt
          obtain rfl : m = R := by rw [hm]; simp
          clear hm
          go_wp2_with fail
          go_round
          case rel => exact ⟨k + 1, by omega, by go_num⟩
          case measure => simp [intOf]; omega
        · obtain rfl : m = 0 := by rw [hm, if_neg (by omega)]
          have hb1 : ((k : Int) == (t : Int)) = false := by simp; omega
          have hb2 : ((k : Int) != (t : Int)) = true := by simp; omega
          clear hm hkt
          go_wp2_with fail
          go_round
          case rel => exact ⟨k + 1, by omega, by go_num⟩
          case measure => simp [intOf]; omega
      · obtain rfl : n = k := by omega
        have hmkm := @run_makeMap Try.prog
        go_wp2_with fail
        have HM0 : Hid (RMap (w5.alloc (.map #[] 0)) w5.heap.size []) := rmap_made _
        have HB6 : Hid (Below w5.heap.size w5 (w5.alloc (.map #[] 0))) := by show Below _ _ _; (repeat' (first | (with_reducible exact Below.refl _ _) | (with_reducible assumption) | (with_reducible exact Bw.out (by with_reducible assumption)) | (with_reducible refine bw_alloc ?_ _) | (with_reducible refine bw_step ?_ (by with_reducible assumption)) | (with_reducible refine Below.alloc ?_ ?_ _) | (with_reducible refine Below.drew ?_) | (with_reducible refine below_drewN ?_ _) | (with_reducible refine Below.setCell ?_ ?_ _) | (with_reducible refine below_step ?_ (by with_reducible assumption) ?_) | (with_reducible exact Nat.le_refl _) | omega | (simp; omega) | (simp; done)))
        have RS6 := HRS.out.step HB6.out
        generalize w5.alloc (.map #[] 0) = w6 at HM0 HB6 RS6 ⊢
        obtain ⟨Bm, hBm⟩ : ∃ g, w5.heap.size = g := ⟨_, rfl⟩
        have hsB : w.heap.size < Bm := by rw [← hBm]; exact HRS.out.lt
        rw [hBm] at HM0 HB6 ⊢
        have HBM := Lib.hid hBm
        have q2 := RS6.cell 2 rfl
        have lq := RS6.lt
        clear hBm hmkm RS6 R_s_5 c_s_0_5 c_s_1_5 c_s_2_5 c_s_3_5 l_s_5
        go_loopw [102] (fun vi wr => ∃ (k : Nat) (f : List (Int × Value)), k ≤ nc ∧ vi = .int .i64 k ∧ Hid (LeftK f zs ys k) ∧ Hid (RMap wr Bm f) ∧ Hid (Below Bm w5 wr)) (fun vi _ => nc - (intOf vi).toNat)
        case atStart => exact ⟨0, [], Nat.zero_le _, rfl, LeftK.start _ _, HM0.out, HB6.out⟩
        case round =>
          obtain ⟨k, f, hk, rfl, hF, hI, hB⟩ := hrel
          have hBw : Hid (Below w.heap.size w wr) := HB.out.trans (hB.out.mono (Nat.le_of_lt hsB))
          have hBmw : Bm < wr.heap.size := hI.out.lt
          have RSr := HRS.out.below hB.out hsB
          have q3 := RSr.cell 3 rfl
          have lq := RSr.lt
          by_cases hlt : k < nc
          · obtain ⟨b1, o1, c, e1, _, d1, h1, _, _⟩ := (HZ.out.below hBw.out).get hlt
            obtain ⟨b2, o2, u, e2, _, d2, h2, _, _⟩ := (HY.out.below hBw.out).get (show k < ns by rw [HNSC.out]; exact hlt)
            cases e1
            cases e2
            have i1 : (0 : Int) ≤ (k : Int) := by omega
            have i2 : (k : Int) < (nc : Int) := by omega
            have i3 : (k : Int) < (ns : Int) := by have := HNSC.out; omega
            have hp := hF.out.put HND.out (show k < zs.length by rw [HZL.out]; exact hlt)
            rw [h1.out, h2.out] at hp
            have HP := Lib.hid hp
            clear hp h1 h2 RSr q2
            go_wp2_with (at_mapUpdate; refine wpList_update_rmap _ rfl _ _ _ 40 (Or.inl rfl) 3 3 underlying_mapii Try.underlying3 Bm f rfl hI.out c (.int .i64 u) rfl rfl ?_; intro w7 hI7 hg7; have HI7 := Lib.hid hI7; have HG7 := Lib.hid hg7; clear hI7 hg7)
            have HB7 := Lib.hid (hB.out.grown HG7.out (Nat.le_of_lt hBmw) (fun k e => by cases e; exact Nat.le_refl _))
            go_wp2_with fail
            go_roundw
            case rel => exact ⟨k + 1, _, by omega, by go_num, HP.out, HI7.out, HB7.out⟩
            case measure => simp [intOf]; omega
          · obtain rfl : nc = k := by omega
            have HF0 : Hid (LeftF f zs ys (S.take 0)) := by show LeftF _ _ _ _; rw [List.take_zero]; exact hF.out.all HZL.out
            have HI0 := hI
            have HB0 := hB
            clear hF hI hB RSr q2 q3 lq hBmw
            go_wp2_with fail
            go_loopw [20, 117] (fun vh vi wr => ∃ (j : Nat) (f : List (Int × Value)), j ≤ N ∧ vh = .int .i64 ((heardC (S.take j) : Nat) : Int) ∧ vi = .int .i64 j ∧ Hid (LeftF f zs ys (S.take j)) ∧ Hid (RMap wr Bm f) ∧ Hid (Below Bm w5 wr)) (fun _ vi _ => N - (intOf vi).toNat)
            case atStart => exact ⟨0, f, Nat.zero_le _, by simp [heardC], rfl, HF0.out, HI0.out, HB0.out⟩
            case round =>
              obtain ⟨j, f, hj, rfl, rfl, hF, hI, hB⟩ := hrel
              have hBw3 : Hid (Below w.heap.size w wr) := HB.out.trans (hB.out.mono (Nat.le_of_lt hsB))
              have hsz : Bm ≤ wr.heap.size := Nat.le_of_lt hI.out.lt
              by_cases hjN : j < N
              · have hK5 : Below w5.heap.size w5 wr := by rw [HBM.out]; exact hB.out
                obtain ⟨x, bb, off, hxj, hab, _, c0, c1, c2, c3, c4, c5, c6, c7⟩ := (KS.out.step hK5).get hjN
                subst hab
                obtain ⟨ch, ct, e, hch, _⟩ := HG.out j x hxj.out
                subst e
                have HTK := Lib.hid (heardC_take hxj.out)
                have HTC := Lib.hid (fun c => chanC_take hxj.out c)
                have hhb : heardC (S.take j) ≤ 13000 := Nat.le_trans (List.length_filter_le _ _) (by rw [List.length_take]; omega)
                obtain ⟨z, hz⟩ : ∃ z, heardC (S.take j) = z := ⟨_, rfl⟩
                rw [hz] at HTK hhb
                try rw [hz]
                simp only [] at c0 c1 c2 c3 c4 c5 c6 c7 HTK HTC
                have i1 : (0 : Int) ≤ (j : Int) := by omega
                have i2 : (j : Int) < (N : Int) := by omega
                clear hxj hK5 hz
                go_upto_region 26 with fail
                have R6 : Row (wr.alloc (.cells #[.int .i64 ((j : Int) + 1), .int .i64 ch, .int .i64 ((j : Int) + 1), .bool ct, .int .i64 (1 + (K : Int)), .int .i64 (t : Int), .int .i64 ((t : Int) + 1), .int .i64 1] 44)) wr.heap.size [.int .i64 ((j : Int) + 1), .int .i64 ch, .int .i64 ((j : Int) + 1), .bool ct, .int .i64 (1 + (K : Int)), .int .i64 (t : Int), .int .i64 ((t : Int) + 1), .int .i64 1] := Row.new' _ _ _ rfl
                have hal : Below wr.heap.size wr (wr.alloc (.cells #[.int .i64 ((j : Int) + 1), .int .i64 ch, .int .i64 ((j : Int) + 1), .bool ct, .int .i64 (1 + (K : Int)), .int .i64 (t : Int), .int .i64 ((t : Int) + 1), .int .i64 1] 44)) := by (repeat' (first | (with_reducible exact Below.refl _ _) | (with_reducible assumption) | (with_reducible exact Bw.out (by with_reducible assumption)) | (with_reducible refine bw_alloc ?_ _) | (with_reducible refine bw_step ?_ (by with_reducible assumption)) | (with_reducible refine Below.alloc ?_ ?_ _) | (with_reducible refine Below.drew ?_) | (with_reducible refine below_drewN ?_ _) | (with_reducible refine Below.setCell ?_ ?_ _) | (with_reducible refine below_step ?_ (by with_reducible assumption) ?_) | (with_reducible exact Nat.le_refl _) | omega | (simp; omega) | (simp; done)))
                obtain ⟨w9, hw9⟩ : ∃ W, wr.alloc (.cells #[.int .i64 ((j : Int) + 1), .int .i64 ch, .int .i64 ((j : Int) + 1), .bool ct, .int .i64 (1 + (K : Int)), .int .i64 (t : Int), .int .i64 ((t : Int) + 1), .int .i64 1] 44) = W := ⟨_, rfl⟩
                rw [hw9] at R6 hal
                try rw [hw9]
                have HB9 : Hid (Below Bm w5 w9) := hB.out.trans (hal.mono hsz)
                have HI9 := Lib.hid (hI.out.below hal)
                obtain ⟨g9, hg9⟩ : ∃ g, wr.heap.size = g := ⟨_, rfl⟩
                rw [hg9] at R6
                try rw [hg9]
                have q0 := R6.cell 0 rfl
                have q1 := R6.cell 1 rfl
                have q2 := R6.cell 2 rfl
                have q3 := R6.cell 3 rfl
                have q4 := R6.cell 4 rfl
                have q5 := R6.cell 5 rfl
                have q6 := R6.cell 6 rfl
                have q7 := R6.cell 7 rfl
                have l9 := R6.lt
                have RSr := HRS.out.below HB9.out hsB
                have s0 := RSr.cell 0 rfl
                have ls := RSr.lt
                have hsz9 : Bm ≤ w9.heap.size := Nat.le_of_lt HI9.out.lt
                clear hw9 hal hg9 R6 c0 c1 c2 c3 c4 c5 c6 c7 RSr hB hI
                cases ct with
                | true =>
                  obtain ⟨qi, hq, hqe⟩ := mem_getD (hch rfl)
                  have hlo := hF.out.1 qi hq
                  have hub := HYB.out _ (getD_mem (show qi < ys.length by rw [HYL.out, HNSC.out, ← HZL.out]; exact hq))
                  have hcc : chanC (S.take j) (zs.getD qi 0) ≤ 13000 := Nat.le_trans (List.length_filter_le _ _) (by rw [List.length_take]; omega)
                  obtain ⟨v, hv⟩ : ∃ v, ys.getD qi 0 - (chanC (S.take j) (zs.getD qi 0) : Int) = v := ⟨_, rfl⟩
                  have hvb : -13000 ≤ v ∧ v ≤ 400 := by omega
                  obtain ⟨vb1, vb2⟩ := hvb
                  have HPF := Lib.hid (hF.out.put (T := S.take (j + 1)) (v := v - 1) HND.out hq (by rw [hv]) (fun c => by rw [HTC.out c, hqe]; simp))
                  have hlk : (Instr.lookup 40 (.map (some Bm)) (.int .i64 ch) false).run Try.prog w9 = .ok (.int .i64 v) w9 := by
                    have := run_lookup_imap (P := Try.prog) (w := w9) underlying_mapii Try.underlying3 HI9.out.imap (.int .i64 0) (zero_int w9) ch false
                    rw [this, ← hqe, hlo, hv]; rfl
                  have HHT : Hid (heardC (S.take (j + 1)) = z) := by show _ = _; rw [HTK.out]; simp
                  rw [hqe] at HPF
                  clear hqe hlo hub hcc hv hF HTC HTK hch
                  go_wp2_with (at_mapUpdate; refine wpList_update_rmap _ rfl _ _ _ 40 (Or.inl rfl) 3 3 underlying_mapii Try.underlying3 Bm f rfl HI9.out ch (.int .i64 (v - 1)) rfl rfl ?_; intro w10 hI7 hg7; have HI10 := Lib.hid hI7; have HG10 := Lib.hid hg7; clear hI7 hg7)
                  have HB10 := Lib.hid (HB9.out.grown HG10.out hsz9 (fun k e => by cases e; exact Nat.le_refl _))
                  go_wp2_with fail
                  go_roundw
                  case rel => exact ⟨j + 1, _, by omega, by rw [HHT.out], by go_num, HPF.out, HI10.out, HB10.out⟩
                  case measure => simp [intOf]; omega
                | false =>
                  have HPF := Lib.hid (hF.out.keep (T := S.take (j + 1)) (fun c => by rw [HTC.out c]; simp))
                  have HHT : Hid (heardC (S.take (j + 1)) = z + 1) := by show _ = _; rw [HTK.out]; simp
                  clear hF HTC HTK hch
                  go_wp2_with fail
                  go_roundw
                  case rel => exact ⟨j + 1, f, by omega, by rw [HHT.out]; go_num, by go_num, HPF.out, HI9.out, HB9.out⟩
                  case measure => simp [intOf]; omega
              · obtain rfl : N = j := by omega
                have hall : S.take N = S := List.take_of_length_le (by rw [HSL.out]; exact Nat.le_refl _)
                rw [hall] at hF ⊢
                rw [HH3.out]
                have hsd : ((sd.toNat : Nat) : Int) = sd := by omega
                rw [hsd]
                obtain ⟨es, c, hbm, hst, hent⟩ := hI.out.entries
                have HEN : Hid (∀ x ∈ es.toList, x.val = .int .i64 0) := fun x hx => by
                  obtain ⟨k, _, h2⟩ := hent x hx
                  exact hF.out.done HH2.out h2
                have hrg := run_range_map (P := Try.prog) wr 40 3 3 Bm es c underlying_mapii hbm
                have HIT : Hid (IterR (wr.alloc (.mapIter (some Bm) c #[] c)) wr.heap.size Bm es c #[]) := IterR.start hbm hst
                have HBI : Hid (Below wr.heap.size wr (wr.alloc (.mapIter (some Bm) c #[] c))) := by show Below _ _ _; (repeat' (first | (with_reducible exact Below.refl _ _) | (with_reducible assumption) | (with_reducible exact Bw.out (by with_reducible assumption)) | (with_reducible refine bw_alloc ?_ _) | (with_reducible refine bw_step ?_ (by with_reducible assumption)) | (with_reducible refine Below.alloc ?_ ?_ _) | (with_reducible refine Below.drew ?_) | (with_reducible refine below_drewN ?_ _) | (with_reducible refine Below.setCell ?_ ?_ _) | (with_reducible refine below_step ?_ (by with_reducible assumption) ?_) | (with_reducible exact Nat.le_refl _) | omega | (simp; omega) | (simp; done)))
                have hBw4 := hBw3
                have HB5z := hB
                clear hall hsd hbm hst hent hF hI hB HF0 HI0 HB0 hBw
                go_wp2_with fail
                generalize wr.alloc (.mapIter (some Bm) c #[] c) = wi at HIT HBI ⊢
                obtain ⟨wz, hwz⟩ : ∃ W, W = wr := ⟨_, rfl⟩
                subst hwz
                go_loopw [7] (fun up wr => ∃ seen : Array Nat, up = .bool true ∧ Hid (IterR wr wz.heap.size Bm es c seen) ∧ Hid (Below wz.heap.size wz wr)) (fun _ wr => (leftOf es (wr.iterSeen wz.heap.size)).size)
                case atStart => exact ⟨#[], rfl, HIT.out, HBI.out⟩
                case round =>
                  obtain ⟨seen, rfl, hIt, hB⟩ := hrel
                  rcases hIt.out.step (P := Try.prog) with ⟨h0, hrun⟩ | ⟨e, he, w11, hrun, hit2, hbel, hen, hlt⟩
                  · have hBf : Hid (Below w.heap.size w wr) := hBw4.out.trans (hB.out.mono hBw4.out.size)
                    obtain ⟨x, bb, off, hx, _, _, hab, _, c0, c1, c2⟩ := (HS.out.below hBf.out).get htn
                    subst hab
                    have hxe : x = ⟨rm, sd, sa, sn, sc, sz⟩ := by
                      have := HX.out
                      rw [Int.toNat_natCast, hx] at this
                      exact Option.some.inj this
                    subst hxe
                    simp only [] at c1
                    have RSr := HRS.out.below (HB5z.out.trans (hB.out.mono hsz)) hsB
                    have s0 := RSr.cell 0 rfl
                    have ls := RSr.lt
                    have i1 : (0 : Int) ≤ (t : Int) := by omega
                    have i2 : (t : Int) < (n : Int) := by omega
                    clear hx RSr h0 hIt hB
                    go_wp2_with fail
                    go_ret
                    exact ⟨rfl, hBf.out⟩
                  · have hval := HEN.out e he
                    rw [hval] at hrun hen
                    have HIT2 := Lib.hid hit2
                    have HB2 := Lib.hid (hbel _ _ (Nat.le_refl _) hB.out)
                    have HLT := Lib.hid hlt
                    clear hit2 hbel hlt hIt hB hval
                    go_wp2_with fail
                    go_roundw
                    case rel => exact ⟨seen.push e.born, rfl, HIT2.out, HB2.out⟩
                    case measure => exact HLT.out


set_option maxRecDepth 100000 in
theorem sceneSales_lifted (os : Os) (started : os.Started) (H : Type) (enc : TypeId × Value → H) :
    ReturnsInHanded {} Try.checked os 4 .any (Rows.sceneSalesSpec.pre6 enc Try.prog Try.f4 Rows.sceneSalesRow.domain false) (Rows.sceneSalesSpec.post enc Try.prog Try.f4 false true false false) := by
  refine returnsInHanded_of_change (C := Try.checked) own started (by kernel_rfl) Try.func4
    (ChangeSpec.witness6 (enc := enc) (C := Try.checked) false ⟨#[], #[.slice none 0 0, .agg #[.int .i64 0, .int .i64 0, .slice none 0 0, .slice none 0 0], .int .u8 0], []⟩ 8 (by kernel_rfl) (by kernel_rfl) (by kernel_rfl) (by kernel_rfl)) ?_
  intro W base args ds gs before hval0 hW _ _
  have hval : ∀ (j : Nat) t v, Try.f4.params[j]? = some t → args[j]? = some v → Value.okWide Try.prog W .any base t v := hval0
  have hW' := hW
  obtain ⟨p, q, hA0, hV, rfl, hfz, hnd⟩ := hW
  obtain ⟨rfl, rfl⟩ := trodVars_none hV
  have hA : DataW.TrodAll enc Try.prog W 0 (fun _ => true) true Try.f4.params.toList args.toList ds p := hA0
  rw [Try.params4] at hA hval
  obtain ⟨v0, vs0, d0, ds0, p0, q0, hargs, rfl, rfl, h0, r0⟩ := trodAll_cons hA
  obtain ⟨v1, vs1, d1, ds1, p1, q1, rfl, rfl, rfl, h1, r1⟩ := trodAll_cons r0
  obtain ⟨v2, vs2, d2, ds2, p2, q2, rfl, rfl, rfl, h2, r2⟩ := trodAll_cons r1
  obtain ⟨rfl, rfl, rfl⟩ := trodAll_nil r2
  obtain rfl : args = #[v0, v1, v2] := by cases args; simp_all
  obtain ⟨a0_l, n0_l, c0_l, rfl⟩ := okWide_slice Try.underlying22 (hval 0 22 v0 rfl rfl)
  obtain ⟨fu_l, hf_l⟩ := h0
  obtain ⟨a_l, n_l, c_l, l_l, e_l, g1_l, g2_l, hs_l, wf_l⟩ := sln_of_nights (by simpa [Value.cells] using hf_l)
  cases e_l
  obtain ⟨nt_s, wd_s, ac_s, nc_s, cc_s, zs_s, as_s, ns_s, cs_s, ys_s, rfl, hs_s, wf_s⟩ := scene_of (hval 1 25 v1 rfl rfl) h1
  obtain ⟨y, rfl, rfl, rfl, wy⟩ := open_int Try.underlying5 (hval 2 5 v2 rfl rfl) h2
  clear hA0 hval0
  refine (scsales_walk _ _ _ l_l nt_s wd_s _ _ _ zs_s _ _ _ ys_s y wf_l wf_s wy W ⟨hs_l, g1_l, g2_l⟩ hs_s).mono fun e W' ⟨he, hb⟩ => ?_
  subst he
  exact ⟨_, rfl, law_post (B := 4) laidOut (by rw [Try.params4]; simp only [List.mem_cons, List.not_mem_nil, or_false, forall_eq_or_imp, forall_eq]; first | exact readable_sceneSales | (repeat' apply And.intro) <;> first | exact of_decide_eq_true (by kernel_rfl) | kernel_rfl) rfl Try.underlying4 rfl rfl hW' hb⟩

theorem sceneSales_over : Rows.sceneSalesRow.holds Try.pinned (OpenSpec.ofChange Rows.sceneSalesSpec) :=
  OpenClaim.holds_of_wide 4 Try.f4 rfl rfl rfl rfl rfl rfl rfl ⟨rfl, rfl, rfl, rfl, rfl⟩ rfl rfl rfl rfl rfl (by kernel_rfl) Try.func4 (by kernel_rfl)
    (of_decide_eq_true (by kernel_rfl)) (by unfold Func.isWrapper; first | (rw [if_pos (by decide +kernel)]; kernel_rfl) | (rw [if_neg (by decide +kernel)]; exact ⟨rfl, rfl⟩))
    (fun os started H enc _ => sceneSales_lifted os started H enc)

theorem sceneSales_holds : Rows.SceneSalesSaid := sceneSales_over
#print axioms sceneSales_holds

end Go.Proofs.Ytdijdfhlmnhcjaa
