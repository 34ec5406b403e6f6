/-
  SceneMatchesReference: for any nights, scenes, sales and integers, valid or not, all functions return what the reference implementation returns.
  No condition: for every input.
-/
import Derived.Test.YtdijdfhlmnhcjaaScnT
import Derived.Test.YtdijdfhlmnhcjaaScnQ
namespace Go.Proofs.Ytdijdfhlmnhcjaa
set_option linter.unusedSimpArgs false
set_option linter.unusedVariables false
open Go.ChangeShapes Go.WideShapes Go.ChangeAt Go.RowKit Go.MapKept

set_option maxRecDepth 100000 in
set_option maxHeartbeats 1600000 in
theorem R_SameSales25 (a b : Option Addr) (n cap cap2 : Nat) (S : List SaleV) (w : World) (hn : n ≤ 9223372036854775807) (hs : SlS w a n S) (ht : SlS w b n S) :
    Calls Try.prog 17 #[.slice a n cap, .slice b n cap2] w fun e w' => e = .returned (.bool true) ∧ Below w.heap.size w w' := by
  have HS := Lib.hid hs
  have HT := Lib.hid ht
  clear hs ht
  go_enter Try.func17, Try.ntmps17
  go_wp2_with fail
  go_loopw [5] (fun i wr => ∃ k : Nat, k ≤ n ∧ i = .int .i64 k ∧ Hid (Below w.heap.size w wr)) (fun i _ => n - (intOf i).toNat)
  case atStart => exact ⟨0, Nat.zero_le _, rfl, Below.refl _ _⟩
  case round =>
    obtain ⟨k, hk, rfl, hB⟩ := hrel
    by_cases hlt : k < n
    · obtain ⟨x, b1, o1, hx, e1, _, c0, c1, c2, c3, c4, c5, c6, c7⟩ := (HS.out.step hB.out).get hlt
      obtain ⟨y, b2, o2, hy, e2, _, d0, d1, d2, d3, d4, d5, d6, d7⟩ := (HT.out.step hB.out).get hlt
      subst e1 e2
      have hxy : y = x := Option.some.inj (hy.out.symm.trans hx.out)
      subst hxy
      obtain ⟨id, ch, tm, ct, kd, fr, un, pe⟩ := y
      simp only [] at c0 c1 c2 c3 c4 c5 c6 c7 d0 d1 d2 d3 d4 d5 d6 d7
      have i1 : (0 : Int) ≤ (k : Int) := by omega
      have i2 : (k : Int) < (n : Int) := by omega
      clear hx hy
      go_wp2_with fail
      go_quiet (fail)
      go_wp2_with fail
      go_roundw
      case rel => exact ⟨k + 1, by omega, by go_num, by show Below _ _ _; exact below_drewN hB.out _⟩
      case measure => simp [intOf]; omega
    · obtain rfl : n = k := by omega
      go_wp2_with fail
      go_ret
      exact ⟨rfl, hB.out⟩

/-- The answers, valid or not. -/
def runV (l : List NightV) (nt wd : Int) (zs ys : List Int) : Int := if openB l nt wd zs ys = true then runI l nt ys else 0
def errV (b : Bool) : Int := if b = true then 0 else 1
def salV (l : List NightV) (nt wd kd : Int) (zs ys : List Int) : List SaleV := if (openB l nt wd zs ys && inR kd 1 20) = true then salesX l nt kd zs ys else []
def cntV (l : List NightV) (S : List SaleV) (A : List Int) : List Int := if cntB l S A = true then cntL l S A else []

section
variable (a : Option Addr) (n cap : Nat) (l : List NightV) (nt wd : Int) (ac : Option Addr) (nc cc : Nat) (zs : List Int) (as' : Option Addr) (ns cs : Nat) (ys : List Int) (w : World)
theorem Run_v (hn : n ≤ 9223372036854775807) (hnc : nc ≤ 9223372036854775807) (hns : ns ≤ 9223372036854775807) (hs : SlN w a n l) (hz : SlI w ac nc zs) (hy : SlI w as' ns ys) (R E : Int) (hR : runV l nt wd zs ys = R) (hE : errV (openB l nt wd zs ys) = E) :
    Calls Try.prog 11 #[.slice a n cap, .agg #[.int .i64 nt, .int .i64 wd, .slice ac nc cc, .slice as' ns cs]] w fun e w' => e = .returned (.tuple #[.int .i64 R, .int .i64 E]) ∧ Below w.heap.size w w' := by
  subst hR hE
  cases hb : openB l nt wd zs ys with
  | false => unfold runV; rw [hb]; exact Run_no a n cap l nt wd ac nc cc zs as' ns cs ys w hn hnc hns hs hz hy hb
  | true => unfold runV; rw [hb]; exact Run_ok a n cap l nt wd ac nc cc zs as' ns cs ys w hn hnc hns hs hz hy hb _ rfl
theorem R_Run_v (hn : n ≤ 9223372036854775807) (hnc : nc ≤ 9223372036854775807) (hns : ns ≤ 9223372036854775807) (hs : SlN w a n l) (hz : SlI w ac nc zs) (hy : SlI w as' ns ys) (R E : Int) (hR : runV l nt wd zs ys = R) (hE : errV (openB l nt wd zs ys) = E) :
    Calls Try.prog 12 #[.slice a n cap, .agg #[.int .i64 nt, .int .i64 wd, .slice ac nc cc, .slice as' ns cs]] w fun e w' => e = .returned (.tuple #[.int .i64 R, .int .i64 E]) ∧ Below w.heap.size w w' := by
  subst hR hE
  cases hb : openB l nt wd zs ys with
  | false => unfold runV; rw [hb]; exact R_Run_no25 a n cap l nt wd ac nc cc zs as' ns cs ys w hn hnc hns hs hz hy hb
  | true => unfold runV; rw [hb]; exact R_Run_ok25 a n cap l nt wd ac nc cc zs as' ns cs ys w hn hnc hns hs hz hy hb _ rfl
theorem Sales_v (kd : Int) (hn : n ≤ 9223372036854775807) (hnc : nc ≤ 9223372036854775807) (hns : ns ≤ 9223372036854775807) (hs : SlN w a n l) (hz : SlI w ac nc zs) (hy : SlI w as' ns ys) (X : List SaleV) (N : Nat) (E : Int) (hX : salV l nt wd kd zs ys = X) (hN : X.length = N) (hE : errV (openB l nt wd zs ys && inR kd 1 20) = E) :
    Calls Try.prog 15 #[.slice a n cap, .agg #[.int .i64 nt, .int .i64 wd, .slice ac nc cc, .slice as' ns cs], .int .i64 kd] w fun e w' => ∃ ad cp, e = .returned (.tuple #[.slice ad N cp, .int .i64 E]) ∧ SlS w' ad N X ∧ Below w.heap.size w w' := by
  subst hX hE
  cases hb : (openB l nt wd zs ys && inR kd 1 20) with
  | false =>
    have e : salV l nt wd kd zs ys = [] := by unfold salV; rw [hb]; rfl
    rw [e] at hN ⊢
    have hN0 : N = 0 := hN.symm
    subst hN0
    refine (Sales_no a n cap l nt wd ac nc cc zs as' ns cs ys kd w hn hnc hns hs hz hy hb).mono ?_
    rintro e w' ⟨rfl, hbl⟩
    exact ⟨none, 0, rfl, SlS.nil _ _, hbl⟩
  | true =>
    have e : salV l nt wd kd zs ys = salesX l nt kd zs ys := by unfold salV; rw [hb]; rfl
    rw [e] at hN ⊢
    refine (Sales_ok a n cap l nt wd ac nc cc zs as' ns cs ys kd w hn hnc hns hs hz hy hb).mono ?_
    rintro e w' ⟨v, base, rfl, hv, _, hb⟩
    obtain ⟨ad, cp, rfl, hv⟩ := hv.shape N hN
    exact ⟨ad, cp, rfl, hv.sl.1, hb⟩
theorem R_Sales_v (kd : Int) (hn : n ≤ 9223372036854775807) (hnc : nc ≤ 9223372036854775807) (hns : ns ≤ 9223372036854775807) (hs : SlN w a n l) (hz : SlI w ac nc zs) (hy : SlI w as' ns ys) (X : List SaleV) (N : Nat) (E : Int) (hX : salV l nt wd kd zs ys = X) (hN : X.length = N) (hE : errV (openB l nt wd zs ys && inR kd 1 20) = E) :
    Calls Try.prog 16 #[.slice a n cap, .agg #[.int .i64 nt, .int .i64 wd, .slice ac nc cc, .slice as' ns cs], .int .i64 kd] w fun e w' => ∃ ad cp, e = .returned (.tuple #[.slice ad N cp, .int .i64 E]) ∧ SlS w' ad N X ∧ Below w.heap.size w w' := by
  subst hX hE
  cases hb : (openB l nt wd zs ys && inR kd 1 20) with
  | false =>
    have e : salV l nt wd kd zs ys = [] := by unfold salV; rw [hb]; rfl
    rw [e] at hN ⊢
    have hN0 : N = 0 := hN.symm
    subst hN0
    refine (R_Sales_no25 a n cap l nt wd ac nc cc zs as' ns cs ys kd w hn hnc hns hs hz hy hb).mono ?_
    rintro e w' ⟨rfl, hbl⟩
    exact ⟨none, 0, rfl, SlS.nil _ _, hbl⟩
  | true =>
    have e : salV l nt wd kd zs ys = salesX l nt kd zs ys := by unfold salV; rw [hb]; rfl
    rw [e] at hN ⊢
    exact R_Sales_ok25 a n cap l nt wd ac nc cc zs as' ns cs ys kd w hn hnc hns hs hz hy hb N hN
end
section
variable (a : Option Addr) (n cap : Nat) (l : List NightV) (b : Option Addr) (m bcap : Nat) (S : List SaleV) (c : Option Addr) (q ccap : Nat) (A : List Int) (w : World)
theorem Count_v (hn : n ≤ 9223372036854775807) (hm : m ≤ 9223372036854775807) (hq : q ≤ 9223372036854775807) (hs : SlN w a n l) (ht : SlS w b m S) (hu : SlI w c q A) (hwf : ∀ x ∈ S, SaleWf x) (Z : List Int) (M : Nat) (E : Int) (hZ : cntV l S A = Z) (hM : Z.length = M) (hE : errV (cntB l S A) = E) :
    Calls Try.prog 18 #[.slice a n cap, .slice b m bcap, .slice c q ccap] w fun e w' => ∃ ad cp, e = .returned (.tuple #[.slice ad M cp, .int .i64 E]) ∧ SlI w' ad M Z ∧ Below w.heap.size w w' := by
  subst hZ hE
  cases hb : cntB l S A with
  | false =>
    have e : cntV l S A = [] := by unfold cntV; rw [hb]; rfl
    rw [e] at hM ⊢
    have hM0 : M = 0 := hM.symm
    subst hM0
    refine (Count_err a n cap l b m bcap S c q ccap A w hn hm hq hs ht hu (wf_fr hwf) hb).mono ?_
    rintro e w' ⟨rfl, hbl⟩
    exact ⟨none, 0, rfl, SlI.nil _ _, hbl⟩
  | true =>
    have e : cntV l S A = cntL l S A := by unfold cntV; rw [hb]; rfl
    rw [e] at hM ⊢
    rw [cntL_length, hs.1] at hM
    subst hM
    refine (Count_c a n cap l b m bcap S c q ccap A w hs ht hu hwf hb).mono ?_
    rintro e w' ⟨g, rfl, h1, h2⟩
    exact ⟨_, _, rfl, h1, h2⟩
theorem R_Count_v (hn : n ≤ 9223372036854775807) (hm : m ≤ 9223372036854775807) (hq : q ≤ 9223372036854775807) (hs : SlN w a n l) (ht : SlS w b m S) (hu : SlI w c q A) (Z : List Int) (M : Nat) (E : Int) (hZ : cntV l S A = Z) (hM : Z.length = M) (hE : errV (cntB l S A) = E) :
    Calls Try.prog 19 #[.slice a n cap, .slice b m bcap, .slice c q ccap] w fun e w' => ∃ ad cp, e = .returned (.tuple #[.slice ad M cp, .int .i64 E]) ∧ SlI w' ad M Z ∧ Below w.heap.size w w' := by
  subst hZ hE
  cases hb : cntB l S A with
  | false =>
    have e : cntV l S A = [] := by unfold cntV; rw [hb]; rfl
    rw [e] at hM ⊢
    have hM0 : M = 0 := hM.symm
    subst hM0
    refine (R_Count_err a n cap l b m bcap S c q ccap A w hn hm hq hs ht hu hb).mono ?_
    rintro e w' ⟨rfl, hbl⟩
    exact ⟨none, 0, rfl, SlI.nil _ _, hbl⟩
  | true =>
    have e : cntV l S A = cntL l S A := by unfold cntV; rw [hb]; rfl
    rw [e] at hM ⊢
    rw [cntL_length, hs.1] at hM
    subst hM
    exact R_Count_ok a n cap l b m bcap S c q ccap A w hs ht hu hb
end
theorem salV_length (l : List NightV) (nt wd kd : Int) (zs ys : List Int) : (salV l nt wd kd zs ys).length ≤ 9223372036854775807 := by
  unfold salV
  split
  · rename_i h
    rw [Bool.and_eq_true] at h
    have := (salesB_in (sales_right h.1 h.2)).2.2
    omega
  · simp
theorem cntV_length (l : List NightV) (S : List SaleV) (A : List Int) (h : l.length ≤ 9223372036854775807) : (cntV l S A).length ≤ 9223372036854775807 := by
  unfold cntV
  split
  · rw [cntL_length]; exact h
  · simp

set_option maxRecDepth 100000 in
set_option maxHeartbeats 12800000 in
theorem scmat_walk (a : Option Addr) (n cap : Nat) (l : List NightV) (nt wd : Int) (ac : Option Addr) (nc cc : Nat) (zs : List Int) (as' : Option Addr) (ns cs : Nat) (ys : List Int) (kd : Int) (b : Option Addr) (m bcap : Nat) (S : List SaleV) (vA : Value) (A : List Int)
    (_ : ∀ x ∈ l, NightWf x) (_ : ScnWf nt wd zs ys) (_ : (Lit.int .i64 kd).wf = true) (hwS : ∀ x ∈ S, SaleWf x) (_ : ∀ z ∈ A, -9223372036854775808 ≤ z ∧ z ≤ 9223372036854775807) (w : World)
    (hl : SlN w a n l ∧ n ≤ cap ∧ cap ≤ maxLen) (hSc : ScnIn w nt wd ac nc cc zs as' ns cs ys) (hS : SlS w b m S ∧ m ≤ bcap ∧ bcap ≤ maxLen) (hA : SlV w vA A) :
    Calls Try.prog 3 #[.slice a n cap, .agg #[.int .i64 nt, .int .i64 wd, .slice ac nc cc, .slice as' ns cs], .int .i64 kd, .slice b m bcap, vA] w fun e w' => e = .returned (.bool true) ∧ Below w.heap.size w w' := by
  obtain ⟨hs, k1, k2⟩ := hl
  obtain ⟨hz, hy, k3, k4, k5, k6⟩ := hSc
  obtain ⟨ht, k7, k8⟩ := hS
  obtain ⟨c, ccap, rfl, hu, k9, k10⟩ := hA
  unfold maxLen at k2 k4 k6 k8 k10
  have HS := Lib.hid hs
  have HZ := Lib.hid hz
  have HY := Lib.hid hy
  have HT := Lib.hid ht
  have HU := Lib.hid hu
  have HW := Lib.hid hwS
  have HL := Lib.hid hs.1
  have HTL := Lib.hid ht.1
  obtain ⟨q, hq0⟩ : ∃ q, A.length = q := ⟨_, rfl⟩
  have HUL := Lib.hid hq0
  rw [hq0] at HU k9 ⊢
  have hn : n ≤ 9223372036854775807 := by omega
  have hnc : nc ≤ 9223372036854775807 := by omega
  have hns : ns ≤ 9223372036854775807 := by omega
  have hm : m ≤ 9223372036854775807 := by omega
  have hq : q ≤ 9223372036854775807 := by omega
  clear hs hz hy ht hu hwS hq0 k1 k2 k3 k4 k5 k6 k7 k8 k9 k10
  cases hF : fewB l S A with
  | false =>
    go_enter Try.func3, Try.ntmps3
    go_wp2_with fail
    refine (s_head_any _).mono ?_
    rintro e w1 ⟨rfl, hb1⟩
    have R_s_1 : Row w1 (w.heap.size) [.int .i64 nt, .int .i64 wd, .slice ac nc cc, .slice as' ns cs] := by (repeat' (first | (with_reducible assumption) | (with_reducible refine Row.new' _ _ _ (by first | rfl | (simp; done) | omega)) | (with_reducible refine Row.alloc ?_ _) | (with_reducible refine Row.drew ?_) | (with_reducible refine Row.drewN ?_ _) | (with_reducible refine Row.step ?_ (by with_reducible assumption)) | (with_reducible refine Row.set2' ?_ _ _; first | exact ⟨_, _, by with_reducible assumption⟩ | exact ⟨_, _, Row.alloc (by with_reducible assumption) _⟩ | exact ⟨_, _, Row.alloc (Row.alloc (by with_reducible assumption) _) _⟩) | (with_reducible refine Row.other ?_ (by first | omega | (simp; done) | (simp; omega)) _)))
    have c_s_0_1 := R_s_1.cell 0 rfl
    have c_s_1_1 := R_s_1.cell 1 rfl
    have c_s_2_1 := R_s_1.cell 2 rfl
    have c_s_3_1 := R_s_1.cell 3 rfl
    have l_s_1 := R_s_1.lt
    have HB1 : Below w.heap.size w w1 := by (repeat' (first | (with_reducible exact Below.refl _ _) | (with_reducible assumption) | (with_reducible exact Bw.out (by with_reducible assumption)) | (with_reducible refine bw_alloc ?_ _) | (with_reducible refine bw_step ?_ (by with_reducible assumption)) | (with_reducible refine Below.alloc ?_ ?_ _) | (with_reducible refine Below.drew ?_) | (with_reducible refine below_drewN ?_ _) | (with_reducible refine Below.setCell ?_ ?_ _) | (with_reducible refine below_step ?_ (by with_reducible assumption) ?_) | (with_reducible exact Nat.le_refl _) | omega | (simp; omega) | (simp; done)))
    go_wp2_with fail
    refine (R_Few25 a n cap l b m bcap S c _ ccap A _ hn hm hq (HS.out.below (by (repeat' (first | (with_reducible exact Below.refl _ _) | (with_reducible assumption) | (with_reducible exact Bw.out (by with_reducible assumption)) | (with_reducible refine bw_alloc ?_ _) | (with_reducible refine bw_step ?_ (by with_reducible assumption)) | (with_reducible refine Below.alloc ?_ ?_ _) | (with_reducible refine Below.drew ?_) | (with_reducible refine below_drewN ?_ _) | (with_reducible refine Below.setCell ?_ ?_ _) | (with_reducible refine below_step ?_ (by with_reducible assumption) ?_) | (with_reducible exact Nat.le_refl _) | omega | (simp; omega) | (simp; done))))) HTL.out HUL.out _ hF).mono ?_
    rintro e w' ⟨rfl, hw'⟩
    rw [hw']
    clear hw' w'
    go_wp2_with fail
    go_ret
    refine ⟨(by first | rfl | exact ret_bool (by first | rfl | (simp; done) | (simp; omega))), ?_⟩
    (repeat' (first | (with_reducible exact Below.refl _ _) | (with_reducible assumption) | (with_reducible exact Bw.out (by with_reducible assumption)) | (with_reducible refine bw_alloc ?_ _) | (with_reducible refine bw_step ?_ (by with_reducible assumption)) | (with_reducible refine Below.alloc ?_ ?_ _) | (with_reducible refine Below.drew ?_) | (with_reducible refine below_drewN ?_ _) | (with_reducible refine Below.setCell ?_ ?_ _) | (with_reducible refine below_step ?_ (by with_reducible assumption) ?_) | (with_reducible exact Nat.le_refl _) | omega | (simp; omega) | (simp; done)))
  | true =>
    by_cases h1 : nc ≤ 40
    · have i1 : ¬ (40 : Int) < (nc : Int) := by omega
      by_cases h2 : ns ≤ 40
      · have i2 : ¬ (40 : Int) < (ns : Int) := by omega
        obtain ⟨R, hR⟩ : ∃ R, runV l nt wd zs ys = R := ⟨_, rfl⟩
        obtain ⟨E, hE⟩ : ∃ E, errV (openB l nt wd zs ys) = E := ⟨_, rfl⟩
        obtain ⟨O, hO⟩ : ∃ O, openB l nt wd zs ys = O := ⟨_, rfl⟩
        obtain ⟨X, hX⟩ : ∃ X, salV l nt wd kd zs ys = X := ⟨_, rfl⟩
        obtain ⟨N, hN⟩ : ∃ N, X.length = N := ⟨_, rfl⟩
        obtain ⟨E2, hE2⟩ : ∃ E, errV (openB l nt wd zs ys && inR kd 1 20) = E := ⟨_, rfl⟩
        obtain ⟨Z, hZ⟩ : ∃ Z, cntV l S A = Z := ⟨_, rfl⟩
        obtain ⟨M, hM⟩ : ∃ M, Z.length = M := ⟨_, rfl⟩
        obtain ⟨E3, hE3⟩ : ∃ E, errV (cntB l S A) = E := ⟨_, rfl⟩
        have hNb : N ≤ 9223372036854775807 := by rw [← hN, ← hX]; exact salV_length _ _ _ _ _ _
        have hMb : M ≤ 9223372036854775807 := by rw [← hM, ← hZ]; exact cntV_length _ _ _ (by rw [HL.out]; exact hn)
        have HR := Lib.hid hR
        have HE := Lib.hid hE
        have HO := Lib.hid hO
        have HX := Lib.hid hX
        have HN := Lib.hid hN
        have HE2 := Lib.hid hE2
        have HZZ := Lib.hid hZ
        have HM := Lib.hid hM
        have HE3 := Lib.hid hE3
        clear hR hE hO hX hN hE2 hZ hM hE3
        go_enter Try.func3, Try.ntmps3
        go_wp2_with fail
        refine (s_head_any _).mono ?_
        rintro e w1 ⟨rfl, hb1⟩
        have R_s_1 : Row w1 (w.heap.size) [.int .i64 nt, .int .i64 wd, .slice ac nc cc, .slice as' ns cs] := by (repeat' (first | (with_reducible assumption) | (with_reducible refine Row.new' _ _ _ (by first | rfl | (simp; done) | omega)) | (with_reducible refine Row.alloc ?_ _) | (with_reducible refine Row.drew ?_) | (with_reducible refine Row.drewN ?_ _) | (with_reducible refine Row.step ?_ (by with_reducible assumption)) | (with_reducible refine Row.set2' ?_ _ _; first | exact ⟨_, _, by with_reducible assumption⟩ | exact ⟨_, _, Row.alloc (by with_reducible assumption) _⟩ | exact ⟨_, _, Row.alloc (Row.alloc (by with_reducible assumption) _) _⟩) | (with_reducible refine Row.other ?_ (by first | omega | (simp; done) | (simp; omega)) _)))
        have c_s_0_1 := R_s_1.cell 0 rfl
        have c_s_1_1 := R_s_1.cell 1 rfl
        have c_s_2_1 := R_s_1.cell 2 rfl
        have c_s_3_1 := R_s_1.cell 3 rfl
        have l_s_1 := R_s_1.lt
        have HB1 : Below w.heap.size w w1 := by (repeat' (first | (with_reducible exact Below.refl _ _) | (with_reducible assumption) | (with_reducible exact Bw.out (by with_reducible assumption)) | (with_reducible refine bw_alloc ?_ _) | (with_reducible refine bw_step ?_ (by with_reducible assumption)) | (with_reducible refine Below.alloc ?_ ?_ _) | (with_reducible refine Below.drew ?_) | (with_reducible refine below_drewN ?_ _) | (with_reducible refine Below.setCell ?_ ?_ _) | (with_reducible refine below_step ?_ (by with_reducible assumption) ?_) | (with_reducible exact Nat.le_refl _) | omega | (simp; omega) | (simp; done)))
        go_wp2_with fail
        refine (R_Few25 a n cap l b m bcap S c _ ccap A _ hn hm hq (HS.out.below (by (repeat' (first | (with_reducible exact Below.refl _ _) | (with_reducible assumption) | (with_reducible exact Bw.out (by with_reducible assumption)) | (with_reducible refine bw_alloc ?_ _) | (with_reducible refine bw_step ?_ (by with_reducible assumption)) | (with_reducible refine Below.alloc ?_ ?_ _) | (with_reducible refine Below.drew ?_) | (with_reducible refine below_drewN ?_ _) | (with_reducible refine Below.setCell ?_ ?_ _) | (with_reducible refine below_step ?_ (by with_reducible assumption) ?_) | (with_reducible exact Nat.le_refl _) | omega | (simp; omega) | (simp; done))))) HTL.out HUL.out _ hF).mono ?_
        rintro e w' ⟨rfl, hw'⟩
        rw [hw']
        clear hw' w'
        go_wp2_with fail
        refine (Run_v a n cap l nt wd ac nc cc zs as' ns cs ys _ hn hnc hns (HS.out.below (by (repeat' (first | (with_reducible exact Below.refl _ _) | (with_reducible assumption) | (with_reducible exact Bw.out (by with_reducible assumption)) | (with_reducible refine bw_alloc ?_ _) | (with_reducible refine bw_step ?_ (by with_reducible assumption)) | (with_reducible refine Below.alloc ?_ ?_ _) | (with_reducible refine Below.drew ?_) | (with_reducible refine below_drewN ?_ _) | (with_reducible refine Below.setCell ?_ ?_ _) | (with_reducible refine below_step ?_ (by with_reducible assumption) ?_) | (with_reducible exact Nat.le_refl _) | omega | (simp; omega) | (simp; done))))) (HZ.out.below (by (repeat' (first | (with_reducible exact Below.refl _ _) | (with_reducible assumption) | (with_reducible exact Bw.out (by with_reducible assumption)) | (with_reducible refine bw_alloc ?_ _) | (with_reducible refine bw_step ?_ (by with_reducible assumption)) | (with_reducible refine Below.alloc ?_ ?_ _) | (with_reducible refine Below.drew ?_) | (with_reducible refine below_drewN ?_ _) | (with_reducible refine Below.setCell ?_ ?_ _) | (with_reducible refine below_step ?_ (by with_reducible assumption) ?_) | (with_reducible exact Nat.le_refl _) | omega | (simp; omega) | (simp; done))))) (HY.out.below (by (repeat' (first | (with_reducible exact Below.refl _ _) | (with_reducible assumption) | (with_reducible exact Bw.out (by with_reducible assumption)) | (with_reducible refine bw_alloc ?_ _) | (with_reducible refine bw_step ?_ (by with_reducible assumption)) | (with_reducible refine Below.alloc ?_ ?_ _) | (with_reducible refine Below.drew ?_) | (with_reducible refine below_drewN ?_ _) | (with_reducible refine Below.setCell ?_ ?_ _) | (with_reducible refine below_step ?_ (by with_reducible assumption) ?_) | (with_reducible exact Nat.le_refl _) | omega | (simp; omega) | (simp; done))))) R E HR.out HE.out).mono ?_
        rintro e w2 ⟨rfl, hb2⟩
        have R_s_2 : Row w2 (w.heap.size) [.int .i64 nt, .int .i64 wd, .slice ac nc cc, .slice as' ns cs] := by (repeat' (first | (with_reducible assumption) | (with_reducible refine Row.new' _ _ _ (by first | rfl | (simp; done) | omega)) | (with_reducible refine Row.alloc ?_ _) | (with_reducible refine Row.drew ?_) | (with_reducible refine Row.drewN ?_ _) | (with_reducible refine Row.step ?_ (by with_reducible assumption)) | (with_reducible refine Row.set2' ?_ _ _; first | exact ⟨_, _, by with_reducible assumption⟩ | exact ⟨_, _, Row.alloc (by with_reducible assumption) _⟩ | exact ⟨_, _, Row.alloc (Row.alloc (by with_reducible assumption) _) _⟩) | (with_reducible refine Row.other ?_ (by first | omega | (simp; done) | (simp; omega)) _)))
        have c_s_0_2 := R_s_2.cell 0 rfl
        have c_s_1_2 := R_s_2.cell 1 rfl
        have c_s_2_2 := R_s_2.cell 2 rfl
        have c_s_3_2 := R_s_2.cell 3 rfl
        have l_s_2 := R_s_2.lt
        have HB2 : Below w.heap.size w w2 := by (repeat' (first | (with_reducible exact Below.refl _ _) | (with_reducible assumption) | (with_reducible exact Bw.out (by with_reducible assumption)) | (with_reducible refine bw_alloc ?_ _) | (with_reducible refine bw_step ?_ (by with_reducible assumption)) | (with_reducible refine Below.alloc ?_ ?_ _) | (with_reducible refine Below.drew ?_) | (with_reducible refine below_drewN ?_ _) | (with_reducible refine Below.setCell ?_ ?_ _) | (with_reducible refine below_step ?_ (by with_reducible assumption) ?_) | (with_reducible exact Nat.le_refl _) | omega | (simp; omega) | (simp; done)))
        clear R_s_1 c_s_0_1 c_s_1_1 c_s_2_1 c_s_3_1 hb1 HB1
        go_wp2_with fail
        refine (R_Run_v a n cap l nt wd ac nc cc zs as' ns cs ys _ hn hnc hns (HS.out.below (by (repeat' (first | (with_reducible exact Below.refl _ _) | (with_reducible assumption) | (with_reducible exact Bw.out (by with_reducible assumption)) | (with_reducible refine bw_alloc ?_ _) | (with_reducible refine bw_step ?_ (by with_reducible assumption)) | (with_reducible refine Below.alloc ?_ ?_ _) | (with_reducible refine Below.drew ?_) | (with_reducible refine below_drewN ?_ _) | (with_reducible refine Below.setCell ?_ ?_ _) | (with_reducible refine below_step ?_ (by with_reducible assumption) ?_) | (with_reducible exact Nat.le_refl _) | omega | (simp; omega) | (simp; done))))) (HZ.out.below (by (repeat' (first | (with_reducible exact Below.refl _ _) | (with_reducible assumption) | (with_reducible exact Bw.out (by with_reducible assumption)) | (with_reducible refine bw_alloc ?_ _) | (with_reducible refine bw_step ?_ (by with_reducible assumption)) | (with_reducible refine Below.alloc ?_ ?_ _) | (with_reducible refine Below.drew ?_) | (with_reducible refine below_drewN ?_ _) | (with_reducible refine Below.setCell ?_ ?_ _) | (with_reducible refine below_step ?_ (by with_reducible assumption) ?_) | (with_reducible exact Nat.le_refl _) | omega | (simp; omega) | (simp; done))))) (HY.out.below (by (repeat' (first | (with_reducible exact Below.refl _ _) | (with_reducible assumption) | (with_reducible exact Bw.out (by with_reducible assumption)) | (with_reducible refine bw_alloc ?_ _) | (with_reducible refine bw_step ?_ (by with_reducible assumption)) | (with_reducible refine Below.alloc ?_ ?_ _) | (with_reducible refine Below.drew ?_) | (with_reducible refine below_drewN ?_ _) | (with_reducible refine Below.setCell ?_ ?_ _) | (with_reducible refine below_step ?_ (by with_reducible assumption) ?_) | (with_reducible exact Nat.le_refl _) | omega | (simp; omega) | (simp; done))))) R E HR.out HE.out).mono ?_
        rintro e w3 ⟨rfl, hb3⟩
        have R_s_3 : Row w3 (w.heap.size) [.int .i64 nt, .int .i64 wd, .slice ac nc cc, .slice as' ns cs] := by (repeat' (first | (with_reducible assumption) | (with_reducible refine Row.new' _ _ _ (by first | rfl | (simp; done) | omega)) | (with_reducible refine Row.alloc ?_ _) | (with_reducible refine Row.drew ?_) | (with_reducible refine Row.drewN ?_ _) | (with_reducible refine Row.step ?_ (by with_reducible assumption)) | (with_reducible refine Row.set2' ?_ _ _; first | exact ⟨_, _, by with_reducible assumption⟩ | exact ⟨_, _, Row.alloc (by with_reducible assumption) _⟩ | exact ⟨_, _, Row.alloc (Row.alloc (by with_reducible assumption) _) _⟩) | (with_reducible refine Row.other ?_ (by first | omega | (simp; done) | (simp; omega)) _)))
        have c_s_0_3 := R_s_3.cell 0 rfl
        have c_s_1_3 := R_s_3.cell 1 rfl
        have c_s_2_3 := R_s_3.cell 2 rfl
        have c_s_3_3 := R_s_3.cell 3 rfl
        have l_s_3 := R_s_3.lt
        have HB3 : Below w.heap.size w w3 := by (repeat' (first | (with_reducible exact Below.refl _ _) | (with_reducible assumption) | (with_reducible exact Bw.out (by with_reducible assumption)) | (with_reducible refine bw_alloc ?_ _) | (with_reducible refine bw_step ?_ (by with_reducible assumption)) | (with_reducible refine Below.alloc ?_ ?_ _) | (with_reducible refine Below.drew ?_) | (with_reducible refine below_drewN ?_ _) | (with_reducible refine Below.setCell ?_ ?_ _) | (with_reducible refine below_step ?_ (by with_reducible assumption) ?_) | (with_reducible exact Nat.le_refl _) | omega | (simp; omega) | (simp; done)))
        clear R_s_2 c_s_0_2 c_s_1_2 c_s_2_2 c_s_3_2 hb2 HB2
        go_upto_region 6 with fail
        refine AnyJ.beginP (fun w' : World => w'.cell? ⟨w.heap.size, 0, none⟩ = some (.int .i64 nt) ∧ w'.cell? ⟨w.heap.size, 1, none⟩ = some (.int .i64 wd) ∧ w'.cell? ⟨w.heap.size, 2, none⟩ = some (.slice ac nc cc) ∧ w'.cell? ⟨w.heap.size, 3, none⟩ = some (.slice as' ns cs)) (fun _ => true) (by kernel_rfl) ?_ (fun hS3 => ?_)
        · exact (show ∀ (P S : World → Prop) (W : World), P W → (∀ w', P w' → S w') → S W from fun P S W h f => f W h) (fun w' : World => Row w' (w.heap.size) [.int .i64 nt, .int .i64 wd, .slice ac nc cc, .slice as' ns cs]) (fun w' : World => w'.cell? ⟨w.heap.size, 0, none⟩ = some (.int .i64 nt) ∧ w'.cell? ⟨w.heap.size, 1, none⟩ = some (.int .i64 wd) ∧ w'.cell? ⟨w.heap.size, 2, none⟩ = some (.slice ac nc cc) ∧ w'.cell? ⟨w.heap.size, 3, none⟩ = some (.slice as' ns cs)) _ (by (repeat' (first | (with_reducible assumption) | (with_reducible refine Row.new' _ _ _ (by first | rfl | (simp; done) | omega)) | (with_reducible refine Row.alloc ?_ _) | (with_reducible refine Row.drew ?_) | (with_reducible refine Row.drewN ?_ _) | (with_reducible refine Row.step ?_ (by with_reducible assumption)) | (with_reducible refine Row.set2' ?_ _ _; first | exact ⟨_, _, by with_reducible assumption⟩ | exact ⟨_, _, Row.alloc (by with_reducible assumption) _⟩ | exact ⟨_, _, Row.alloc (Row.alloc (by with_reducible assumption) _) _⟩) | (with_reducible refine Row.other ?_ (by first | omega | (simp; done) | (simp; omega)) _)))) (fun w' hP0 => ⟨hP0.cell 0 rfl, hP0.cell 1 rfl, hP0.cell 2 rfl, hP0.cell 3 rfl⟩)
        refine AnyJ.takeD (i := 0) (d := some 51) (v := ?_) rfl (by kernel_rfl) (by kernel_rfl) (by kernel_rfl) (by kernel_rfl) (by kernel_rfl) (fun _ _ _ h => h) (Or.inl ⟨by kernel_rfl, ?_⟩) hS3 ?_
        rotate_left
        · intro w' hS
          clear hS
          go_simp
          try with_reducible rfl
        refine AnyJ.takeD (i := 1) (d := some 52) (v := ?_) rfl (by kernel_rfl) (by kernel_rfl) (by kernel_rfl) (by kernel_rfl) (by kernel_rfl) (fun _ _ _ h => h) (Or.inl ⟨by kernel_rfl, ?_⟩) hS3 ?_
        rotate_left
        · intro w' hS
          clear hS
          go_simp
          try with_reducible rfl
        refine AnyJ.takeD (i := 2) (d := some 53) (v := ?_) rfl (by kernel_rfl) (by kernel_rfl) (by kernel_rfl) (by kernel_rfl) (by kernel_rfl) (fun _ _ _ h => h) (Or.inl ⟨by kernel_rfl, ?_⟩) hS3 ?_
        rotate_left
        · intro w' hS
          clear hS
          go_simp
          try with_reducible rfl
        refine AnyJ.takeD (i := 3) (d := some 54) (v := ?_) rfl (by kernel_rfl) (by kernel_rfl) (by kernel_rfl) (by kernel_rfl) (by kernel_rfl) (fun _ _ _ h => h) (Or.inl ⟨by kernel_rfl, ?_⟩) hS3 ?_
        rotate_left
        · intro w' hS
          obtain ⟨sF0, sF1, sF2, sF3⟩ := hS
          go_simp
          try with_reducible rfl
        refine AnyJ.takeD (i := 5) (d := some 56) (v := ?_) rfl (by kernel_rfl) (by kernel_rfl) (by kernel_rfl) (by kernel_rfl) (by kernel_rfl) (fun _ _ _ h => h) (Or.inl ⟨by kernel_rfl, ?_⟩) hS3 ?_
        rotate_left
        · intro w' hS
          clear hS
          go_simp
          try with_reducible rfl
        refine AnyJ.takeD (i := 6) (d := some 57) (v := ?_) rfl (by kernel_rfl) (by kernel_rfl) (by kernel_rfl) (by kernel_rfl) (by kernel_rfl) (fun _ _ _ h => h) (Or.inl ⟨by kernel_rfl, ?_⟩) hS3 ?_
        rotate_left
        · intro w' hS
          obtain ⟨sF0, sF1, sF2, sF3⟩ := hS
          go_simp
          try with_reducible rfl
        refine AnyJ.one (i := 4) (by kernel_rfl) rfl (fun Kz hKz => ?_)
        go_simp
        refine (Valid_any a n cap l nt wd ac nc cc zs as' ns cs ys _ hn hnc hns (HS.out.below (by (repeat' (first | (with_reducible exact Below.refl _ _) | (with_reducible assumption) | (with_reducible exact Bw.out (by with_reducible assumption)) | (with_reducible refine bw_alloc ?_ _) | (with_reducible refine bw_step ?_ (by with_reducible assumption)) | (with_reducible refine Below.alloc ?_ ?_ _) | (with_reducible refine Below.drew ?_) | (with_reducible refine below_drewN ?_ _) | (with_reducible refine Below.setCell ?_ ?_ _) | (with_reducible refine below_step ?_ (by with_reducible assumption) ?_) | (with_reducible exact Nat.le_refl _) | omega | (simp; omega) | (simp; done))))) (HZ.out.below (by (repeat' (first | (with_reducible exact Below.refl _ _) | (with_reducible assumption) | (with_reducible exact Bw.out (by with_reducible assumption)) | (with_reducible refine bw_alloc ?_ _) | (with_reducible refine bw_step ?_ (by with_reducible assumption)) | (with_reducible refine Below.alloc ?_ ?_ _) | (with_reducible refine Below.drew ?_) | (with_reducible refine below_drewN ?_ _) | (with_reducible refine Below.setCell ?_ ?_ _) | (with_reducible refine below_step ?_ (by with_reducible assumption) ?_) | (with_reducible exact Nat.le_refl _) | omega | (simp; omega) | (simp; done))))) (HY.out.below (by (repeat' (first | (with_reducible exact Below.refl _ _) | (with_reducible assumption) | (with_reducible exact Bw.out (by with_reducible assumption)) | (with_reducible refine bw_alloc ?_ _) | (with_reducible refine bw_step ?_ (by with_reducible assumption)) | (with_reducible refine Below.alloc ?_ ?_ _) | (with_reducible refine Below.drew ?_) | (with_reducible refine below_drewN ?_ _) | (with_reducible refine Below.setCell ?_ ?_ _) | (with_reducible refine below_step ?_ (by with_reducible assumption) ?_) | (with_reducible exact Nat.le_refl _) | omega | (simp; omega) | (simp; done))))) O HO.out).mono ?_
        rintro e w4 ⟨rfl, hb4⟩
        have R_s_4 : Row w4 (w.heap.size) [.int .i64 nt, .int .i64 wd, .slice ac nc cc, .slice as' ns cs] := by (repeat' (first | (with_reducible assumption) | (with_reducible refine Row.new' _ _ _ (by first | rfl | (simp; done) | omega)) | (with_reducible refine Row.alloc ?_ _) | (with_reducible refine Row.drew ?_) | (with_reducible refine Row.drewN ?_ _) | (with_reducible refine Row.step ?_ (by with_reducible assumption)) | (with_reducible refine Row.set2' ?_ _ _; first | exact ⟨_, _, by with_reducible assumption⟩ | exact ⟨_, _, Row.alloc (by with_reducible assumption) _⟩ | exact ⟨_, _, Row.alloc (Row.alloc (by with_reducible assumption) _) _⟩) | (with_reducible refine Row.other ?_ (by first | omega | (simp; done) | (simp; omega)) _)))
        have c_s_0_4 := R_s_4.cell 0 rfl
        have c_s_1_4 := R_s_4.cell 1 rfl
        have c_s_2_4 := R_s_4.cell 2 rfl
        have c_s_3_4 := R_s_4.cell 3 rfl
        have l_s_4 := R_s_4.lt
        have HB4 : Below w.heap.size w w4 := by (repeat' (first | (with_reducible exact Below.refl _ _) | (with_reducible assumption) | (with_reducible exact Bw.out (by with_reducible assumption)) | (with_reducible refine bw_alloc ?_ _) | (with_reducible refine bw_step ?_ (by with_reducible assumption)) | (with_reducible refine Below.alloc ?_ ?_ _) | (with_reducible refine Below.drew ?_) | (with_reducible refine below_drewN ?_ _) | (with_reducible refine Below.setCell ?_ ?_ _) | (with_reducible refine below_step ?_ (by with_reducible assumption) ?_) | (with_reducible exact Nat.le_refl _) | omega | (simp; omega) | (simp; done)))
        have hS4 : (fun w' : World => w'.cell? ⟨w.heap.size, 0, none⟩ = some (.int .i64 nt) ∧ w'.cell? ⟨w.heap.size, 1, none⟩ = some (.int .i64 wd) ∧ w'.cell? ⟨w.heap.size, 2, none⟩ = some (.slice ac nc cc) ∧ w'.cell? ⟨w.heap.size, 3, none⟩ = some (.slice as' ns cs)) w4 := ⟨c_s_0_4, c_s_1_4, c_s_2_4, c_s_3_4⟩
        refine hKz _ _ (fun _ => hS4) ?_
        clear hKz Kz hS3
        clear R_s_3 c_s_0_3 c_s_1_3 c_s_2_3 c_s_3_3 hb3 HB3
        refine AnyJ.one (i := 7) (by kernel_rfl) rfl (fun Kz hKz => ?_)
        go_simp
        refine (R_Valid25 a n cap l nt wd ac nc cc zs as' ns cs ys _ hn hnc hns (HS.out.below (by (repeat' (first | (with_reducible exact Below.refl _ _) | (with_reducible assumption) | (with_reducible exact Bw.out (by with_reducible assumption)) | (with_reducible refine bw_alloc ?_ _) | (with_reducible refine bw_step ?_ (by with_reducible assumption)) | (with_reducible refine Below.alloc ?_ ?_ _) | (with_reducible refine Below.drew ?_) | (with_reducible refine below_drewN ?_ _) | (with_reducible refine Below.setCell ?_ ?_ _) | (with_reducible refine below_step ?_ (by with_reducible assumption) ?_) | (with_reducible exact Nat.le_refl _) | omega | (simp; omega) | (simp; done))))) (HZ.out.below (by (repeat' (first | (with_reducible exact Below.refl _ _) | (with_reducible assumption) | (with_reducible exact Bw.out (by with_reducible assumption)) | (with_reducible refine bw_alloc ?_ _) | (with_reducible refine bw_step ?_ (by with_reducible assumption)) | (with_reducible refine Below.alloc ?_ ?_ _) | (with_reducible refine Below.drew ?_) | (with_reducible refine below_drewN ?_ _) | (with_reducible refine Below.setCell ?_ ?_ _) | (with_reducible refine below_step ?_ (by with_reducible assumption) ?_) | (with_reducible exact Nat.le_refl _) | omega | (simp; omega) | (simp; done))))) (HY.out.below (by (repeat' (first | (with_reducible exact Below.refl _ _) | (with_reducible assumption) | (with_reducible exact Bw.out (by with_reducible assumption)) | (with_reducible refine bw_alloc ?_ _) | (with_reducible refine bw_step ?_ (by with_reducible assumption)) | (with_reducible refine Below.alloc ?_ ?_ _) | (with_reducible refine Below.drew ?_) | (with_reducible refine below_drewN ?_ _) | (with_reducible refine Below.setCell ?_ ?_ _) | (with_reducible refine below_step ?_ (by with_reducible assumption) ?_) | (with_reducible exact Nat.le_refl _) | omega | (simp; omega) | (simp; done))))) O HO.out).mono ?_
        rintro e w5 ⟨rfl, hb5⟩
        have R_s_5 : Row w5 (w.heap.size) [.int .i64 nt, .int .i64 wd, .slice ac nc cc, .slice as' ns cs] := by (repeat' (first | (with_reducible assumption) | (with_reducible refine Row.new' _ _ _ (by first | rfl | (simp; done) | omega)) | (with_reducible refine Row.alloc ?_ _) | (with_reducible refine Row.drew ?_) | (with_reducible refine Row.drewN ?_ _) | (with_reducible refine Row.step ?_ (by with_reducible assumption)) | (with_reducible refine Row.set2' ?_ _ _; first | exact ⟨_, _, by with_reducible assumption⟩ | exact ⟨_, _, Row.alloc (by with_reducible assumption) _⟩ | exact ⟨_, _, Row.alloc (Row.alloc (by with_reducible assumption) _) _⟩) | (with_reducible refine Row.other ?_ (by first | omega | (simp; done) | (simp; omega)) _)))
        have c_s_0_5 := R_s_5.cell 0 rfl
        have c_s_1_5 := R_s_5.cell 1 rfl
        have c_s_2_5 := R_s_5.cell 2 rfl
        have c_s_3_5 := R_s_5.cell 3 rfl
        have l_s_5 := R_s_5.lt
        have HB5 : Below w.heap.size w w5 := by (repeat' (first | (with_reducible exact Below.refl _ _) | (with_reducible assumption) | (with_reducible exact Bw.out (by with_reducible assumption)) | (with_reducible refine bw_alloc ?_ _) | (with_reducible refine bw_step ?_ (by with_reducible assumption)) | (with_reducible refine Below.alloc ?_ ?_ _) | (with_reducible refine Below.drew ?_) | (with_reducible refine below_drewN ?_ _) | (with_reducible refine Below.setCell ?_ ?_ _) | (with_reducible refine below_step ?_ (by with_reducible assumption) ?_) | (with_reducible exact Nat.le_refl _) | omega | (simp; omega) | (simp; done)))
        have hS5 : (fun w' : World => w'.cell? ⟨w.heap.size, 0, none⟩ = some (.int .i64 nt) ∧ w'.cell? ⟨w.heap.size, 1, none⟩ = some (.int .i64 wd) ∧ w'.cell? ⟨w.heap.size, 2, none⟩ = some (.slice ac nc cc) ∧ w'.cell? ⟨w.heap.size, 3, none⟩ = some (.slice as' ns cs)) w5 := ⟨c_s_0_5, c_s_1_5, c_s_2_5, c_s_3_5⟩
        refine hKz _ _ (fun _ => hS5) ?_
        clear hKz Kz hS4
        clear R_s_4 c_s_0_4 c_s_1_4 c_s_2_4 c_s_3_4 hb4 HB4
        refine AnyJ.takeD (i := 8) (d := some 59) (v := ?_) rfl (by kernel_rfl) (by kernel_rfl) (by kernel_rfl) (by kernel_rfl) (by kernel_rfl) (fun _ _ _ h => h) (Or.inl ⟨by kernel_rfl, ?_⟩) hS5 ?_
        rotate_left
        · intro w' hS
          clear hS
          go_simp
          try with_reducible rfl
        refine AnyJ.takeD (i := 9) (d := some 60) (v := ?_) rfl (by kernel_rfl) (by kernel_rfl) (by kernel_rfl) (by kernel_rfl) (by kernel_rfl) (fun _ _ _ h => h) (Or.inl ⟨by kernel_rfl, ?_⟩) hS5 ?_
        rotate_left
        · intro w' hS
          clear hS
          go_simp
          try with_reducible rfl
        refine AnyJ.takeD (i := 10) (d := some 61) (v := ?_) rfl (by kernel_rfl) (by kernel_rfl) (by kernel_rfl) (by kernel_rfl) (by kernel_rfl) (fun _ _ _ h => h) (Or.inl ⟨by kernel_rfl, ?_⟩) hS5 ?_
        rotate_left
        · intro w' hS
          clear hS
          go_simp
          try with_reducible rfl
        refine AnyJ.takeD (i := 11) (d := some 62) (v := ?_) rfl (by kernel_rfl) (by kernel_rfl) (by kernel_rfl) (by kernel_rfl) (by kernel_rfl) (fun _ _ _ h => h) (Or.inl ⟨by kernel_rfl, ?_⟩) hS5 ?_
        rotate_left
        · intro w' hS
          clear hS
          go_simp
          try with_reducible rfl
        refine AnyJ.takeD (i := 12) (d := some 63) (v := ?_) rfl (by kernel_rfl) (by kernel_rfl) (by kernel_rfl) (by kernel_rfl) (by kernel_rfl) (fun _ _ _ h => h) (Or.inl ⟨by kernel_rfl, ?_⟩) hS5 ?_
        rotate_left
        · intro w' hS
          clear hS
          go_simp
          try with_reducible rfl
        refine AnyJ.takeD (i := 13) (d := some 64) (v := ?_) rfl (by kernel_rfl) (by kernel_rfl) (by kernel_rfl) (by kernel_rfl) (by kernel_rfl) (fun _ _ _ h => h) (Or.inl ⟨by kernel_rfl, ?_⟩) hS5 ?_
        rotate_left
        · intro w' hS
          clear hS
          go_simp
          try with_reducible rfl
        refine AnyJ.takeD (i := 14) (d := some 65) (v := ?_) rfl (by kernel_rfl) (by kernel_rfl) (by kernel_rfl) (by kernel_rfl) (by kernel_rfl) (fun _ _ _ h => h) (Or.inl ⟨by kernel_rfl, ?_⟩) hS5 ?_
        rotate_left
        · intro w' hS
          clear hS
          go_simp
          try with_reducible rfl
        refine AnyJ.takeD (i := 15) (d := some 66) (v := ?_) rfl (by kernel_rfl) (by kernel_rfl) (by kernel_rfl) (by kernel_rfl) (by kernel_rfl) (fun _ _ _ h => h) (Or.inl ⟨by kernel_rfl, ?_⟩) hS5 ?_
        rotate_left
        · intro w' hS
          clear hS
          go_simp
          try with_reducible rfl
        refine AnyJ.takeD (i := 16) (d := some 67) (v := ?_) rfl (by kernel_rfl) (by kernel_rfl) (by kernel_rfl) (by kernel_rfl) (by kernel_rfl) (fun _ _ _ h => h) (Or.inl ⟨by kernel_rfl, ?_⟩) hS5 ?_
        rotate_left
        · intro w' hS
          clear hS
          go_simp
          try with_reducible rfl
        refine AnyJ.takeD (i := 17) (d := some 68) (v := ?_) rfl (by kernel_rfl) (by kernel_rfl) (by kernel_rfl) (by kernel_rfl) (by kernel_rfl) (fun _ _ _ h => h) (Or.inl ⟨by kernel_rfl, ?_⟩) hS5 ?_
        rotate_left
        · intro w' hS
          clear hS
          go_simp
          try with_reducible rfl
        refine AnyJ.takeD (i := 18) (d := some 69) (v := ?_) rfl (by kernel_rfl) (by kernel_rfl) (by kernel_rfl) (by kernel_rfl) (by kernel_rfl) (fun _ _ _ h => h) (Or.inl ⟨by kernel_rfl, ?_⟩) hS5 ?_
        rotate_left
        · intro w' hS
          clear hS
          go_simp
          try with_reducible rfl
        refine AnyJ.takeD (i := 19) (d := some 70) (v := ?_) rfl (by kernel_rfl) (by kernel_rfl) (by kernel_rfl) (by kernel_rfl) (by kernel_rfl) (fun _ _ _ h => h) (Or.inl ⟨by kernel_rfl, ?_⟩) hS5 ?_
        rotate_left
        · intro w' hS
          clear hS
          go_simp
          try with_reducible rfl
        refine AnyJ.takeD (i := 20) (d := some 11) (v := ?_) rfl (by kernel_rfl) (by kernel_rfl) (by kernel_rfl) (by kernel_rfl) (by kernel_rfl) (fun _ _ _ h => h) (Or.inl ⟨by kernel_rfl, ?_⟩) hS5 ?_
        rotate_left
        · intro w' hS
          clear hS
          go_simp
          try with_reducible rfl
        refine AnyJ.done (by kernel_rfl) ?_ _
        clear hS5
        simp only [Act.put, List.setIfInBounds_toArray, List.set_cons_zero, List.set_cons_succ]
        go_wp2_with fail
        refine (Sales_v a n cap l nt wd ac nc cc zs as' ns cs ys _ kd hn hnc hns (HS.out.below (by (repeat' (first | (with_reducible exact Below.refl _ _) | (with_reducible assumption) | (with_reducible exact Bw.out (by with_reducible assumption)) | (with_reducible refine bw_alloc ?_ _) | (with_reducible refine bw_step ?_ (by with_reducible assumption)) | (with_reducible refine Below.alloc ?_ ?_ _) | (with_reducible refine Below.drew ?_) | (with_reducible refine below_drewN ?_ _) | (with_reducible refine Below.setCell ?_ ?_ _) | (with_reducible refine below_step ?_ (by with_reducible assumption) ?_) | (with_reducible exact Nat.le_refl _) | omega | (simp; omega) | (simp; done))))) (HZ.out.below (by (repeat' (first | (with_reducible exact Below.refl _ _) | (with_reducible assumption) | (with_reducible exact Bw.out (by with_reducible assumption)) | (with_reducible refine bw_alloc ?_ _) | (with_reducible refine bw_step ?_ (by with_reducible assumption)) | (with_reducible refine Below.alloc ?_ ?_ _) | (with_reducible refine Below.drew ?_) | (with_reducible refine below_drewN ?_ _) | (with_reducible refine Below.setCell ?_ ?_ _) | (with_reducible refine below_step ?_ (by with_reducible assumption) ?_) | (with_reducible exact Nat.le_refl _) | omega | (simp; omega) | (simp; done))))) (HY.out.below (by (repeat' (first | (with_reducible exact Below.refl _ _) | (with_reducible assumption) | (with_reducible exact Bw.out (by with_reducible assumption)) | (with_reducible refine bw_alloc ?_ _) | (with_reducible refine bw_step ?_ (by with_reducible assumption)) | (with_reducible refine Below.alloc ?_ ?_ _) | (with_reducible refine Below.drew ?_) | (with_reducible refine below_drewN ?_ _) | (with_reducible refine Below.setCell ?_ ?_ _) | (with_reducible refine below_step ?_ (by with_reducible assumption) ?_) | (with_reducible exact Nat.le_refl _) | omega | (simp; omega) | (simp; done))))) X N E2 HX.out HN.out HE2.out).mono ?_
        rintro e w6 ⟨ax, cx, rfl, KX, hb6⟩
        have R_s_6 : Row w6 (w.heap.size) [.int .i64 nt, .int .i64 wd, .slice ac nc cc, .slice as' ns cs] := by (repeat' (first | (with_reducible assumption) | (with_reducible refine Row.new' _ _ _ (by first | rfl | (simp; done) | omega)) | (with_reducible refine Row.alloc ?_ _) | (with_reducible refine Row.drew ?_) | (with_reducible refine Row.drewN ?_ _) | (with_reducible refine Row.step ?_ (by with_reducible assumption)) | (with_reducible refine Row.set2' ?_ _ _; first | exact ⟨_, _, by with_reducible assumption⟩ | exact ⟨_, _, Row.alloc (by with_reducible assumption) _⟩ | exact ⟨_, _, Row.alloc (Row.alloc (by with_reducible assumption) _) _⟩) | (with_reducible refine Row.other ?_ (by first | omega | (simp; done) | (simp; omega)) _)))
        have c_s_0_6 := R_s_6.cell 0 rfl
        have c_s_1_6 := R_s_6.cell 1 rfl
        have c_s_2_6 := R_s_6.cell 2 rfl
        have c_s_3_6 := R_s_6.cell 3 rfl
        have l_s_6 := R_s_6.lt
        have HB6 : Below w.heap.size w w6 := by (repeat' (first | (with_reducible exact Below.refl _ _) | (with_reducible assumption) | (with_reducible exact Bw.out (by with_reducible assumption)) | (with_reducible refine bw_alloc ?_ _) | (with_reducible refine bw_step ?_ (by with_reducible assumption)) | (with_reducible refine Below.alloc ?_ ?_ _) | (with_reducible refine Below.drew ?_) | (with_reducible refine below_drewN ?_ _) | (with_reducible refine Below.setCell ?_ ?_ _) | (with_reducible refine below_step ?_ (by with_reducible assumption) ?_) | (with_reducible exact Nat.le_refl _) | omega | (simp; omega) | (simp; done)))
        clear R_s_5 c_s_0_5 c_s_1_5 c_s_2_5 c_s_3_5 hb5 HB5
        go_wp2_with fail
        refine (R_Sales_v a n cap l nt wd ac nc cc zs as' ns cs ys _ kd hn hnc hns (HS.out.below (by (repeat' (first | (with_reducible exact Below.refl _ _) | (with_reducible assumption) | (with_reducible exact Bw.out (by with_reducible assumption)) | (with_reducible refine bw_alloc ?_ _) | (with_reducible refine bw_step ?_ (by with_reducible assumption)) | (with_reducible refine Below.alloc ?_ ?_ _) | (with_reducible refine Below.drew ?_) | (with_reducible refine below_drewN ?_ _) | (with_reducible refine Below.setCell ?_ ?_ _) | (with_reducible refine below_step ?_ (by with_reducible assumption) ?_) | (with_reducible exact Nat.le_refl _) | omega | (simp; omega) | (simp; done))))) (HZ.out.below (by (repeat' (first | (with_reducible exact Below.refl _ _) | (with_reducible assumption) | (with_reducible exact Bw.out (by with_reducible assumption)) | (with_reducible refine bw_alloc ?_ _) | (with_reducible refine bw_step ?_ (by with_reducible assumption)) | (with_reducible refine Below.alloc ?_ ?_ _) | (with_reducible refine Below.drew ?_) | (with_reducible refine below_drewN ?_ _) | (with_reducible refine Below.setCell ?_ ?_ _) | (with_reducible refine below_step ?_ (by with_reducible assumption) ?_) | (with_reducible exact Nat.le_refl _) | omega | (simp; omega) | (simp; done))))) (HY.out.below (by (repeat' (first | (with_reducible exact Below.refl _ _) | (with_reducible assumption) | (with_reducible exact Bw.out (by with_reducible assumption)) | (with_reducible refine bw_alloc ?_ _) | (with_reducible refine bw_step ?_ (by with_reducible assumption)) | (with_reducible refine Below.alloc ?_ ?_ _) | (with_reducible refine Below.drew ?_) | (with_reducible refine below_drewN ?_ _) | (with_reducible refine Below.setCell ?_ ?_ _) | (with_reducible refine below_step ?_ (by with_reducible assumption) ?_) | (with_reducible exact Nat.le_refl _) | omega | (simp; omega) | (simp; done))))) X N E2 HX.out HN.out HE2.out).mono ?_
        rintro e w7 ⟨ay, cy, rfl, KY, hb7⟩
        have R_s_7 : Row w7 (w.heap.size) [.int .i64 nt, .int .i64 wd, .slice ac nc cc, .slice as' ns cs] := by (repeat' (first | (with_reducible assumption) | (with_reducible refine Row.new' _ _ _ (by first | rfl | (simp; done) | omega)) | (with_reducible refine Row.alloc ?_ _) | (with_reducible refine Row.drew ?_) | (with_reducible refine Row.drewN ?_ _) | (with_reducible refine Row.step ?_ (by with_reducible assumption)) | (with_reducible refine Row.set2' ?_ _ _; first | exact ⟨_, _, by with_reducible assumption⟩ | exact ⟨_, _, Row.alloc (by with_reducible assumption) _⟩ | exact ⟨_, _, Row.alloc (Row.alloc (by with_reducible assumption) _) _⟩) | (with_reducible refine Row.other ?_ (by first | omega | (simp; done) | (simp; omega)) _)))
        have c_s_0_7 := R_s_7.cell 0 rfl
        have c_s_1_7 := R_s_7.cell 1 rfl
        have c_s_2_7 := R_s_7.cell 2 rfl
        have c_s_3_7 := R_s_7.cell 3 rfl
        have l_s_7 := R_s_7.lt
        replace KX := KX.step (show Below w6.heap.size w6 w7 by (repeat' (first | (with_reducible exact Below.refl _ _) | (with_reducible assumption) | (with_reducible exact Bw.out (by with_reducible assumption)) | (with_reducible refine bw_alloc ?_ _) | (with_reducible refine bw_step ?_ (by with_reducible assumption)) | (with_reducible refine Below.alloc ?_ ?_ _) | (with_reducible refine Below.drew ?_) | (with_reducible refine below_drewN ?_ _) | (with_reducible refine Below.setCell ?_ ?_ _) | (with_reducible refine below_step ?_ (by with_reducible assumption) ?_) | (with_reducible exact Nat.le_refl _) | omega | (simp; omega) | (simp; done))))
        have HB7 : Below w.heap.size w w7 := by (repeat' (first | (with_reducible exact Below.refl _ _) | (with_reducible assumption) | (with_reducible exact Bw.out (by with_reducible assumption)) | (with_reducible refine bw_alloc ?_ _) | (with_reducible refine bw_step ?_ (by with_reducible assumption)) | (with_reducible refine Below.alloc ?_ ?_ _) | (with_reducible refine Below.drew ?_) | (with_reducible refine below_drewN ?_ _) | (with_reducible refine Below.setCell ?_ ?_ _) | (with_reducible refine below_step ?_ (by with_reducible assumption) ?_) | (with_reducible exact Nat.le_refl _) | omega | (simp; omega) | (simp; done)))
        clear R_s_6 c_s_0_6 c_s_1_6 c_s_2_6 c_s_3_6 hb6 HB6
        go_wp2_with fail
        refine (R_SameSales25 ax ay N cx cy X _ hNb KX KY).mono ?_
        rintro e w8 ⟨rfl, hb8⟩
        have R_s_8 : Row w8 (w.heap.size) [.int .i64 nt, .int .i64 wd, .slice ac nc cc, .slice as' ns cs] := by (repeat' (first | (with_reducible assumption) | (with_reducible refine Row.new' _ _ _ (by first | rfl | (simp; done) | omega)) | (with_reducible refine Row.alloc ?_ _) | (with_reducible refine Row.drew ?_) | (with_reducible refine Row.drewN ?_ _) | (with_reducible refine Row.step ?_ (by with_reducible assumption)) | (with_reducible refine Row.set2' ?_ _ _; first | exact ⟨_, _, by with_reducible assumption⟩ | exact ⟨_, _, Row.alloc (by with_reducible assumption) _⟩ | exact ⟨_, _, Row.alloc (Row.alloc (by with_reducible assumption) _) _⟩) | (with_reducible refine Row.other ?_ (by first | omega | (simp; done) | (simp; omega)) _)))
        have c_s_0_8 := R_s_8.cell 0 rfl
        have c_s_1_8 := R_s_8.cell 1 rfl
        have c_s_2_8 := R_s_8.cell 2 rfl
        have c_s_3_8 := R_s_8.cell 3 rfl
        have l_s_8 := R_s_8.lt
        replace KX := KX.step (show Below w7.heap.size w7 w8 by (repeat' (first | (with_reducible exact Below.refl _ _) | (with_reducible assumption) | (with_reducible exact Bw.out (by with_reducible assumption)) | (with_reducible refine bw_alloc ?_ _) | (with_reducible refine bw_step ?_ (by with_reducible assumption)) | (with_reducible refine Below.alloc ?_ ?_ _) | (with_reducible refine Below.drew ?_) | (with_reducible refine below_drewN ?_ _) | (with_reducible refine Below.setCell ?_ ?_ _) | (with_reducible refine below_step ?_ (by with_reducible assumption) ?_) | (with_reducible exact Nat.le_refl _) | omega | (simp; omega) | (simp; done))))
        have HB8 : Below w.heap.size w w8 := by (repeat' (first | (with_reducible exact Below.refl _ _) | (with_reducible assumption) | (with_reducible exact Bw.out (by with_reducible assumption)) | (with_reducible refine bw_alloc ?_ _) | (with_reducible refine bw_step ?_ (by with_reducible assumption)) | (with_reducible refine Below.alloc ?_ ?_ _) | (with_reducible refine Below.drew ?_) | (with_reducible refine below_drewN ?_ _) | (with_reducible refine Below.setCell ?_ ?_ _) | (with_reducible refine below_step ?_ (by with_reducible assumption) ?_) | (with_reducible exact Nat.le_refl _) | omega | (simp; omega) | (simp; done)))
        clear R_s_7 c_s_0_7 c_s_1_7 c_s_2_7 c_s_3_7 hb7 HB7
        go_wp2_with fail
        refine (Count_v a n cap l b m bcap S c q ccap A _ hn hm hq (HS.out.below (by (repeat' (first | (with_reducible exact Below.refl _ _) | (with_reducible assumption) | (with_reducible exact Bw.out (by with_reducible assumption)) | (with_reducible refine bw_alloc ?_ _) | (with_reducible refine bw_step ?_ (by with_reducible assumption)) | (with_reducible refine Below.alloc ?_ ?_ _) | (with_reducible refine Below.drew ?_) | (with_reducible refine below_drewN ?_ _) | (with_reducible refine Below.setCell ?_ ?_ _) | (with_reducible refine below_step ?_ (by with_reducible assumption) ?_) | (with_reducible exact Nat.le_refl _) | omega | (simp; omega) | (simp; done))))) (HT.out.step HB8) (HU.out.below (by (repeat' (first | (with_reducible exact Below.refl _ _) | (with_reducible assumption) | (with_reducible exact Bw.out (by with_reducible assumption)) | (with_reducible refine bw_alloc ?_ _) | (with_reducible refine bw_step ?_ (by with_reducible assumption)) | (with_reducible refine Below.alloc ?_ ?_ _) | (with_reducible refine Below.drew ?_) | (with_reducible refine below_drewN ?_ _) | (with_reducible refine Below.setCell ?_ ?_ _) | (with_reducible refine below_step ?_ (by with_reducible assumption) ?_) | (with_reducible exact Nat.le_refl _) | omega | (simp; omega) | (simp; done))))) HW.out Z M E3 HZZ.out HM.out HE3.out).mono ?_
        rintro e w9 ⟨az, cz, rfl, KZ, hb9⟩
        have R_s_9 : Row w9 (w.heap.size) [.int .i64 nt, .int .i64 wd, .slice ac nc cc, .slice as' ns cs] := by (repeat' (first | (with_reducible assumption) | (with_reducible refine Row.new' _ _ _ (by first | rfl | (simp; done) | omega)) | (with_reducible refine Row.alloc ?_ _) | (with_reducible refine Row.drew ?_) | (with_reducible refine Row.drewN ?_ _) | (with_reducible refine Row.step ?_ (by with_reducible assumption)) | (with_reducible refine Row.set2' ?_ _ _; first | exact ⟨_, _, by with_reducible assumption⟩ | exact ⟨_, _, Row.alloc (by with_reducible assumption) _⟩ | exact ⟨_, _, Row.alloc (Row.alloc (by with_reducible assumption) _) _⟩) | (with_reducible refine Row.other ?_ (by first | omega | (simp; done) | (simp; omega)) _)))
        have c_s_0_9 := R_s_9.cell 0 rfl
        have c_s_1_9 := R_s_9.cell 1 rfl
        have c_s_2_9 := R_s_9.cell 2 rfl
        have c_s_3_9 := R_s_9.cell 3 rfl
        have l_s_9 := R_s_9.lt
        have HB9 : Below w.heap.size w w9 := by (repeat' (first | (with_reducible exact Below.refl _ _) | (with_reducible assumption) | (with_reducible exact Bw.out (by with_reducible assumption)) | (with_reducible refine bw_alloc ?_ _) | (with_reducible refine bw_step ?_ (by with_reducible assumption)) | (with_reducible refine Below.alloc ?_ ?_ _) | (with_reducible refine Below.drew ?_) | (with_reducible refine below_drewN ?_ _) | (with_reducible refine Below.setCell ?_ ?_ _) | (with_reducible refine below_step ?_ (by with_reducible assumption) ?_) | (with_reducible exact Nat.le_refl _) | omega | (simp; omega) | (simp; done)))
        clear R_s_8 c_s_0_8 c_s_1_8 c_s_2_8 c_s_3_8 hb8 HB8
        go_wp2_with fail
        refine (R_Count_v a n cap l b m bcap S c q ccap A _ hn hm hq (HS.out.below (by (repeat' (first | (with_reducible exact Below.refl _ _) | (with_reducible assumption) | (with_reducible exact Bw.out (by with_reducible assumption)) | (with_reducible refine bw_alloc ?_ _) | (with_reducible refine bw_step ?_ (by with_reducible assumption)) | (with_reducible refine Below.alloc ?_ ?_ _) | (with_reducible refine Below.drew ?_) | (with_reducible refine below_drewN ?_ _) | (with_reducible refine Below.setCell ?_ ?_ _) | (with_reducible refine below_step ?_ (by with_reducible assumption) ?_) | (with_reducible exact Nat.le_refl _) | omega | (simp; omega) | (simp; done))))) (HT.out.step HB9) (HU.out.below (by (repeat' (first | (with_reducible exact Below.refl _ _) | (with_reducible assumption) | (with_reducible exact Bw.out (by with_reducible assumption)) | (with_reducible refine bw_alloc ?_ _) | (with_reducible refine bw_step ?_ (by with_reducible assumption)) | (with_reducible refine Below.alloc ?_ ?_ _) | (with_reducible refine Below.drew ?_) | (with_reducible refine below_drewN ?_ _) | (with_reducible refine Below.setCell ?_ ?_ _) | (with_reducible refine below_step ?_ (by with_reducible assumption) ?_) | (with_reducible exact Nat.le_refl _) | omega | (simp; omega) | (simp; done))))) Z M E3 HZZ.out HM.out HE3.out).mono ?_
        rintro e w10 ⟨av, cv, rfl, KV, hb10⟩
        have R_s_10 : Row w10 (w.heap.size) [.int .i64 nt, .int .i64 wd, .slice ac nc cc, .slice as' ns cs] := by (repeat' (first | (with_reducible assumption) | (with_reducible refine Row.new' _ _ _ (by first | rfl | (simp; done) | omega)) | (with_reducible refine Row.alloc ?_ _) | (with_reducible refine Row.drew ?_) | (with_reducible refine Row.drewN ?_ _) | (with_reducible refine Row.step ?_ (by with_reducible assumption)) | (with_reducible refine Row.set2' ?_ _ _; first | exact ⟨_, _, by with_reducible assumption⟩ | exact ⟨_, _, Row.alloc (by with_reducible assumption) _⟩ | exact ⟨_, _, Row.alloc (Row.alloc (by with_reducible assumption) _) _⟩) | (with_reducible refine Row.other ?_ (by first | omega | (simp; done) | (simp; omega)) _)))
        have c_s_0_10 := R_s_10.cell 0 rfl
        have c_s_1_10 := R_s_10.cell 1 rfl
        have c_s_2_10 := R_s_10.cell 2 rfl
        have c_s_3_10 := R_s_10.cell 3 rfl
        have l_s_10 := R_s_10.lt
        have HB10 : Below w.heap.size w w10 := by (repeat' (first | (with_reducible exact Below.refl _ _) | (with_reducible assumption) | (with_reducible exact Bw.out (by with_reducible assumption)) | (with_reducible refine bw_alloc ?_ _) | (with_reducible refine bw_step ?_ (by with_reducible assumption)) | (with_reducible refine Below.alloc ?_ ?_ _) | (with_reducible refine Below.drew ?_) | (with_reducible refine below_drewN ?_ _) | (with_reducible refine Below.setCell ?_ ?_ _) | (with_reducible refine below_step ?_ (by with_reducible assumption) ?_) | (with_reducible exact Nat.le_refl _) | omega | (simp; omega) | (simp; done)))
        clear R_s_9 c_s_0_9 c_s_1_9 c_s_2_9 c_s_3_9 hb9 HB9
        go_wp2_with fail
        refine (R22_same_q az av M M cz cv Z Z _ hMb hMb (KZ.below hb10) KV).mono ?_
        rintro e w11 ⟨rfl, q11, rfl⟩
        have hdt : decide (Z = Z) = true := by simp
        rw [hdt]
        clear hdt
        go_wp2_with fail
        go_ret
        exact ⟨rfl, below_drewN HB10 _⟩
      · have i2 : (40 : Int) < (ns : Int) := by omega
        go_enter Try.func3, Try.ntmps3
        go_wp2_with fail
        refine (s_head_any _).mono ?_
        rintro e w1 ⟨rfl, hb1⟩
        have R_s_1 : Row w1 (w.heap.size) [.int .i64 nt, .int .i64 wd, .slice ac nc cc, .slice as' ns cs] := by (repeat' (first | (with_reducible assumption) | (with_reducible refine Row.new' _ _ _ (by first | rfl | (simp; done) | omega)) | (with_reducible refine Row.alloc ?_ _) | (with_reducible refine Row.drew ?_) | (with_reducible refine Row.drewN ?_ _) | (with_reducible refine Row.step ?_ (by with_reducible assumption)) | (with_reducible refine Row.set2' ?_ _ _; first | exact ⟨_, _, by with_reducible assumption⟩ | exact ⟨_, _, Row.alloc (by with_reducible assumption) _⟩ | exact ⟨_, _, Row.alloc (Row.alloc (by with_reducible assumption) _) _⟩) | (with_reducible refine Row.other ?_ (by first | omega | (simp; done) | (simp; omega)) _)))
        have c_s_0_1 := R_s_1.cell 0 rfl
        have c_s_1_1 := R_s_1.cell 1 rfl
        have c_s_2_1 := R_s_1.cell 2 rfl
        have c_s_3_1 := R_s_1.cell 3 rfl
        have l_s_1 := R_s_1.lt
        have HB1 : Below w.heap.size w w1 := by (repeat' (first | (with_reducible exact Below.refl _ _) | (with_reducible assumption) | (with_reducible exact Bw.out (by with_reducible assumption)) | (with_reducible refine bw_alloc ?_ _) | (with_reducible refine bw_step ?_ (by with_reducible assumption)) | (with_reducible refine Below.alloc ?_ ?_ _) | (with_reducible refine Below.drew ?_) | (with_reducible refine below_drewN ?_ _) | (with_reducible refine Below.setCell ?_ ?_ _) | (with_reducible refine below_step ?_ (by with_reducible assumption) ?_) | (with_reducible exact Nat.le_refl _) | omega | (simp; omega) | (simp; done)))
        go_wp2_with fail
        refine (R_Few25 a n cap l b m bcap S c _ ccap A _ hn hm hq (HS.out.below (by (repeat' (first | (with_reducible exact Below.refl _ _) | (with_reducible assumption) | (with_reducible exact Bw.out (by with_reducible assumption)) | (with_reducible refine bw_alloc ?_ _) | (with_reducible refine bw_step ?_ (by with_reducible assumption)) | (with_reducible refine Below.alloc ?_ ?_ _) | (with_reducible refine Below.drew ?_) | (with_reducible refine below_drewN ?_ _) | (with_reducible refine Below.setCell ?_ ?_ _) | (with_reducible refine below_step ?_ (by with_reducible assumption) ?_) | (with_reducible exact Nat.le_refl _) | omega | (simp; omega) | (simp; done))))) HTL.out HUL.out _ hF).mono ?_
        rintro e w' ⟨rfl, hw'⟩
        rw [hw']
        clear hw' w'
        go_wp2_with fail
        go_ret
        refine ⟨(by first | rfl | exact ret_bool (by first | rfl | (simp; done) | (simp; omega))), ?_⟩
        (repeat' (first | (with_reducible exact Below.refl _ _) | (with_reducible assumption) | (with_reducible exact Bw.out (by with_reducible assumption)) | (with_reducible refine bw_alloc ?_ _) | (with_reducible refine bw_step ?_ (by with_reducible assumption)) | (with_reducible refine Below.alloc ?_ ?_ _) | (with_reducible refine Below.drew ?_) | (with_reducible refine below_drewN ?_ _) | (with_reducible refine Below.setCell ?_ ?_ _) | (with_reducible refine below_step ?_ (by with_reducible assumption) ?_) | (with_reducible exact Nat.le_refl _) | omega | (simp; omega) | (simp; done)))
    · have i1 : (40 : Int) < (nc : Int) := by omega
      go_enter Try.func3, Try.ntmps3
      go_wp2_with fail
      refine (s_head_any _).mono ?_
      rintro e w1 ⟨rfl, hb1⟩
      have R_s_1 : Row w1 (w.heap.size) [.int .i64 nt, .int .i64 wd, .slice ac nc cc, .slice as' ns cs] := by (repeat' (first | (with_reducible assumption) | (with_reducible refine Row.new' _ _ _ (by first | rfl | (simp; done) | omega)) | (with_reducible refine Row.alloc ?_ _) | (with_reducible refine Row.drew ?_) | (with_reducible refine Row.drewN ?_ _) | (with_reducible refine Row.step ?_ (by with_reducible assumption)) | (with_reducible refine Row.set2' ?_ _ _; first | exact ⟨_, _, by with_reducible assumption⟩ | exact ⟨_, _, Row.alloc (by with_reducible assumption) _⟩ | exact ⟨_, _, Row.alloc (Row.alloc (by with_reducible assumption) _) _⟩) | (with_reducible refine Row.other ?_ (by first | omega | (simp; done) | (simp; omega)) _)))
      have c_s_0_1 := R_s_1.cell 0 rfl
      have c_s_1_1 := R_s_1.cell 1 rfl
      have c_s_2_1 := R_s_1.cell 2 rfl
      have c_s_3_1 := R_s_1.cell 3 rfl
      have l_s_1 := R_s_1.lt
      have HB1 : Below w.heap.size w w1 := by (repeat' (first | (with_reducible exact Below.refl _ _) | (with_reducible assumption) | (with_reducible exact Bw.out (by with_reducible assumption)) | (with_reducible refine bw_alloc ?_ _) | (with_reducible refine bw_step ?_ (by with_reducible assumption)) | (with_reducible refine Below.alloc ?_ ?_ _) | (with_reducible refine Below.drew ?_) | (with_reducible refine below_drewN ?_ _) | (with_reducible refine Below.setCell ?_ ?_ _) | (with_reducible refine below_step ?_ (by with_reducible assumption) ?_) | (with_reducible exact Nat.le_refl _) | omega | (simp; omega) | (simp; done)))
      go_wp2_with fail
      refine (R_Few25 a n cap l b m bcap S c _ ccap A _ hn hm hq (HS.out.below (by (repeat' (first | (with_reducible exact Below.refl _ _) | (with_reducible assumption) | (with_reducible exact Bw.out (by with_reducible assumption)) | (with_reducible refine bw_alloc ?_ _) | (with_reducible refine bw_step ?_ (by with_reducible assumption)) | (with_reducible refine Below.alloc ?_ ?_ _) | (with_reducible refine Below.drew ?_) | (with_reducible refine below_drewN ?_ _) | (with_reducible refine Below.setCell ?_ ?_ _) | (with_reducible refine below_step ?_ (by with_reducible assumption) ?_) | (with_reducible exact Nat.le_refl _) | omega | (simp; omega) | (simp; done))))) HTL.out HUL.out _ hF).mono ?_
      rintro e w' ⟨rfl, hw'⟩
      rw [hw']
      clear hw' w'
      go_wp2_with fail
      go_ret
      refine ⟨(by first | rfl | exact ret_bool (by first | rfl | (simp; done) | (simp; omega))), ?_⟩
      (repeat' (first | (with_reducible exact Below.refl _ _) | (with_reducible assumption) | (with_reducible exact Bw.out (by with_reducible assumption)) | (with_reducible refine bw_alloc ?_ _) | (with_reducible refine bw_step ?_ (by with_reducible assumption)) | (with_reducible refine Below.alloc ?_ ?_ _) | (with_reducible refine Below.drew ?_) | (with_reducible refine below_drewN ?_ _) | (with_reducible refine Below.setCell ?_ ?_ _) | (with_reducible refine below_step ?_ (by with_reducible assumption) ?_) | (with_reducible exact Nat.le_refl _) | omega | (simp; omega) | (simp; done)))


set_option maxRecDepth 100000 in
theorem sceneMatchesReference_lifted (os : Os) (started : os.Started) (H : Type) (enc : TypeId × Value → H) :
    ReturnsInHanded {} Try.checked os 3 .any (Rows.sceneMatchesReferenceSpec.pre6 enc Try.prog Try.f3 Rows.sceneMatchesReferenceRow.domain false) (Rows.sceneMatchesReferenceSpec.post enc Try.prog Try.f3 false true false false) := by
  refine returnsInHanded_of_change (C := Try.checked) own started (by kernel_rfl) Try.func3
    (ChangeSpec.witness6 (enc := enc) (C := Try.checked) false ⟨#[], #[.slice none 0 0, .agg #[.int .i64 0, .int .i64 0, .slice none 0 0, .slice none 0 0], .int .i64 0, .slice none 0 0, .slice none 0 0], []⟩ 8 (by kernel_rfl) (by kernel_rfl) (by kernel_rfl) (by kernel_rfl)) ?_
  intro W base args ds gs before hval0 hW _ _
  have hval : ∀ (j : Nat) t v, Try.f3.params[j]? = some t → args[j]? = some v → Value.okWide Try.prog W .any base t v := hval0
  have hW' := hW
  obtain ⟨p, q, hA0, hV, rfl, hfz, hnd⟩ := hW
  obtain ⟨rfl, rfl⟩ := trodVars_none hV
  have hA : DataW.TrodAll enc Try.prog W 0 (fun _ => true) true Try.f3.params.toList args.toList ds p := hA0
  rw [Try.params3] at hA hval
  obtain ⟨v0, vs0, d0, ds0, p0, q0, hargs, rfl, rfl, h0, r0⟩ := trodAll_cons hA
  obtain ⟨v1, vs1, d1, ds1, p1, q1, rfl, rfl, rfl, h1, r1⟩ := trodAll_cons r0
  obtain ⟨v2, vs2, d2, ds2, p2, q2, rfl, rfl, rfl, h2, r2⟩ := trodAll_cons r1
  obtain ⟨v3, vs3, d3, ds3, p3, q3, rfl, rfl, rfl, h3, r3⟩ := trodAll_cons r2
  obtain ⟨v4, vs4, d4, ds4, p4, q4, rfl, rfl, rfl, h4, r4⟩ := trodAll_cons r3
  obtain ⟨rfl, rfl, rfl⟩ := trodAll_nil r4
  obtain rfl : args = #[v0, v1, v2, v3, v4] := by cases args; simp_all
  obtain ⟨a0_l, n0_l, c0_l, rfl⟩ := okWide_slice Try.underlying22 (hval 0 22 v0 rfl rfl)
  obtain ⟨fu_l, hf_l⟩ := h0
  obtain ⟨a_l, n_l, c_l, l_l, e_l, g1_l, g2_l, hs_l, wf_l⟩ := sln_of_nights (by simpa [Value.cells] using hf_l)
  cases e_l
  obtain ⟨nt_s, wd_s, ac_s, nc_s, cc_s, zs_s, as_s, ns_s, cs_s, ys_s, rfl, hs_s, wf_s⟩ := scene_of (hval 1 25 v1 rfl rfl) h1
  obtain ⟨k, rfl, rfl, rfl, wk⟩ := open_int Try.underlying3 (hval 2 3 v2 rfl rfl) h2
  obtain ⟨a0_x, n0_x, c0_x, rfl⟩ := okWide_slice Try.underlying26 (hval 3 26 v3 rfl rfl)
  obtain ⟨fu_x, hf_x⟩ := h3
  obtain ⟨a_x, n_x, c_x, l_x, e_x, g1_x, g2_x, hs_x, wf_x⟩ := sls_of_sales (by simpa [Value.cells] using hf_x)
  cases e_x
  obtain ⟨a_a, n_a, c_a, rfl⟩ := okWide_slice Try.underlying23 (hval 4 23 v4 rfl rfl)
  obtain ⟨fu_a, hf_a⟩ := h4
  obtain ⟨zs_a, hs_a, wf_a⟩ := slv_of_ints (by simpa [Value.cells] using hf_a)
  clear hA0 hval0
  refine (scmat_walk _ _ _ l_l nt_s wd_s _ _ _ zs_s _ _ _ ys_s k _ _ _ l_x _ zs_a wf_l wf_s wk wf_x wf_a W ⟨hs_l, g1_l, g2_l⟩ hs_s ⟨hs_x, g1_x, g2_x⟩ hs_a).mono fun e W' ⟨he, hb⟩ => ?_
  subst he
  exact ⟨_, rfl, law_post (B := 4) laidOut (by rw [Try.params3]; simp only [List.mem_cons, List.not_mem_nil, or_false, forall_eq_or_imp, forall_eq]; first | exact readable_sceneMatchesReference | (repeat' apply And.intro) <;> first | exact of_decide_eq_true (by kernel_rfl) | kernel_rfl) rfl Try.underlying4 rfl rfl hW' hb⟩

theorem sceneMatchesReference_over : Rows.sceneMatchesReferenceRow.holds Try.pinned (OpenSpec.ofChange Rows.sceneMatchesReferenceSpec) :=
  OpenClaim.holds_of_wide 3 Try.f3 rfl rfl rfl rfl rfl rfl rfl ⟨rfl, rfl, rfl, rfl, rfl⟩ rfl rfl rfl rfl rfl (by kernel_rfl) Try.func3 (by kernel_rfl)
    (of_decide_eq_true (by kernel_rfl)) (by unfold Func.isWrapper; first | (rw [if_pos (by decide +kernel)]; kernel_rfl) | (rw [if_neg (by decide +kernel)]; exact ⟨rfl, rfl⟩))
    (fun os started H enc _ => sceneMatchesReference_lifted os started H enc)

theorem sceneMatchesReference_holds : Rows.SceneMatchesReferenceSaid := sceneMatchesReference_over
#print axioms sceneMatchesReference_holds

end Go.Proofs.Ytdijdfhlmnhcjaa
