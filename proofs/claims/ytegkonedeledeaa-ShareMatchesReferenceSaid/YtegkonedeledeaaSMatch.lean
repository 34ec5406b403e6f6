/-
  ShareMatchesReference: for any nights, night, channel, rooms and number of channels, valid or not, all functions return what the reference implementation returns.
  No condition: for every input.
-/
import Derived.Test.YtegkonedeledeaaRSell
import Derived.Test.YtegkonedeledeaaRGrant
import Derived.Test.YtegkonedeledeaaSFew
import Derived.Test.YtegkonedeledeaaOpenN
import Derived.Test.YtegkonedeledeaaShareI
import Derived.Test.YtegkonedeledeaaWPlain
import Derived.Test.YtegkonedeledeaaLaw
import Derived.Deep.DeepCutAuto
namespace Go.Proofs.Ytegkonedeledeaa
set_option linter.unusedSimpArgs false
set_option linter.unusedVariables false
open Go.ChangeShapes Go.WideShapes Go.ChangeAt Go.RowKit

theorem SlN.one {w : World} {B : Nat} {r s : Int} {a : Option Addr} {n c : Nat} {zs : List Int} (h : Row w B [.int .i64 r, .int .i64 s, .slice a n c]) (hk : SlI w a n zs) (hn : n ≤ 9223372036854775807) :
    SlN w (some ⟨B, 0, none⟩) 1 [⟨r, s, a, n, c, zs⟩] := by
  refine ⟨rfl, fun i x hx => ?_⟩
  cases i with
  | zero =>
    simp at hx
    subst hx
    exact ⟨⟨hn, hk⟩, B, 0, rfl, h.cell 0 rfl, h.cell 1 rfl, h.cell 2 rfl⟩
  | succ i => simp at hx
theorem SlC.far {w w0 : World} {A b : Option Addr} {p m d : Nat} {zs Z : List Int} {B0 X : Nat} (K0 : SlI w A p zs) (h : SlC w0 b m d Z) (hm : m ≤ p) (hN : ∀ b0 o, b = some ⟨b0, o, none⟩ → B0 ≤ b0 ∨ ∃ s, A = some s ∧ s.block = b0) (hX1 : w.heap.size ≤ X) (hX2 : X < B0) (i : Nat) (v : Value) :
    SlC (w0.setCell ⟨X, i, none⟩ v) b m d Z := by
  obtain ⟨rfl, a', c', e, h1, h2, h3⟩ := h
  cases e
  refine ⟨rfl, b, d, rfl, ⟨h1.1, fun j hj => ?_⟩, h2, h3⟩
  obtain ⟨b0, off, ha, hc⟩ := h1.2 j hj
  have hne : b0 ≠ X := by
    rcases hN b0 off ha with g | ⟨s, hs, hb⟩
    · omega
    · obtain ⟨b1, o1, hA, hlt, _⟩ := K0.at (by omega)
      have e := hs.symm.trans hA
      cases e
      simp at hb
      omega
  refine ⟨b0, off, ha, ?_⟩
  have e := Below.heap_setCell w0 ⟨X, i, none⟩ v b0 hne
  rw [← hc]
  simp only [World.cell?]
  rw [e]
theorem grZ_len (e : Int) (zs : List Int) (ch r : Int) : (grZ e zs ch r).length ≤ zs.length := by unfold grZ; split <;> simp
def tpT (zs : List Int) (cut : Int) : Int := if TopOk zs cut then topS zs cut.toNat else 0
def tpL (zs : List Int) (cut : Int) : List Int := if TopOk zs cut then topL zs cut.toNat else []
def tpE (zs : List Int) (cut : Int) : Int := if TopOk zs cut then 0 else 1
theorem top_cc (a : Option Addr) (n cap : Nat) (zs : List Int) (cut : Int) (w : World) (hm : n ≤ 9223372036854775807) (hs : SlI w a n zs) (T E : Int) (L : List Int) (m : Nat) (hT : tpT zs cut = T) (hE : tpE zs cut = E) (hL : tpL zs cut = L) (hn : L.length = m) :
    Calls Try.prog 17 #[.slice a n cap, .int .i64 cut] w fun e w' => ∃ b d, e = .returned (.tuple #[.int .i64 T, .slice b m d, .int .i64 E]) ∧ SlC w' b m d L ∧ Below w.heap.size w w' := by
  by_cases h : TopOk zs cut
  · unfold tpT at hT; unfold tpE at hE; unfold tpL at hL
    rw [if_pos h] at hT hE hL
    subst hT hE hL
    refine (top_ok a n cap zs cut w hm hs h).mono ?_
    rintro e w' ⟨v, rfl, hv, hb⟩
    obtain ⟨b, d, rfl, k⟩ := hv.sized m hn
    exact ⟨b, d, rfl, k, hb⟩
  · unfold tpT at hT; unfold tpE at hE; unfold tpL at hL
    rw [if_neg h] at hT hE hL
    subst hT hE hL
    simp at hn
    subst hn
    refine (top_not a n cap zs cut w hm hs h).mono ?_
    rintro e w' ⟨rfl, hb⟩
    exact ⟨none, 0, rfl, SlC.nil _, hb⟩
theorem R_top_cc (a : Option Addr) (n cap : Nat) (zs : List Int) (cut : Int) (w : World) (hm : n ≤ 9223372036854775807) (hs : SlI w a n zs) (T E : Int) (L : List Int) (m : Nat) (hT : tpT zs cut = T) (hE : tpE zs cut = E) (hL : tpL zs cut = L) (hn : L.length = m) :
    Calls Try.prog 18 #[.slice a n cap, .int .i64 cut] w fun e w' => ∃ b d, e = .returned (.tuple #[.int .i64 T, .slice b m d, .int .i64 E]) ∧ SlC w' b m d L ∧ Below w.heap.size w w' := by
  by_cases h : TopOk zs cut
  · unfold tpT at hT; unfold tpE at hE; unfold tpL at hL
    rw [if_pos h] at hT hE hL
    subst hT hE hL
    refine (R_top_ok a n cap zs cut w hs h).mono ?_
    rintro e w' ⟨v, rfl, hv, hb⟩
    obtain ⟨b, d, rfl, k⟩ := hv.sized m hn
    exact ⟨b, d, rfl, k, hb⟩
  · unfold tpT at hT; unfold tpE at hE; unfold tpL at hL
    rw [if_neg h] at hT hE hL
    subst hT hE hL
    simp at hn
    subst hn
    refine (R_top_not a n cap zs cut w hm hs h).mono ?_
    rintro e w' ⟨rfl, hb⟩
    exact ⟨none, 0, rfl, SlC.nil _, hb⟩
theorem sell_cc (rooms sold ch r : Int) (a : Option Addr) (n cap : Nat) (zs : List Int) (w : World) (hs : SlC w a n cap zs) (hr : -9223372036854775808 ≤ r ∧ r ≤ 9223372036854775807) (R S E : Int) (Z : List Int) (m : Nat) (hR : seR (seE rooms sold zs ch r) rooms = R) (hS : seR (seE rooms sold zs ch r) (sold + r) = S) (hE : seE rooms sold zs ch r = E) (hZ : seZ (seE rooms sold zs ch r) zs ch r = Z) (hm : Z.length = m) :
    Calls Try.prog 22 #[.agg #[.int .i64 rooms, .int .i64 sold, .slice a n cap], .int .i64 ch, .int .i64 r] w fun e w' => ∃ b d, e = .returned (.tuple #[.agg #[.int .i64 R, .int .i64 S, .slice b m d], .int .i64 E]) ∧ SlC w' b m d Z ∧ Below w.heap.size w w' := by
  subst hR hS hE hZ
  refine (sell_any rooms sold ch r _ zs w hs.v).mono ?_
  rintro e w' ⟨v', rfl, hv, _, hb⟩
  obtain ⟨b, d, rfl, k⟩ := hv.sized m hm
  exact ⟨b, d, rfl, k, hb⟩
theorem R_sell_cc (rooms sold ch r : Int) (a : Option Addr) (n cap : Nat) (zs : List Int) (w : World) (hs : SlC w a n cap zs) (hr : -9223372036854775808 ≤ r ∧ r ≤ 9223372036854775807) (R S E : Int) (Z : List Int) (m : Nat) (hR : seR (seE rooms sold zs ch r) rooms = R) (hS : seR (seE rooms sold zs ch r) (sold + r) = S) (hE : seE rooms sold zs ch r = E) (hZ : seZ (seE rooms sold zs ch r) zs ch r = Z) (hm : Z.length = m) :
    Calls Try.prog 23 #[.agg #[.int .i64 rooms, .int .i64 sold, .slice a n cap], .int .i64 ch, .int .i64 r] w fun e w' => ∃ b d, e = .returned (.tuple #[.agg #[.int .i64 R, .int .i64 S, .slice b m d], .int .i64 E]) ∧ SlC w' b m d Z ∧ Below w.heap.size w w' := by
  subst hR hS hE hZ
  refine (R_sell_any rooms sold ch r _ zs w hs.v).mono ?_
  rintro e w' ⟨v', rfl, hv, hb⟩
  obtain ⟨b, d, rfl, k⟩ := hv.sized m hm
  exact ⟨b, d, rfl, k, hb⟩
theorem from_or {B m d n c b0 o : Nat} {a : Option Addr} (hf : FromV B (.slice a n c) (.slice (some ⟨b0, o, none⟩) m d)) : B ≤ b0 ∨ ∃ s, a = some s ∧ s.block = b0 := by
  rcases hf b0 rfl with g | g
  · exact Or.inl g
  · cases a with
    | none => cases g
    | some s => exact Or.inr ⟨s, rfl, by simpa [Value.ownBlock] using g⟩
theorem grant_cc (rooms sold ch r : Int) (a : Option Addr) (n cap : Nat) (zs : List Int) (w : World) (hs : SlC w a n cap zs) (hr : -9223372036854775808 ≤ r ∧ r ≤ 9223372036854775807) (R S E : Int) (Z : List Int) (m : Nat) (hR : seR (grE rooms sold zs ch r) rooms = R) (hS : seR (grE rooms sold zs ch r) sold = S) (hE : grE rooms sold zs ch r = E) (hZ : grZ (grE rooms sold zs ch r) zs ch r = Z) (hm : Z.length = m) :
    Calls Try.prog 25 #[.agg #[.int .i64 rooms, .int .i64 sold, .slice a n cap], .int .i64 ch, .int .i64 r] w fun e w' => ∃ b d, e = .returned (.tuple #[.agg #[.int .i64 R, .int .i64 S, .slice b m d], .int .i64 E]) ∧ SlC w' b m d Z ∧ (∀ b0 o, b = some ⟨b0, o, none⟩ → w.heap.size ≤ b0 ∨ ∃ s, a = some s ∧ s.block = b0) ∧ Below w.heap.size w w' := by
  subst hR hS hE hZ
  refine (grant_any rooms sold ch r _ zs w hs.v hr).mono ?_
  rintro e w' ⟨v', rfl, hv, hf, hb⟩
  obtain ⟨b, d, rfl, k⟩ := hv.sized m hm
  refine ⟨b, d, rfl, k, fun b0 o e => ?_, hb⟩
  subst e
  exact from_or hf
theorem R_grant_cc (rooms sold ch r : Int) (a : Option Addr) (n cap : Nat) (zs : List Int) (w : World) (hs : SlC w a n cap zs) (hr : -9223372036854775808 ≤ r ∧ r ≤ 9223372036854775807) (R S E : Int) (Z : List Int) (m : Nat) (hR : seR (grE rooms sold zs ch r) rooms = R) (hS : seR (grE rooms sold zs ch r) sold = S) (hE : grE rooms sold zs ch r = E) (hZ : grZ (grE rooms sold zs ch r) zs ch r = Z) (hm : Z.length = m) :
    Calls Try.prog 26 #[.agg #[.int .i64 rooms, .int .i64 sold, .slice a n cap], .int .i64 ch, .int .i64 r] w fun e w' => ∃ b d, e = .returned (.tuple #[.agg #[.int .i64 R, .int .i64 S, .slice b m d], .int .i64 E]) ∧ SlC w' b m d Z ∧ (∀ b0 o, b = some ⟨b0, o, none⟩ → w.heap.size ≤ b0 ∨ ∃ s, a = some s ∧ s.block = b0) ∧ Below w.heap.size w w' := by
  subst hR hS hE hZ
  refine (R_grant_any rooms sold ch r _ zs w hs.v hr).mono ?_
  rintro e w' ⟨v', rfl, hv, hf, hb⟩
  obtain ⟨b, d, rfl, k⟩ := hv.sized m hm
  refine ⟨b, d, rfl, k, fun b0 o e => ?_, hb⟩
  subst e
  exact Or.inl (hf _ _ _ _ rfl)

set_option maxRecDepth 100000 in
set_option maxHeartbeats 12800000 in
theorem smatch_walk (a : Option Addr) (n cap : Nat) (l : List NightV) (n0 n1 : Int) (v : Value) (zs : List Int) (ch r k : Int) (hwf : ∀ x ∈ l, NightWf x) (_ : (Lit.int .i64 n0).wf = true) (_ : (Lit.int .i64 n1).wf = true) (_ : ∀ z ∈ zs, -9223372036854775808 ≤ z ∧ z ≤ 9223372036854775807) (_ : (Lit.int .i64 ch).wf = true) (wr : (Lit.int .i64 r).wf = true) (_ : (Lit.int .i64 k).wf = true) (w : World) (hv1 : SlN w a n l ∧ n ≤ cap ∧ cap ≤ maxLen) (hv : SlV w v zs) :
    Calls Try.prog 3 #[.slice a n cap, .agg #[.int .i64 n0, .int .i64 n1, v], .int .i64 ch, .int .i64 r, .int .i64 k] w fun e w' => e = .returned (.bool true) ∧ Below w.heap.size w w' := by
  obtain ⟨hs, hcap1, hcap2⟩ := hv1
  obtain ⟨A, cap2, rfl, hcap3, hcap4, K⟩ := hv.c
  have hrb := bd_i64 wr
  unfold maxLen at hcap2 hcap4
  obtain ⟨p, hp⟩ : ∃ p, zs.length = p := ⟨_, rfl⟩
  rw [hp] at hcap3 K ⊢
  have HS := Lib.hid hs
  clear hs hwf hv wr hp
  cases hf : fewL l with
  | false =>
    have HF := Lib.hid hf
    clear hf
    go_enter Try.func3, Try.ntmps3
    go_wp2_with fail
    refine (head_any _).mono ?_
    rintro e w1 ⟨rfl, hb1⟩
    have R_n_1 : Row w1 (w.heap.size) [.int .i64 n0, .int .i64 n1, .slice A p cap2] := by (repeat' (first | (with_reducible assumption) | (with_reducible refine Row.new' _ _ _ (by first | rfl | (simp; done) | omega)) | (with_reducible refine Row.alloc ?_ _) | (with_reducible refine Row.drew ?_) | (with_reducible refine Row.drewN ?_ _) | (with_reducible refine Row.step ?_ (by with_reducible assumption)) | (with_reducible refine Row.set2' ?_ _ _; first | exact ⟨_, _, by with_reducible assumption⟩ | exact ⟨_, _, Row.alloc (by with_reducible assumption) _⟩ | exact ⟨_, _, Row.alloc (Row.alloc (by with_reducible assumption) _) _⟩) | (with_reducible refine Row.other ?_ (by first | omega | (simp; done) | (simp; omega)) _)))
    have c_n_0_1 := R_n_1.cell 0 rfl
    have c_n_1_1 := R_n_1.cell 1 rfl
    have c_n_2_1 := R_n_1.cell 2 rfl
    have l_n_1 := R_n_1.lt
    replace K := K.step (show Below w.heap.size w w1 by (repeat' (first | (with_reducible exact Below.refl _ _) | (with_reducible assumption) | (with_reducible exact Bw.out (by with_reducible assumption)) | (with_reducible refine bw_alloc ?_ _) | (with_reducible refine bw_step ?_ (by with_reducible assumption)) | (with_reducible refine Below.alloc ?_ ?_ _) | (with_reducible refine Below.drew ?_) | (with_reducible refine below_drewN ?_ _) | (with_reducible refine Below.setCell ?_ ?_ _) | (with_reducible refine below_step ?_ (by with_reducible assumption) ?_) | (with_reducible exact Nat.le_refl _) | omega | (simp; omega) | (simp; done))))
    have HB1 : Below w.heap.size w w1 := by (repeat' (first | (with_reducible exact Below.refl _ _) | (with_reducible assumption) | (with_reducible exact Bw.out (by with_reducible assumption)) | (with_reducible refine bw_alloc ?_ _) | (with_reducible refine bw_step ?_ (by with_reducible assumption)) | (with_reducible refine Below.alloc ?_ ?_ _) | (with_reducible refine Below.drew ?_) | (with_reducible refine below_drewN ?_ _) | (with_reducible refine Below.setCell ?_ ?_ _) | (with_reducible refine below_step ?_ (by with_reducible assumption) ?_) | (with_reducible exact Nat.le_refl _) | omega | (simp; omega) | (simp; done)))
    go_wp2_with fail
    refine (L_few_any _ _ _ l _ (by omega) (HS.out.below (by (repeat' (first | (with_reducible exact Below.refl _ _) | (with_reducible assumption) | (with_reducible exact Bw.out (by with_reducible assumption)) | (with_reducible refine bw_alloc ?_ _) | (with_reducible refine bw_step ?_ (by with_reducible assumption)) | (with_reducible refine Below.alloc ?_ ?_ _) | (with_reducible refine Below.drew ?_) | (with_reducible refine below_drewN ?_ _) | (with_reducible refine Below.setCell ?_ ?_ _) | (with_reducible refine below_step ?_ (by with_reducible assumption) ?_) | (with_reducible exact Nat.le_refl _) | omega | (simp; omega) | (simp; done))))) false HF.out).mono ?_
    rintro e w2 ⟨rfl, hb2⟩
    have R_n_2 : Row w2 (w.heap.size) [.int .i64 n0, .int .i64 n1, .slice A p cap2] := by (repeat' (first | (with_reducible assumption) | (with_reducible refine Row.new' _ _ _ (by first | rfl | (simp; done) | omega)) | (with_reducible refine Row.alloc ?_ _) | (with_reducible refine Row.drew ?_) | (with_reducible refine Row.drewN ?_ _) | (with_reducible refine Row.step ?_ (by with_reducible assumption)) | (with_reducible refine Row.set2' ?_ _ _; first | exact ⟨_, _, by with_reducible assumption⟩ | exact ⟨_, _, Row.alloc (by with_reducible assumption) _⟩ | exact ⟨_, _, Row.alloc (Row.alloc (by with_reducible assumption) _) _⟩) | (with_reducible refine Row.other ?_ (by first | omega | (simp; done) | (simp; omega)) _)))
    have c_n_0_2 := R_n_2.cell 0 rfl
    have c_n_1_2 := R_n_2.cell 1 rfl
    have c_n_2_2 := R_n_2.cell 2 rfl
    have l_n_2 := R_n_2.lt
    replace K := K.step (show Below w1.heap.size w1 w2 by (repeat' (first | (with_reducible exact Below.refl _ _) | (with_reducible assumption) | (with_reducible exact Bw.out (by with_reducible assumption)) | (with_reducible refine bw_alloc ?_ _) | (with_reducible refine bw_step ?_ (by with_reducible assumption)) | (with_reducible refine Below.alloc ?_ ?_ _) | (with_reducible refine Below.drew ?_) | (with_reducible refine below_drewN ?_ _) | (with_reducible refine Below.setCell ?_ ?_ _) | (with_reducible refine below_step ?_ (by with_reducible assumption) ?_) | (with_reducible exact Nat.le_refl _) | omega | (simp; omega) | (simp; done))))
    have HB2 : Below w.heap.size w w2 := by (repeat' (first | (with_reducible exact Below.refl _ _) | (with_reducible assumption) | (with_reducible exact Bw.out (by with_reducible assumption)) | (with_reducible refine bw_alloc ?_ _) | (with_reducible refine bw_step ?_ (by with_reducible assumption)) | (with_reducible refine Below.alloc ?_ ?_ _) | (with_reducible refine Below.drew ?_) | (with_reducible refine below_drewN ?_ _) | (with_reducible refine Below.setCell ?_ ?_ _) | (with_reducible refine below_step ?_ (by with_reducible assumption) ?_) | (with_reducible exact Nat.le_refl _) | omega | (simp; omega) | (simp; done)))
    clear R_n_1 c_n_0_1 c_n_1_1 c_n_2_1 hb1 HB1
    go_wp2_with fail
    go_ret
    refine ⟨(by first | rfl | exact ret_bool (by first | rfl | (simp; done) | (simp; omega))), ?_⟩
    (repeat' (first | (with_reducible exact Below.refl _ _) | (with_reducible assumption) | (with_reducible exact Bw.out (by with_reducible assumption)) | (with_reducible refine bw_alloc ?_ _) | (with_reducible refine bw_step ?_ (by with_reducible assumption)) | (with_reducible refine Below.alloc ?_ ?_ _) | (with_reducible refine Below.drew ?_) | (with_reducible refine below_drewN ?_ _) | (with_reducible refine Below.setCell ?_ ?_ _) | (with_reducible refine below_step ?_ (by with_reducible assumption) ?_) | (with_reducible exact Nat.le_refl _) | omega | (simp; omega) | (simp; done)))
  | true =>
    have HF := Lib.hid hf
    clear hf
    obtain ⟨B2, hB2⟩ : ∃ B, fewL [⟨n0, n1, A, p, cap2, zs⟩] = B := ⟨_, rfl⟩
    have HF2 := Lib.hid hB2
    clear hB2
    obtain ⟨T, hT⟩ : ∃ T, tpT zs k = T := ⟨_, rfl⟩
    obtain ⟨E, hE⟩ : ∃ T, tpE zs k = T := ⟨_, rfl⟩
    obtain ⟨L, hL⟩ : ∃ T, tpL zs k = T := ⟨_, rfl⟩
    obtain ⟨m, hm⟩ : ∃ m, L.length = m := ⟨_, rfl⟩
    obtain ⟨V, hV⟩ : ∃ V, nightsB l = V := ⟨_, rfl⟩
    obtain ⟨R1, hR1⟩ : ∃ R, seR (seE n0 n1 zs ch r) n0 = R := ⟨_, rfl⟩
    obtain ⟨S1, hS1⟩ : ∃ R, seR (seE n0 n1 zs ch r) (n1 + r) = R := ⟨_, rfl⟩
    obtain ⟨Z1, hZ1⟩ : ∃ R, seZ (seE n0 n1 zs ch r) zs ch r = R := ⟨_, rfl⟩
    obtain ⟨E1, hE1⟩ : ∃ R, seE n0 n1 zs ch r = R := ⟨_, rfl⟩
    obtain ⟨m1, hm1⟩ : ∃ m, Z1.length = m := ⟨_, rfl⟩
    obtain ⟨R2, hR2⟩ : ∃ R, seR (grE n0 n1 zs ch r) n0 = R := ⟨_, rfl⟩
    obtain ⟨S2, hS2⟩ : ∃ R, seR (grE n0 n1 zs ch r) n1 = R := ⟨_, rfl⟩
    obtain ⟨Z2, hZ2⟩ : ∃ R, grZ (grE n0 n1 zs ch r) zs ch r = R := ⟨_, rfl⟩
    obtain ⟨E2, hE2⟩ : ∃ R, grE n0 n1 zs ch r = R := ⟨_, rfl⟩
    obtain ⟨m2, hm2⟩ : ∃ m, Z2.length = m := ⟨_, rfl⟩
    have HT := Lib.hid hT; have HE := Lib.hid hE; have HL := Lib.hid hL; have HM := Lib.hid hm; have HV := Lib.hid hV
    have HR1 := Lib.hid hR1; have HS1 := Lib.hid hS1; have HZ1 := Lib.hid hZ1; have HE1 := Lib.hid hE1; have HM1 := Lib.hid hm1
    have HR2 := Lib.hid hR2; have HS2 := Lib.hid hS2; have HZ2 := Lib.hid hZ2; have HE2 := Lib.hid hE2; have HM2 := Lib.hid hm2
    clear hT hE hL hm hV hR1 hS1 hZ1 hE1 hm1 hR2 hS2 hZ2 hE2 hm2
    go_enter Try.func3, Try.ntmps3
    have K0 := Lib.hid K
    go_wp2_with fail
    refine (head_any _).mono ?_
    rintro e w1 ⟨rfl, hb1⟩
    have R_n_1 : Row w1 (w.heap.size) [.int .i64 n0, .int .i64 n1, .slice A p cap2] := by (repeat' (first | (with_reducible assumption) | (with_reducible refine Row.new' _ _ _ (by first | rfl | (simp; done) | omega)) | (with_reducible refine Row.alloc ?_ _) | (with_reducible refine Row.drew ?_) | (with_reducible refine Row.drewN ?_ _) | (with_reducible refine Row.step ?_ (by with_reducible assumption)) | (with_reducible refine Row.set2' ?_ _ _; first | exact ⟨_, _, by with_reducible assumption⟩ | exact ⟨_, _, Row.alloc (by with_reducible assumption) _⟩ | exact ⟨_, _, Row.alloc (Row.alloc (by with_reducible assumption) _) _⟩) | (with_reducible refine Row.other ?_ (by first | omega | (simp; done) | (simp; omega)) _)))
    have c_n_0_1 := R_n_1.cell 0 rfl
    have c_n_1_1 := R_n_1.cell 1 rfl
    have c_n_2_1 := R_n_1.cell 2 rfl
    have l_n_1 := R_n_1.lt
    replace K := K.step (show Below w.heap.size w w1 by (repeat' (first | (with_reducible exact Below.refl _ _) | (with_reducible assumption) | (with_reducible exact Bw.out (by with_reducible assumption)) | (with_reducible refine bw_alloc ?_ _) | (with_reducible refine bw_step ?_ (by with_reducible assumption)) | (with_reducible refine Below.alloc ?_ ?_ _) | (with_reducible refine Below.drew ?_) | (with_reducible refine below_drewN ?_ _) | (with_reducible refine Below.setCell ?_ ?_ _) | (with_reducible refine below_step ?_ (by with_reducible assumption) ?_) | (with_reducible exact Nat.le_refl _) | omega | (simp; omega) | (simp; done))))
    have HB1 : Below w.heap.size w w1 := by (repeat' (first | (with_reducible exact Below.refl _ _) | (with_reducible assumption) | (with_reducible exact Bw.out (by with_reducible assumption)) | (with_reducible refine bw_alloc ?_ _) | (with_reducible refine bw_step ?_ (by with_reducible assumption)) | (with_reducible refine Below.alloc ?_ ?_ _) | (with_reducible refine Below.drew ?_) | (with_reducible refine below_drewN ?_ _) | (with_reducible refine Below.setCell ?_ ?_ _) | (with_reducible refine below_step ?_ (by with_reducible assumption) ?_) | (with_reducible exact Nat.le_refl _) | omega | (simp; omega) | (simp; done)))
    go_wp2_with fail
    refine (L_few_any _ _ _ l _ (by omega) (HS.out.below (by (repeat' (first | (with_reducible exact Below.refl _ _) | (with_reducible assumption) | (with_reducible exact Bw.out (by with_reducible assumption)) | (with_reducible refine bw_alloc ?_ _) | (with_reducible refine bw_step ?_ (by with_reducible assumption)) | (with_reducible refine Below.alloc ?_ ?_ _) | (with_reducible refine Below.drew ?_) | (with_reducible refine below_drewN ?_ _) | (with_reducible refine Below.setCell ?_ ?_ _) | (with_reducible refine below_step ?_ (by with_reducible assumption) ?_) | (with_reducible exact Nat.le_refl _) | omega | (simp; omega) | (simp; done))))) true HF.out).mono ?_
    rintro e w2 ⟨rfl, hb2⟩
    have R_n_2 : Row w2 (w.heap.size) [.int .i64 n0, .int .i64 n1, .slice A p cap2] := by (repeat' (first | (with_reducible assumption) | (with_reducible refine Row.new' _ _ _ (by first | rfl | (simp; done) | omega)) | (with_reducible refine Row.alloc ?_ _) | (with_reducible refine Row.drew ?_) | (with_reducible refine Row.drewN ?_ _) | (with_reducible refine Row.step ?_ (by with_reducible assumption)) | (with_reducible refine Row.set2' ?_ _ _; first | exact ⟨_, _, by with_reducible assumption⟩ | exact ⟨_, _, Row.alloc (by with_reducible assumption) _⟩ | exact ⟨_, _, Row.alloc (Row.alloc (by with_reducible assumption) _) _⟩) | (with_reducible refine Row.other ?_ (by first | omega | (simp; done) | (simp; omega)) _)))
    have c_n_0_2 := R_n_2.cell 0 rfl
    have c_n_1_2 := R_n_2.cell 1 rfl
    have c_n_2_2 := R_n_2.cell 2 rfl
    have l_n_2 := R_n_2.lt
    replace K := K.step (show Below w1.heap.size w1 w2 by (repeat' (first | (with_reducible exact Below.refl _ _) | (with_reducible assumption) | (with_reducible exact Bw.out (by with_reducible assumption)) | (with_reducible refine bw_alloc ?_ _) | (with_reducible refine bw_step ?_ (by with_reducible assumption)) | (with_reducible refine Below.alloc ?_ ?_ _) | (with_reducible refine Below.drew ?_) | (with_reducible refine below_drewN ?_ _) | (with_reducible refine Below.setCell ?_ ?_ _) | (with_reducible refine below_step ?_ (by with_reducible assumption) ?_) | (with_reducible exact Nat.le_refl _) | omega | (simp; omega) | (simp; done))))
    have HB2 : Below w.heap.size w w2 := by (repeat' (first | (with_reducible exact Below.refl _ _) | (with_reducible assumption) | (with_reducible exact Bw.out (by with_reducible assumption)) | (with_reducible refine bw_alloc ?_ _) | (with_reducible refine bw_step ?_ (by with_reducible assumption)) | (with_reducible refine Below.alloc ?_ ?_ _) | (with_reducible refine Below.drew ?_) | (with_reducible refine below_drewN ?_ _) | (with_reducible refine Below.setCell ?_ ?_ _) | (with_reducible refine below_step ?_ (by with_reducible assumption) ?_) | (with_reducible exact Nat.le_refl _) | omega | (simp; omega) | (simp; done)))
    clear R_n_1 c_n_0_1 c_n_1_1 c_n_2_1 hb1 HB1
    go_wp2_with fail
    refine (L_few_any _ 1 1 _ _ (by omega) (SlN.one (by (repeat' (first | (with_reducible assumption) | (with_reducible refine Row.new' _ _ _ (by first | rfl | (simp; done) | omega)) | (with_reducible refine Row.alloc ?_ _) | (with_reducible refine Row.drew ?_) | (with_reducible refine Row.drewN ?_ _) | (with_reducible refine Row.step ?_ (by with_reducible assumption))))) (SlC.sl (K.step (by (repeat' (first | (with_reducible exact Below.refl _ _) | (with_reducible assumption) | (with_reducible exact Bw.out (by with_reducible assumption)) | (with_reducible refine bw_alloc ?_ _) | (with_reducible refine bw_step ?_ (by with_reducible assumption)) | (with_reducible refine Below.alloc ?_ ?_ _) | (with_reducible refine Below.drew ?_) | (with_reducible refine below_drewN ?_ _) | (with_reducible refine Below.setCell ?_ ?_ _) | (with_reducible refine below_step ?_ (by with_reducible assumption) ?_) | (with_reducible exact Nat.le_refl _) | omega | (simp; omega) | (simp; done)))))) (by omega)) B2 HF2.out).mono ?_
    rintro e w3 ⟨rfl, hb3⟩
    have R_n_3 : Row w3 (w.heap.size) [.int .i64 n0, .int .i64 n1, .slice A p cap2] := by (repeat' (first | (with_reducible assumption) | (with_reducible refine Row.new' _ _ _ (by first | rfl | (simp; done) | omega)) | (with_reducible refine Row.alloc ?_ _) | (with_reducible refine Row.drew ?_) | (with_reducible refine Row.drewN ?_ _) | (with_reducible refine Row.step ?_ (by with_reducible assumption)) | (with_reducible refine Row.set2' ?_ _ _; first | exact ⟨_, _, by with_reducible assumption⟩ | exact ⟨_, _, Row.alloc (by with_reducible assumption) _⟩ | exact ⟨_, _, Row.alloc (Row.alloc (by with_reducible assumption) _) _⟩) | (with_reducible refine Row.other ?_ (by first | omega | (simp; done) | (simp; omega)) _)))
    have c_n_0_3 := R_n_3.cell 0 rfl
    have c_n_1_3 := R_n_3.cell 1 rfl
    have c_n_2_3 := R_n_3.cell 2 rfl
    have l_n_3 := R_n_3.lt
    replace K := K.step (show Below w2.heap.size w2 w3 by (repeat' (first | (with_reducible exact Below.refl _ _) | (with_reducible assumption) | (with_reducible exact Bw.out (by with_reducible assumption)) | (with_reducible refine bw_alloc ?_ _) | (with_reducible refine bw_step ?_ (by with_reducible assumption)) | (with_reducible refine Below.alloc ?_ ?_ _) | (with_reducible refine Below.drew ?_) | (with_reducible refine below_drewN ?_ _) | (with_reducible refine Below.setCell ?_ ?_ _) | (with_reducible refine below_step ?_ (by with_reducible assumption) ?_) | (with_reducible exact Nat.le_refl _) | omega | (simp; omega) | (simp; done))))
    have HB3 : Below w.heap.size w w3 := by (repeat' (first | (with_reducible exact Below.refl _ _) | (with_reducible assumption) | (with_reducible exact Bw.out (by with_reducible assumption)) | (with_reducible refine bw_alloc ?_ _) | (with_reducible refine bw_step ?_ (by with_reducible assumption)) | (with_reducible refine Below.alloc ?_ ?_ _) | (with_reducible refine Below.drew ?_) | (with_reducible refine below_drewN ?_ _) | (with_reducible refine Below.setCell ?_ ?_ _) | (with_reducible refine below_step ?_ (by with_reducible assumption) ?_) | (with_reducible exact Nat.le_refl _) | omega | (simp; omega) | (simp; done)))
    clear R_n_2 c_n_0_2 c_n_1_2 c_n_2_2 hb2 HB2
    cases B2 with
    | false =>
      go_wp2_with fail
      go_ret
      refine ⟨(by first | rfl | exact ret_bool (by first | rfl | (simp; done) | (simp; omega))), ?_⟩
      (repeat' (first | (with_reducible exact Below.refl _ _) | (with_reducible assumption) | (with_reducible exact Bw.out (by with_reducible assumption)) | (with_reducible refine bw_alloc ?_ _) | (with_reducible refine bw_step ?_ (by with_reducible assumption)) | (with_reducible refine Below.alloc ?_ ?_ _) | (with_reducible refine Below.drew ?_) | (with_reducible refine below_drewN ?_ _) | (with_reducible refine Below.setCell ?_ ?_ _) | (with_reducible refine below_step ?_ (by with_reducible assumption) ?_) | (with_reducible exact Nat.le_refl _) | omega | (simp; omega) | (simp; done)))
    | true =>
      go_wp2_with fail
      refine (top_cc _ _ _ zs k _ (by omega) (SlC.sl (K.step (by (repeat' (first | (with_reducible exact Below.refl _ _) | (with_reducible assumption) | (with_reducible exact Bw.out (by with_reducible assumption)) | (with_reducible refine bw_alloc ?_ _) | (with_reducible refine bw_step ?_ (by with_reducible assumption)) | (with_reducible refine Below.alloc ?_ ?_ _) | (with_reducible refine Below.drew ?_) | (with_reducible refine below_drewN ?_ _) | (with_reducible refine Below.setCell ?_ ?_ _) | (with_reducible refine below_step ?_ (by with_reducible assumption) ?_) | (with_reducible exact Nat.le_refl _) | omega | (simp; omega) | (simp; done)))))) T E L m HT.out HE.out HL.out HM.out).mono ?_
      rintro e w4 ⟨b1, d1, rfl, K1, hb4⟩
      have R_n_4 : Row w4 (w.heap.size) [.int .i64 n0, .int .i64 n1, .slice A p cap2] := by (repeat' (first | (with_reducible assumption) | (with_reducible refine Row.new' _ _ _ (by first | rfl | (simp; done) | omega)) | (with_reducible refine Row.alloc ?_ _) | (with_reducible refine Row.drew ?_) | (with_reducible refine Row.drewN ?_ _) | (with_reducible refine Row.step ?_ (by with_reducible assumption)) | (with_reducible refine Row.set2' ?_ _ _; first | exact ⟨_, _, by with_reducible assumption⟩ | exact ⟨_, _, Row.alloc (by with_reducible assumption) _⟩ | exact ⟨_, _, Row.alloc (Row.alloc (by with_reducible assumption) _) _⟩) | (with_reducible refine Row.other ?_ (by first | omega | (simp; done) | (simp; omega)) _)))
      have c_n_0_4 := R_n_4.cell 0 rfl
      have c_n_1_4 := R_n_4.cell 1 rfl
      have c_n_2_4 := R_n_4.cell 2 rfl
      have l_n_4 := R_n_4.lt
      replace K := K.step (show Below w3.heap.size w3 w4 by (repeat' (first | (with_reducible exact Below.refl _ _) | (with_reducible assumption) | (with_reducible exact Bw.out (by with_reducible assumption)) | (with_reducible refine bw_alloc ?_ _) | (with_reducible refine bw_step ?_ (by with_reducible assumption)) | (with_reducible refine Below.alloc ?_ ?_ _) | (with_reducible refine Below.drew ?_) | (with_reducible refine below_drewN ?_ _) | (with_reducible refine Below.setCell ?_ ?_ _) | (with_reducible refine below_step ?_ (by with_reducible assumption) ?_) | (with_reducible exact Nat.le_refl _) | omega | (simp; omega) | (simp; done))))
      have HB4 : Below w.heap.size w w4 := by (repeat' (first | (with_reducible exact Below.refl _ _) | (with_reducible assumption) | (with_reducible exact Bw.out (by with_reducible assumption)) | (with_reducible refine bw_alloc ?_ _) | (with_reducible refine bw_step ?_ (by with_reducible assumption)) | (with_reducible refine Below.alloc ?_ ?_ _) | (with_reducible refine Below.drew ?_) | (with_reducible refine below_drewN ?_ _) | (with_reducible refine Below.setCell ?_ ?_ _) | (with_reducible refine below_step ?_ (by with_reducible assumption) ?_) | (with_reducible exact Nat.le_refl _) | omega | (simp; omega) | (simp; done)))
      clear R_n_3 c_n_0_3 c_n_1_3 c_n_2_3 hb3 HB3
      go_wp2_with fail
      refine (R_top_cc _ _ _ zs k _ (by omega) (SlC.sl (K.step (by (repeat' (first | (with_reducible exact Below.refl _ _) | (with_reducible assumption) | (with_reducible exact Bw.out (by with_reducible assumption)) | (with_reducible refine bw_alloc ?_ _) | (with_reducible refine bw_step ?_ (by with_reducible assumption)) | (with_reducible refine Below.alloc ?_ ?_ _) | (with_reducible refine Below.drew ?_) | (with_reducible refine below_drewN ?_ _) | (with_reducible refine Below.setCell ?_ ?_ _) | (with_reducible refine below_step ?_ (by with_reducible assumption) ?_) | (with_reducible exact Nat.le_refl _) | omega | (simp; omega) | (simp; done)))))) T E L m HT.out HE.out HL.out HM.out).mono ?_
      rintro e w5 ⟨b2, d2, rfl, K2, hb5⟩
      have R_n_5 : Row w5 (w.heap.size) [.int .i64 n0, .int .i64 n1, .slice A p cap2] := by (repeat' (first | (with_reducible assumption) | (with_reducible refine Row.new' _ _ _ (by first | rfl | (simp; done) | omega)) | (with_reducible refine Row.alloc ?_ _) | (with_reducible refine Row.drew ?_) | (with_reducible refine Row.drewN ?_ _) | (with_reducible refine Row.step ?_ (by with_reducible assumption)) | (with_reducible refine Row.set2' ?_ _ _; first | exact ⟨_, _, by with_reducible assumption⟩ | exact ⟨_, _, Row.alloc (by with_reducible assumption) _⟩ | exact ⟨_, _, Row.alloc (Row.alloc (by with_reducible assumption) _) _⟩) | (with_reducible refine Row.other ?_ (by first | omega | (simp; done) | (simp; omega)) _)))
      have c_n_0_5 := R_n_5.cell 0 rfl
      have c_n_1_5 := R_n_5.cell 1 rfl
      have c_n_2_5 := R_n_5.cell 2 rfl
      have l_n_5 := R_n_5.lt
      replace K := K.step (show Below w4.heap.size w4 w5 by (repeat' (first | (with_reducible exact Below.refl _ _) | (with_reducible assumption) | (with_reducible exact Bw.out (by with_reducible assumption)) | (with_reducible refine bw_alloc ?_ _) | (with_reducible refine bw_step ?_ (by with_reducible assumption)) | (with_reducible refine Below.alloc ?_ ?_ _) | (with_reducible refine Below.drew ?_) | (with_reducible refine below_drewN ?_ _) | (with_reducible refine Below.setCell ?_ ?_ _) | (with_reducible refine below_step ?_ (by with_reducible assumption) ?_) | (with_reducible exact Nat.le_refl _) | omega | (simp; omega) | (simp; done))))
      replace K1 := K1.step (show Below w4.heap.size w4 w5 by (repeat' (first | (with_reducible exact Below.refl _ _) | (with_reducible assumption) | (with_reducible exact Bw.out (by with_reducible assumption)) | (with_reducible refine bw_alloc ?_ _) | (with_reducible refine bw_step ?_ (by with_reducible assumption)) | (with_reducible refine Below.alloc ?_ ?_ _) | (with_reducible refine Below.drew ?_) | (with_reducible refine below_drewN ?_ _) | (with_reducible refine Below.setCell ?_ ?_ _) | (with_reducible refine below_step ?_ (by with_reducible assumption) ?_) | (with_reducible exact Nat.le_refl _) | omega | (simp; omega) | (simp; done))))
      have HB5 : Below w.heap.size w w5 := by (repeat' (first | (with_reducible exact Below.refl _ _) | (with_reducible assumption) | (with_reducible exact Bw.out (by with_reducible assumption)) | (with_reducible refine bw_alloc ?_ _) | (with_reducible refine bw_step ?_ (by with_reducible assumption)) | (with_reducible refine Below.alloc ?_ ?_ _) | (with_reducible refine Below.drew ?_) | (with_reducible refine below_drewN ?_ _) | (with_reducible refine Below.setCell ?_ ?_ _) | (with_reducible refine below_step ?_ (by with_reducible assumption) ?_) | (with_reducible exact Nat.le_refl _) | omega | (simp; omega) | (simp; done)))
      clear R_n_4 c_n_0_4 c_n_1_4 c_n_2_4 hb4 HB4
      go_wp2_with fail
      refine (share_valid_any _ _ _ l _ (by omega) (HS.out.below (by (repeat' (first | (with_reducible exact Below.refl _ _) | (with_reducible assumption) | (with_reducible exact Bw.out (by with_reducible assumption)) | (with_reducible refine bw_alloc ?_ _) | (with_reducible refine bw_step ?_ (by with_reducible assumption)) | (with_reducible refine Below.alloc ?_ ?_ _) | (with_reducible refine Below.drew ?_) | (with_reducible refine below_drewN ?_ _) | (with_reducible refine Below.setCell ?_ ?_ _) | (with_reducible refine below_step ?_ (by with_reducible assumption) ?_) | (with_reducible exact Nat.le_refl _) | omega | (simp; omega) | (simp; done)))))).mono ?_
      rintro e w6 ⟨rfl, hb6⟩
      have R_n_6 : Row w6 (w.heap.size) [.int .i64 n0, .int .i64 n1, .slice A p cap2] := by (repeat' (first | (with_reducible assumption) | (with_reducible refine Row.new' _ _ _ (by first | rfl | (simp; done) | omega)) | (with_reducible refine Row.alloc ?_ _) | (with_reducible refine Row.drew ?_) | (with_reducible refine Row.drewN ?_ _) | (with_reducible refine Row.step ?_ (by with_reducible assumption)) | (with_reducible refine Row.set2' ?_ _ _; first | exact ⟨_, _, by with_reducible assumption⟩ | exact ⟨_, _, Row.alloc (by with_reducible assumption) _⟩ | exact ⟨_, _, Row.alloc (Row.alloc (by with_reducible assumption) _) _⟩) | (with_reducible refine Row.other ?_ (by first | omega | (simp; done) | (simp; omega)) _)))
      have c_n_0_6 := R_n_6.cell 0 rfl
      have c_n_1_6 := R_n_6.cell 1 rfl
      have c_n_2_6 := R_n_6.cell 2 rfl
      have l_n_6 := R_n_6.lt
      replace K := K.step (show Below w5.heap.size w5 w6 by (repeat' (first | (with_reducible exact Below.refl _ _) | (with_reducible assumption) | (with_reducible exact Bw.out (by with_reducible assumption)) | (with_reducible refine bw_alloc ?_ _) | (with_reducible refine bw_step ?_ (by with_reducible assumption)) | (with_reducible refine Below.alloc ?_ ?_ _) | (with_reducible refine Below.drew ?_) | (with_reducible refine below_drewN ?_ _) | (with_reducible refine Below.setCell ?_ ?_ _) | (with_reducible refine below_step ?_ (by with_reducible assumption) ?_) | (with_reducible exact Nat.le_refl _) | omega | (simp; omega) | (simp; done))))
      replace K1 := K1.step (show Below w5.heap.size w5 w6 by (repeat' (first | (with_reducible exact Below.refl _ _) | (with_reducible assumption) | (with_reducible exact Bw.out (by with_reducible assumption)) | (with_reducible refine bw_alloc ?_ _) | (with_reducible refine bw_step ?_ (by with_reducible assumption)) | (with_reducible refine Below.alloc ?_ ?_ _) | (with_reducible refine Below.drew ?_) | (with_reducible refine below_drewN ?_ _) | (with_reducible refine Below.setCell ?_ ?_ _) | (with_reducible refine below_step ?_ (by with_reducible assumption) ?_) | (with_reducible exact Nat.le_refl _) | omega | (simp; omega) | (simp; done))))
      replace K2 := K2.step (show Below w5.heap.size w5 w6 by (repeat' (first | (with_reducible exact Below.refl _ _) | (with_reducible assumption) | (with_reducible exact Bw.out (by with_reducible assumption)) | (with_reducible refine bw_alloc ?_ _) | (with_reducible refine bw_step ?_ (by with_reducible assumption)) | (with_reducible refine Below.alloc ?_ ?_ _) | (with_reducible refine Below.drew ?_) | (with_reducible refine below_drewN ?_ _) | (with_reducible refine Below.setCell ?_ ?_ _) | (with_reducible refine below_step ?_ (by with_reducible assumption) ?_) | (with_reducible exact Nat.le_refl _) | omega | (simp; omega) | (simp; done))))
      have HB6 : Below w.heap.size w w6 := by (repeat' (first | (with_reducible exact Below.refl _ _) | (with_reducible assumption) | (with_reducible exact Bw.out (by with_reducible assumption)) | (with_reducible refine bw_alloc ?_ _) | (with_reducible refine bw_step ?_ (by with_reducible assumption)) | (with_reducible refine Below.alloc ?_ ?_ _) | (with_reducible refine Below.drew ?_) | (with_reducible refine below_drewN ?_ _) | (with_reducible refine Below.setCell ?_ ?_ _) | (with_reducible refine below_step ?_ (by with_reducible assumption) ?_) | (with_reducible exact Nat.le_refl _) | omega | (simp; omega) | (simp; done)))
      clear R_n_5 c_n_0_5 c_n_1_5 c_n_2_5 hb5 HB5
      rw [HV.out]
      go_wp2_with fail
      refine (R_valid_any _ _ _ l _ (by omega) (HS.out.below (by (repeat' (first | (with_reducible exact Below.refl _ _) | (with_reducible assumption) | (with_reducible exact Bw.out (by with_reducible assumption)) | (with_reducible refine bw_alloc ?_ _) | (with_reducible refine bw_step ?_ (by with_reducible assumption)) | (with_reducible refine Below.alloc ?_ ?_ _) | (with_reducible refine Below.drew ?_) | (with_reducible refine below_drewN ?_ _) | (with_reducible refine Below.setCell ?_ ?_ _) | (with_reducible refine below_step ?_ (by with_reducible assumption) ?_) | (with_reducible exact Nat.le_refl _) | omega | (simp; omega) | (simp; done))))) V HV.out).mono ?_
      rintro e w7 ⟨rfl, hb7⟩
      have R_n_7 : Row w7 (w.heap.size) [.int .i64 n0, .int .i64 n1, .slice A p cap2] := by (repeat' (first | (with_reducible assumption) | (with_reducible refine Row.new' _ _ _ (by first | rfl | (simp; done) | omega)) | (with_reducible refine Row.alloc ?_ _) | (with_reducible refine Row.drew ?_) | (with_reducible refine Row.drewN ?_ _) | (with_reducible refine Row.step ?_ (by with_reducible assumption)) | (with_reducible refine Row.set2' ?_ _ _; first | exact ⟨_, _, by with_reducible assumption⟩ | exact ⟨_, _, Row.alloc (by with_reducible assumption) _⟩ | exact ⟨_, _, Row.alloc (Row.alloc (by with_reducible assumption) _) _⟩) | (with_reducible refine Row.other ?_ (by first | omega | (simp; done) | (simp; omega)) _)))
      have c_n_0_7 := R_n_7.cell 0 rfl
      have c_n_1_7 := R_n_7.cell 1 rfl
      have c_n_2_7 := R_n_7.cell 2 rfl
      have l_n_7 := R_n_7.lt
      replace K := K.step (show Below w6.heap.size w6 w7 by (repeat' (first | (with_reducible exact Below.refl _ _) | (with_reducible assumption) | (with_reducible exact Bw.out (by with_reducible assumption)) | (with_reducible refine bw_alloc ?_ _) | (with_reducible refine bw_step ?_ (by with_reducible assumption)) | (with_reducible refine Below.alloc ?_ ?_ _) | (with_reducible refine Below.drew ?_) | (with_reducible refine below_drewN ?_ _) | (with_reducible refine Below.setCell ?_ ?_ _) | (with_reducible refine below_step ?_ (by with_reducible assumption) ?_) | (with_reducible exact Nat.le_refl _) | omega | (simp; omega) | (simp; done))))
      replace K1 := K1.step (show Below w6.heap.size w6 w7 by (repeat' (first | (with_reducible exact Below.refl _ _) | (with_reducible assumption) | (with_reducible exact Bw.out (by with_reducible assumption)) | (with_reducible refine bw_alloc ?_ _) | (with_reducible refine bw_step ?_ (by with_reducible assumption)) | (with_reducible refine Below.alloc ?_ ?_ _) | (with_reducible refine Below.drew ?_) | (with_reducible refine below_drewN ?_ _) | (with_reducible refine Below.setCell ?_ ?_ _) | (with_reducible refine below_step ?_ (by with_reducible assumption) ?_) | (with_reducible exact Nat.le_refl _) | omega | (simp; omega) | (simp; done))))
      replace K2 := K2.step (show Below w6.heap.size w6 w7 by (repeat' (first | (with_reducible exact Below.refl _ _) | (with_reducible assumption) | (with_reducible exact Bw.out (by with_reducible assumption)) | (with_reducible refine bw_alloc ?_ _) | (with_reducible refine bw_step ?_ (by with_reducible assumption)) | (with_reducible refine Below.alloc ?_ ?_ _) | (with_reducible refine Below.drew ?_) | (with_reducible refine below_drewN ?_ _) | (with_reducible refine Below.setCell ?_ ?_ _) | (with_reducible refine below_step ?_ (by with_reducible assumption) ?_) | (with_reducible exact Nat.le_refl _) | omega | (simp; omega) | (simp; done))))
      have HB7 : Below w.heap.size w w7 := by (repeat' (first | (with_reducible exact Below.refl _ _) | (with_reducible assumption) | (with_reducible exact Bw.out (by with_reducible assumption)) | (with_reducible refine bw_alloc ?_ _) | (with_reducible refine bw_step ?_ (by with_reducible assumption)) | (with_reducible refine Below.alloc ?_ ?_ _) | (with_reducible refine Below.drew ?_) | (with_reducible refine below_drewN ?_ _) | (with_reducible refine Below.setCell ?_ ?_ _) | (with_reducible refine below_step ?_ (by with_reducible assumption) ?_) | (with_reducible exact Nat.le_refl _) | omega | (simp; omega) | (simp; done)))
      clear R_n_6 c_n_0_6 c_n_1_6 c_n_2_6 hb6 HB6
      go_wp2_with fail
      refine (R_sameInts_c _ _ _ _ _ _ L L true _ (K1.step (by (repeat' (first | (with_reducible exact Below.refl _ _) | (with_reducible assumption) | (with_reducible exact Bw.out (by with_reducible assumption)) | (with_reducible refine bw_alloc ?_ _) | (with_reducible refine bw_step ?_ (by with_reducible assumption)) | (with_reducible refine Below.alloc ?_ ?_ _) | (with_reducible refine Below.drew ?_) | (with_reducible refine below_drewN ?_ _) | (with_reducible refine Below.setCell ?_ ?_ _) | (with_reducible refine below_step ?_ (by with_reducible assumption) ?_) | (with_reducible exact Nat.le_refl _) | omega | (simp; omega) | (simp; done))))) (K2.step (by (repeat' (first | (with_reducible exact Below.refl _ _) | (with_reducible assumption) | (with_reducible exact Bw.out (by with_reducible assumption)) | (with_reducible refine bw_alloc ?_ _) | (with_reducible refine bw_step ?_ (by with_reducible assumption)) | (with_reducible refine Below.alloc ?_ ?_ _) | (with_reducible refine Below.drew ?_) | (with_reducible refine below_drewN ?_ _) | (with_reducible refine Below.setCell ?_ ?_ _) | (with_reducible refine below_step ?_ (by with_reducible assumption) ?_) | (with_reducible exact Nat.le_refl _) | omega | (simp; omega) | (simp; done))))) (by simp)).mono ?_
      rintro e w8 ⟨rfl, hb8⟩
      have R_n_8 : Row w8 (w.heap.size) [.int .i64 n0, .int .i64 n1, .slice A p cap2] := by (repeat' (first | (with_reducible assumption) | (with_reducible refine Row.new' _ _ _ (by first | rfl | (simp; done) | omega)) | (with_reducible refine Row.alloc ?_ _) | (with_reducible refine Row.drew ?_) | (with_reducible refine Row.drewN ?_ _) | (with_reducible refine Row.step ?_ (by with_reducible assumption)) | (with_reducible refine Row.set2' ?_ _ _; first | exact ⟨_, _, by with_reducible assumption⟩ | exact ⟨_, _, Row.alloc (by with_reducible assumption) _⟩ | exact ⟨_, _, Row.alloc (Row.alloc (by with_reducible assumption) _) _⟩) | (with_reducible refine Row.other ?_ (by first | omega | (simp; done) | (simp; omega)) _)))
      have c_n_0_8 := R_n_8.cell 0 rfl
      have c_n_1_8 := R_n_8.cell 1 rfl
      have c_n_2_8 := R_n_8.cell 2 rfl
      have l_n_8 := R_n_8.lt
      replace K := K.step (show Below w7.heap.size w7 w8 by (repeat' (first | (with_reducible exact Below.refl _ _) | (with_reducible assumption) | (with_reducible exact Bw.out (by with_reducible assumption)) | (with_reducible refine bw_alloc ?_ _) | (with_reducible refine bw_step ?_ (by with_reducible assumption)) | (with_reducible refine Below.alloc ?_ ?_ _) | (with_reducible refine Below.drew ?_) | (with_reducible refine below_drewN ?_ _) | (with_reducible refine Below.setCell ?_ ?_ _) | (with_reducible refine below_step ?_ (by with_reducible assumption) ?_) | (with_reducible exact Nat.le_refl _) | omega | (simp; omega) | (simp; done))))
      replace K1 := K1.step (show Below w7.heap.size w7 w8 by (repeat' (first | (with_reducible exact Below.refl _ _) | (with_reducible assumption) | (with_reducible exact Bw.out (by with_reducible assumption)) | (with_reducible refine bw_alloc ?_ _) | (with_reducible refine bw_step ?_ (by with_reducible assumption)) | (with_reducible refine Below.alloc ?_ ?_ _) | (with_reducible refine Below.drew ?_) | (with_reducible refine below_drewN ?_ _) | (with_reducible refine Below.setCell ?_ ?_ _) | (with_reducible refine below_step ?_ (by with_reducible assumption) ?_) | (with_reducible exact Nat.le_refl _) | omega | (simp; omega) | (simp; done))))
      replace K2 := K2.step (show Below w7.heap.size w7 w8 by (repeat' (first | (with_reducible exact Below.refl _ _) | (with_reducible assumption) | (with_reducible exact Bw.out (by with_reducible assumption)) | (with_reducible refine bw_alloc ?_ _) | (with_reducible refine bw_step ?_ (by with_reducible assumption)) | (with_reducible refine Below.alloc ?_ ?_ _) | (with_reducible refine Below.drew ?_) | (with_reducible refine below_drewN ?_ _) | (with_reducible refine Below.setCell ?_ ?_ _) | (with_reducible refine below_step ?_ (by with_reducible assumption) ?_) | (with_reducible exact Nat.le_refl _) | omega | (simp; omega) | (simp; done))))
      have HB8 : Below w.heap.size w w8 := by (repeat' (first | (with_reducible exact Below.refl _ _) | (with_reducible assumption) | (with_reducible exact Bw.out (by with_reducible assumption)) | (with_reducible refine bw_alloc ?_ _) | (with_reducible refine bw_step ?_ (by with_reducible assumption)) | (with_reducible refine Below.alloc ?_ ?_ _) | (with_reducible refine Below.drew ?_) | (with_reducible refine below_drewN ?_ _) | (with_reducible refine Below.setCell ?_ ?_ _) | (with_reducible refine below_step ?_ (by with_reducible assumption) ?_) | (with_reducible exact Nat.le_refl _) | omega | (simp; omega) | (simp; done)))
      clear R_n_7 c_n_0_7 c_n_1_7 c_n_2_7 hb7 HB7
      go_wp2_with fail
      refine (sell_cc n0 n1 ch r _ _ _ zs _ (K.step (by (repeat' (first | (with_reducible exact Below.refl _ _) | (with_reducible assumption) | (with_reducible exact Bw.out (by with_reducible assumption)) | (with_reducible refine bw_alloc ?_ _) | (with_reducible refine bw_step ?_ (by with_reducible assumption)) | (with_reducible refine Below.alloc ?_ ?_ _) | (with_reducible refine Below.drew ?_) | (with_reducible refine below_drewN ?_ _) | (with_reducible refine Below.setCell ?_ ?_ _) | (with_reducible refine below_step ?_ (by with_reducible assumption) ?_) | (with_reducible exact Nat.le_refl _) | omega | (simp; omega) | (simp; done))))) hrb R1 S1 E1 Z1 m1 HR1.out HS1.out HE1.out HZ1.out HM1.out).mono ?_
      rintro e w9 ⟨b3, d3, rfl, K3, hb9⟩
      have R_n_9 : Row w9 (w.heap.size) [.int .i64 n0, .int .i64 n1, .slice A p cap2] := by (repeat' (first | (with_reducible assumption) | (with_reducible refine Row.new' _ _ _ (by first | rfl | (simp; done) | omega)) | (with_reducible refine Row.alloc ?_ _) | (with_reducible refine Row.drew ?_) | (with_reducible refine Row.drewN ?_ _) | (with_reducible refine Row.step ?_ (by with_reducible assumption)) | (with_reducible refine Row.set2' ?_ _ _; first | exact ⟨_, _, by with_reducible assumption⟩ | exact ⟨_, _, Row.alloc (by with_reducible assumption) _⟩ | exact ⟨_, _, Row.alloc (Row.alloc (by with_reducible assumption) _) _⟩) | (with_reducible refine Row.other ?_ (by first | omega | (simp; done) | (simp; omega)) _)))
      have c_n_0_9 := R_n_9.cell 0 rfl
      have c_n_1_9 := R_n_9.cell 1 rfl
      have c_n_2_9 := R_n_9.cell 2 rfl
      have l_n_9 := R_n_9.lt
      replace K := K.step (show Below w8.heap.size w8 w9 by (repeat' (first | (with_reducible exact Below.refl _ _) | (with_reducible assumption) | (with_reducible exact Bw.out (by with_reducible assumption)) | (with_reducible refine bw_alloc ?_ _) | (with_reducible refine bw_step ?_ (by with_reducible assumption)) | (with_reducible refine Below.alloc ?_ ?_ _) | (with_reducible refine Below.drew ?_) | (with_reducible refine below_drewN ?_ _) | (with_reducible refine Below.setCell ?_ ?_ _) | (with_reducible refine below_step ?_ (by with_reducible assumption) ?_) | (with_reducible exact Nat.le_refl _) | omega | (simp; omega) | (simp; done))))
      replace K1 := K1.step (show Below w8.heap.size w8 w9 by (repeat' (first | (with_reducible exact Below.refl _ _) | (with_reducible assumption) | (with_reducible exact Bw.out (by with_reducible assumption)) | (with_reducible refine bw_alloc ?_ _) | (with_reducible refine bw_step ?_ (by with_reducible assumption)) | (with_reducible refine Below.alloc ?_ ?_ _) | (with_reducible refine Below.drew ?_) | (with_reducible refine below_drewN ?_ _) | (with_reducible refine Below.setCell ?_ ?_ _) | (with_reducible refine below_step ?_ (by with_reducible assumption) ?_) | (with_reducible exact Nat.le_refl _) | omega | (simp; omega) | (simp; done))))
      replace K2 := K2.step (show Below w8.heap.size w8 w9 by (repeat' (first | (with_reducible exact Below.refl _ _) | (with_reducible assumption) | (with_reducible exact Bw.out (by with_reducible assumption)) | (with_reducible refine bw_alloc ?_ _) | (with_reducible refine bw_step ?_ (by with_reducible assumption)) | (with_reducible refine Below.alloc ?_ ?_ _) | (with_reducible refine Below.drew ?_) | (with_reducible refine below_drewN ?_ _) | (with_reducible refine Below.setCell ?_ ?_ _) | (with_reducible refine below_step ?_ (by with_reducible assumption) ?_) | (with_reducible exact Nat.le_refl _) | omega | (simp; omega) | (simp; done))))
      have HB9 : Below w.heap.size w w9 := by (repeat' (first | (with_reducible exact Below.refl _ _) | (with_reducible assumption) | (with_reducible exact Bw.out (by with_reducible assumption)) | (with_reducible refine bw_alloc ?_ _) | (with_reducible refine bw_step ?_ (by with_reducible assumption)) | (with_reducible refine Below.alloc ?_ ?_ _) | (with_reducible refine Below.drew ?_) | (with_reducible refine below_drewN ?_ _) | (with_reducible refine Below.setCell ?_ ?_ _) | (with_reducible refine below_step ?_ (by with_reducible assumption) ?_) | (with_reducible exact Nat.le_refl _) | omega | (simp; omega) | (simp; done)))
      clear R_n_8 c_n_0_8 c_n_1_8 c_n_2_8 hb8 HB8
      have HW9 : Hid (w.heap.size ≤ w9.heap.size) := HB9.size
      go_wp2_with fail
      refine (R_sell_cc n0 n1 ch r _ _ _ zs _ (K.step (by (repeat' (first | (with_reducible exact Below.refl _ _) | (with_reducible assumption) | (with_reducible exact Bw.out (by with_reducible assumption)) | (with_reducible refine bw_alloc ?_ _) | (with_reducible refine bw_step ?_ (by with_reducible assumption)) | (with_reducible refine Below.alloc ?_ ?_ _) | (with_reducible refine Below.drew ?_) | (with_reducible refine below_drewN ?_ _) | (with_reducible refine Below.setCell ?_ ?_ _) | (with_reducible refine below_step ?_ (by with_reducible assumption) ?_) | (with_reducible exact Nat.le_refl _) | omega | (simp; omega) | (simp; done))))) hrb R1 S1 E1 Z1 m1 HR1.out HS1.out HE1.out HZ1.out HM1.out).mono ?_
      rintro e w10 ⟨b4, d4, rfl, K4, hb10⟩
      have R_n_10 : Row w10 (w.heap.size) [.int .i64 n0, .int .i64 n1, .slice A p cap2] := by (repeat' (first | (with_reducible assumption) | (with_reducible refine Row.new' _ _ _ (by first | rfl | (simp; done) | omega)) | (with_reducible refine Row.alloc ?_ _) | (with_reducible refine Row.drew ?_) | (with_reducible refine Row.drewN ?_ _) | (with_reducible refine Row.step ?_ (by with_reducible assumption)) | (with_reducible refine Row.set2' ?_ _ _; first | exact ⟨_, _, by with_reducible assumption⟩ | exact ⟨_, _, Row.alloc (by with_reducible assumption) _⟩ | exact ⟨_, _, Row.alloc (Row.alloc (by with_reducible assumption) _) _⟩) | (with_reducible refine Row.other ?_ (by first | omega | (simp; done) | (simp; omega)) _)))
      have c_n_0_10 := R_n_10.cell 0 rfl
      have c_n_1_10 := R_n_10.cell 1 rfl
      have c_n_2_10 := R_n_10.cell 2 rfl
      have l_n_10 := R_n_10.lt
      have R_x_10 : Row w10 (w9.heap.size) [.int .i64 R1, .int .i64 S1, .slice b3 m1 d3] := by (repeat' (first | (with_reducible assumption) | (with_reducible refine Row.new' _ _ _ (by first | rfl | (simp; done) | omega)) | (with_reducible refine Row.alloc ?_ _) | (with_reducible refine Row.drew ?_) | (with_reducible refine Row.drewN ?_ _) | (with_reducible refine Row.step ?_ (by with_reducible assumption)) | (with_reducible refine Row.set2' ?_ _ _; first | exact ⟨_, _, by with_reducible assumption⟩ | exact ⟨_, _, Row.alloc (by with_reducible assumption) _⟩ | exact ⟨_, _, Row.alloc (Row.alloc (by with_reducible assumption) _) _⟩) | (with_reducible refine Row.other ?_ (by first | omega | (simp; done) | (simp; omega)) _)))
      have c_x_0_10 := R_x_10.cell 0 rfl
      have c_x_1_10 := R_x_10.cell 1 rfl
      have c_x_2_10 := R_x_10.cell 2 rfl
      have z_x_0_10 := R_x_10.frozen 0
      have z_x_1_10 := R_x_10.frozen 1
      have z_x_2_10 := R_x_10.frozen 2
      have l_x_10 := R_x_10.lt
      replace K := K.step (show Below w9.heap.size w9 w10 by (repeat' (first | (with_reducible exact Below.refl _ _) | (with_reducible assumption) | (with_reducible exact Bw.out (by with_reducible assumption)) | (with_reducible refine bw_alloc ?_ _) | (with_reducible refine bw_step ?_ (by with_reducible assumption)) | (with_reducible refine Below.alloc ?_ ?_ _) | (with_reducible refine Below.drew ?_) | (with_reducible refine below_drewN ?_ _) | (with_reducible refine Below.setCell ?_ ?_ _) | (with_reducible refine below_step ?_ (by with_reducible assumption) ?_) | (with_reducible exact Nat.le_refl _) | omega | (simp; omega) | (simp; done))))
      replace K1 := K1.step (show Below w9.heap.size w9 w10 by (repeat' (first | (with_reducible exact Below.refl _ _) | (with_reducible assumption) | (with_reducible exact Bw.out (by with_reducible assumption)) | (with_reducible refine bw_alloc ?_ _) | (with_reducible refine bw_step ?_ (by with_reducible assumption)) | (with_reducible refine Below.alloc ?_ ?_ _) | (with_reducible refine Below.drew ?_) | (with_reducible refine below_drewN ?_ _) | (with_reducible refine Below.setCell ?_ ?_ _) | (with_reducible refine below_step ?_ (by with_reducible assumption) ?_) | (with_reducible exact Nat.le_refl _) | omega | (simp; omega) | (simp; done))))
      replace K2 := K2.step (show Below w9.heap.size w9 w10 by (repeat' (first | (with_reducible exact Below.refl _ _) | (with_reducible assumption) | (with_reducible exact Bw.out (by with_reducible assumption)) | (with_reducible refine bw_alloc ?_ _) | (with_reducible refine bw_step ?_ (by with_reducible assumption)) | (with_reducible refine Below.alloc ?_ ?_ _) | (with_reducible refine Below.drew ?_) | (with_reducible refine below_drewN ?_ _) | (with_reducible refine Below.setCell ?_ ?_ _) | (with_reducible refine below_step ?_ (by with_reducible assumption) ?_) | (with_reducible exact Nat.le_refl _) | omega | (simp; omega) | (simp; done))))
      replace K3 := K3.step (show Below w9.heap.size w9 w10 by (repeat' (first | (with_reducible exact Below.refl _ _) | (with_reducible assumption) | (with_reducible exact Bw.out (by with_reducible assumption)) | (with_reducible refine bw_alloc ?_ _) | (with_reducible refine bw_step ?_ (by with_reducible assumption)) | (with_reducible refine Below.alloc ?_ ?_ _) | (with_reducible refine Below.drew ?_) | (with_reducible refine below_drewN ?_ _) | (with_reducible refine Below.setCell ?_ ?_ _) | (with_reducible refine below_step ?_ (by with_reducible assumption) ?_) | (with_reducible exact Nat.le_refl _) | omega | (simp; omega) | (simp; done))))
      have HB10 : Below w.heap.size w w10 := by (repeat' (first | (with_reducible exact Below.refl _ _) | (with_reducible assumption) | (with_reducible exact Bw.out (by with_reducible assumption)) | (with_reducible refine bw_alloc ?_ _) | (with_reducible refine bw_step ?_ (by with_reducible assumption)) | (with_reducible refine Below.alloc ?_ ?_ _) | (with_reducible refine Below.drew ?_) | (with_reducible refine below_drewN ?_ _) | (with_reducible refine Below.setCell ?_ ?_ _) | (with_reducible refine below_step ?_ (by with_reducible assumption) ?_) | (with_reducible exact Nat.le_refl _) | omega | (simp; omega) | (simp; done)))
      clear R_n_9 c_n_0_9 c_n_1_9 c_n_2_9 hb9 HB9
      have HW10 : Hid (w.heap.size ≤ w10.heap.size) := HB10.size
      go_wp2_with fail
      refine (R_same_c R1 S1 R1 S1 _ _ _ _ _ _ Z1 Z1 true _ (K3.step (by (repeat' (first | (with_reducible exact Below.refl _ _) | (with_reducible assumption) | (with_reducible exact Bw.out (by with_reducible assumption)) | (with_reducible refine bw_alloc ?_ _) | (with_reducible refine bw_step ?_ (by with_reducible assumption)) | (with_reducible refine Below.alloc ?_ ?_ _) | (with_reducible refine Below.drew ?_) | (with_reducible refine below_drewN ?_ _) | (with_reducible refine Below.setCell ?_ ?_ _) | (with_reducible refine below_step ?_ (by with_reducible assumption) ?_) | (with_reducible exact Nat.le_refl _) | omega | (simp; omega) | (simp; done))))) (K4.step (by (repeat' (first | (with_reducible exact Below.refl _ _) | (with_reducible assumption) | (with_reducible exact Bw.out (by with_reducible assumption)) | (with_reducible refine bw_alloc ?_ _) | (with_reducible refine bw_step ?_ (by with_reducible assumption)) | (with_reducible refine Below.alloc ?_ ?_ _) | (with_reducible refine Below.drew ?_) | (with_reducible refine below_drewN ?_ _) | (with_reducible refine Below.setCell ?_ ?_ _) | (with_reducible refine below_step ?_ (by with_reducible assumption) ?_) | (with_reducible exact Nat.le_refl _) | omega | (simp; omega) | (simp; done))))) (by simp [sameB])).mono ?_
      rintro e w11 ⟨rfl, hb11⟩
      have R_n_11 : Row w11 (w.heap.size) [.int .i64 n0, .int .i64 n1, .slice A p cap2] := by (repeat' (first | (with_reducible assumption) | (with_reducible refine Row.new' _ _ _ (by first | rfl | (simp; done) | omega)) | (with_reducible refine Row.alloc ?_ _) | (with_reducible refine Row.drew ?_) | (with_reducible refine Row.drewN ?_ _) | (with_reducible refine Row.step ?_ (by with_reducible assumption)) | (with_reducible refine Row.set2' ?_ _ _; first | exact ⟨_, _, by with_reducible assumption⟩ | exact ⟨_, _, Row.alloc (by with_reducible assumption) _⟩ | exact ⟨_, _, Row.alloc (Row.alloc (by with_reducible assumption) _) _⟩) | (with_reducible refine Row.other ?_ (by first | omega | (simp; done) | (simp; omega)) _)))
      have c_n_0_11 := R_n_11.cell 0 rfl
      have c_n_1_11 := R_n_11.cell 1 rfl
      have c_n_2_11 := R_n_11.cell 2 rfl
      have l_n_11 := R_n_11.lt
      have R_x_11 : Row w11 (w9.heap.size) [.int .i64 R1, .int .i64 S1, .slice b3 m1 d3] := by (repeat' (first | (with_reducible assumption) | (with_reducible refine Row.new' _ _ _ (by first | rfl | (simp; done) | omega)) | (with_reducible refine Row.alloc ?_ _) | (with_reducible refine Row.drew ?_) | (with_reducible refine Row.drewN ?_ _) | (with_reducible refine Row.step ?_ (by with_reducible assumption)) | (with_reducible refine Row.set2' ?_ _ _; first | exact ⟨_, _, by with_reducible assumption⟩ | exact ⟨_, _, Row.alloc (by with_reducible assumption) _⟩ | exact ⟨_, _, Row.alloc (Row.alloc (by with_reducible assumption) _) _⟩) | (with_reducible refine Row.other ?_ (by first | omega | (simp; done) | (simp; omega)) _)))
      have c_x_0_11 := R_x_11.cell 0 rfl
      have c_x_1_11 := R_x_11.cell 1 rfl
      have c_x_2_11 := R_x_11.cell 2 rfl
      have z_x_0_11 := R_x_11.frozen 0
      have z_x_1_11 := R_x_11.frozen 1
      have z_x_2_11 := R_x_11.frozen 2
      have l_x_11 := R_x_11.lt
      have R_y_11 : Row w11 (w10.heap.size) [.int .i64 R1, .int .i64 S1, .slice b4 m1 d4] := by (repeat' (first | (with_reducible assumption) | (with_reducible refine Row.new' _ _ _ (by first | rfl | (simp; done) | omega)) | (with_reducible refine Row.alloc ?_ _) | (with_reducible refine Row.drew ?_) | (with_reducible refine Row.drewN ?_ _) | (with_reducible refine Row.step ?_ (by with_reducible assumption)) | (with_reducible refine Row.set2' ?_ _ _; first | exact ⟨_, _, by with_reducible assumption⟩ | exact ⟨_, _, Row.alloc (by with_reducible assumption) _⟩ | exact ⟨_, _, Row.alloc (Row.alloc (by with_reducible assumption) _) _⟩) | (with_reducible refine Row.other ?_ (by first | omega | (simp; done) | (simp; omega)) _)))
      have c_y_0_11 := R_y_11.cell 0 rfl
      have c_y_1_11 := R_y_11.cell 1 rfl
      have c_y_2_11 := R_y_11.cell 2 rfl
      have z_y_0_11 := R_y_11.frozen 0
      have z_y_1_11 := R_y_11.frozen 1
      have z_y_2_11 := R_y_11.frozen 2
      have l_y_11 := R_y_11.lt
      replace K := K.step (show Below w10.heap.size w10 w11 by (repeat' (first | (with_reducible exact Below.refl _ _) | (with_reducible assumption) | (with_reducible exact Bw.out (by with_reducible assumption)) | (with_reducible refine bw_alloc ?_ _) | (with_reducible refine bw_step ?_ (by with_reducible assumption)) | (with_reducible refine Below.alloc ?_ ?_ _) | (with_reducible refine Below.drew ?_) | (with_reducible refine below_drewN ?_ _) | (with_reducible refine Below.setCell ?_ ?_ _) | (with_reducible refine below_step ?_ (by with_reducible assumption) ?_) | (with_reducible exact Nat.le_refl _) | omega | (simp; omega) | (simp; done))))
      replace K1 := K1.step (show Below w10.heap.size w10 w11 by (repeat' (first | (with_reducible exact Below.refl _ _) | (with_reducible assumption) | (with_reducible exact Bw.out (by with_reducible assumption)) | (with_reducible refine bw_alloc ?_ _) | (with_reducible refine bw_step ?_ (by with_reducible assumption)) | (with_reducible refine Below.alloc ?_ ?_ _) | (with_reducible refine Below.drew ?_) | (with_reducible refine below_drewN ?_ _) | (with_reducible refine Below.setCell ?_ ?_ _) | (with_reducible refine below_step ?_ (by with_reducible assumption) ?_) | (with_reducible exact Nat.le_refl _) | omega | (simp; omega) | (simp; done))))
      replace K2 := K2.step (show Below w10.heap.size w10 w11 by (repeat' (first | (with_reducible exact Below.refl _ _) | (with_reducible assumption) | (with_reducible exact Bw.out (by with_reducible assumption)) | (with_reducible refine bw_alloc ?_ _) | (with_reducible refine bw_step ?_ (by with_reducible assumption)) | (with_reducible refine Below.alloc ?_ ?_ _) | (with_reducible refine Below.drew ?_) | (with_reducible refine below_drewN ?_ _) | (with_reducible refine Below.setCell ?_ ?_ _) | (with_reducible refine below_step ?_ (by with_reducible assumption) ?_) | (with_reducible exact Nat.le_refl _) | omega | (simp; omega) | (simp; done))))
      replace K3 := K3.step (show Below w10.heap.size w10 w11 by (repeat' (first | (with_reducible exact Below.refl _ _) | (with_reducible assumption) | (with_reducible exact Bw.out (by with_reducible assumption)) | (with_reducible refine bw_alloc ?_ _) | (with_reducible refine bw_step ?_ (by with_reducible assumption)) | (with_reducible refine Below.alloc ?_ ?_ _) | (with_reducible refine Below.drew ?_) | (with_reducible refine below_drewN ?_ _) | (with_reducible refine Below.setCell ?_ ?_ _) | (with_reducible refine below_step ?_ (by with_reducible assumption) ?_) | (with_reducible exact Nat.le_refl _) | omega | (simp; omega) | (simp; done))))
      replace K4 := K4.step (show Below w10.heap.size w10 w11 by (repeat' (first | (with_reducible exact Below.refl _ _) | (with_reducible assumption) | (with_reducible exact Bw.out (by with_reducible assumption)) | (with_reducible refine bw_alloc ?_ _) | (with_reducible refine bw_step ?_ (by with_reducible assumption)) | (with_reducible refine Below.alloc ?_ ?_ _) | (with_reducible refine Below.drew ?_) | (with_reducible refine below_drewN ?_ _) | (with_reducible refine Below.setCell ?_ ?_ _) | (with_reducible refine below_step ?_ (by with_reducible assumption) ?_) | (with_reducible exact Nat.le_refl _) | omega | (simp; omega) | (simp; done))))
      have HB11 : Below w.heap.size w w11 := by (repeat' (first | (with_reducible exact Below.refl _ _) | (with_reducible assumption) | (with_reducible exact Bw.out (by with_reducible assumption)) | (with_reducible refine bw_alloc ?_ _) | (with_reducible refine bw_step ?_ (by with_reducible assumption)) | (with_reducible refine Below.alloc ?_ ?_ _) | (with_reducible refine Below.drew ?_) | (with_reducible refine below_drewN ?_ _) | (with_reducible refine Below.setCell ?_ ?_ _) | (with_reducible refine below_step ?_ (by with_reducible assumption) ?_) | (with_reducible exact Nat.le_refl _) | omega | (simp; omega) | (simp; done)))
      clear R_n_10 c_n_0_10 c_n_1_10 c_n_2_10 R_x_10 c_x_0_10 c_x_1_10 c_x_2_10 z_x_0_10 z_x_1_10 z_x_2_10 hb10 HB10
      have lx11 := l_x_11
      have ly11 := l_y_11
      have hm2p : m2 ≤ p := by rw [← HM2.out, ← HZ2.out, ← K0.out.1]; exact grZ_len _ _ _ _
      have hw9 : w.heap.size ≤ w9.heap.size := HW9.out
      have hw10 : w.heap.size ≤ w10.heap.size := HW10.out
      go_wp2_with fail
      refine (grant_cc n0 n1 ch r _ _ _ zs _ (K0.out.step (by (repeat' (first | (with_reducible exact Below.refl _ _) | (with_reducible assumption) | (with_reducible exact Bw.out (by with_reducible assumption)) | (with_reducible refine bw_alloc ?_ _) | (with_reducible refine bw_step ?_ (by with_reducible assumption)) | (with_reducible refine Below.alloc ?_ ?_ _) | (with_reducible refine Below.drew ?_) | (with_reducible refine below_drewN ?_ _) | (with_reducible refine Below.setCell ?_ ?_ _) | (with_reducible refine below_step ?_ (by with_reducible assumption) ?_) | (with_reducible exact Nat.le_refl _) | omega | (simp; omega) | (simp; done))))) hrb R2 S2 E2 Z2 m2 HR2.out HS2.out HE2.out HZ2.out HM2.out).mono ?_
      rintro e w12 ⟨b5, d5, rfl, K5, N5, hb12⟩
      have R_n_12 : Row w12 (w.heap.size) [.int .i64 n0, .int .i64 n1, .slice A p cap2] := by (repeat' (first | (with_reducible assumption) | (with_reducible refine Row.new' _ _ _ (by first | rfl | (simp; done) | omega)) | (with_reducible refine Row.alloc ?_ _) | (with_reducible refine Row.drew ?_) | (with_reducible refine Row.drewN ?_ _) | (with_reducible refine Row.step ?_ (by with_reducible assumption)) | (with_reducible refine Row.set2' ?_ _ _; first | exact ⟨_, _, by with_reducible assumption⟩ | exact ⟨_, _, Row.alloc (by with_reducible assumption) _⟩ | exact ⟨_, _, Row.alloc (Row.alloc (by with_reducible assumption) _) _⟩) | (with_reducible refine Row.other ?_ (by first | omega | (simp; done) | (simp; omega)) _)))
      have c_n_0_12 := R_n_12.cell 0 rfl
      have c_n_1_12 := R_n_12.cell 1 rfl
      have c_n_2_12 := R_n_12.cell 2 rfl
      have l_n_12 := R_n_12.lt
      have R_x_12 : Row w12 (w9.heap.size) [.int .i64 R1, .int .i64 S1, .slice b3 m1 d3] := by (repeat' (first | (with_reducible assumption) | (with_reducible refine Row.new' _ _ _ (by first | rfl | (simp; done) | omega)) | (with_reducible refine Row.alloc ?_ _) | (with_reducible refine Row.drew ?_) | (with_reducible refine Row.drewN ?_ _) | (with_reducible refine Row.step ?_ (by with_reducible assumption)) | (with_reducible refine Row.set2' ?_ _ _; first | exact ⟨_, _, by with_reducible assumption⟩ | exact ⟨_, _, Row.alloc (by with_reducible assumption) _⟩ | exact ⟨_, _, Row.alloc (Row.alloc (by with_reducible assumption) _) _⟩) | (with_reducible refine Row.other ?_ (by first | omega | (simp; done) | (simp; omega)) _)))
      have c_x_0_12 := R_x_12.cell 0 rfl
      have c_x_1_12 := R_x_12.cell 1 rfl
      have c_x_2_12 := R_x_12.cell 2 rfl
      have z_x_0_12 := R_x_12.frozen 0
      have z_x_1_12 := R_x_12.frozen 1
      have z_x_2_12 := R_x_12.frozen 2
      have l_x_12 := R_x_12.lt
      have R_y_12 : Row w12 (w10.heap.size) [.int .i64 R1, .int .i64 S1, .slice b4 m1 d4] := by (repeat' (first | (with_reducible assumption) | (with_reducible refine Row.new' _ _ _ (by first | rfl | (simp; done) | omega)) | (with_reducible refine Row.alloc ?_ _) | (with_reducible refine Row.drew ?_) | (with_reducible refine Row.drewN ?_ _) | (with_reducible refine Row.step ?_ (by with_reducible assumption)) | (with_reducible refine Row.set2' ?_ _ _; first | exact ⟨_, _, by with_reducible assumption⟩ | exact ⟨_, _, Row.alloc (by with_reducible assumption) _⟩ | exact ⟨_, _, Row.alloc (Row.alloc (by with_reducible assumption) _) _⟩) | (with_reducible refine Row.other ?_ (by first | omega | (simp; done) | (simp; omega)) _)))
      have c_y_0_12 := R_y_12.cell 0 rfl
      have c_y_1_12 := R_y_12.cell 1 rfl
      have c_y_2_12 := R_y_12.cell 2 rfl
      have z_y_0_12 := R_y_12.frozen 0
      have z_y_1_12 := R_y_12.frozen 1
      have z_y_2_12 := R_y_12.frozen 2
      have l_y_12 := R_y_12.lt
      have HB12 : Below w.heap.size w w12 := by (repeat' (first | (with_reducible exact Below.refl _ _) | (with_reducible assumption) | (with_reducible exact Bw.out (by with_reducible assumption)) | (with_reducible refine bw_alloc ?_ _) | (with_reducible refine bw_step ?_ (by with_reducible assumption)) | (with_reducible refine Below.alloc ?_ ?_ _) | (with_reducible refine Below.drew ?_) | (with_reducible refine below_drewN ?_ _) | (with_reducible refine Below.setCell ?_ ?_ _) | (with_reducible refine below_step ?_ (by with_reducible assumption) ?_) | (with_reducible exact Nat.le_refl _) | omega | (simp; omega) | (simp; done)))
      clear R_n_11 c_n_0_11 c_n_1_11 c_n_2_11 R_x_11 c_x_0_11 c_x_1_11 c_x_2_11 z_x_0_11 z_x_1_11 z_x_2_11 R_y_11 c_y_0_11 c_y_1_11 c_y_2_11 z_y_0_11 z_y_1_11 z_y_2_11 hb11 HB11
      have lx12 := l_x_12
      have ly12 := l_y_12
      have K5a := ((K5.far K0.out.sl hm2p N5 hw9 lx11 0 (.int .i64 R2)).far K0.out.sl hm2p N5 hw9 lx11 1 (.int .i64 S2)).far K0.out.sl hm2p N5 hw9 lx11 2 (.slice b5 m2 d5)
      have Rx12 := R_x_12.set3 (.int .i64 R2) (.int .i64 S2) (.slice b5 m2 d5)
      go_wp2_with fail
      refine (R_grant_cc n0 n1 ch r _ _ _ zs _ (K0.out.step (by (repeat' (first | (with_reducible exact Below.refl _ _) | (with_reducible assumption) | (with_reducible exact Bw.out (by with_reducible assumption)) | (with_reducible refine bw_alloc ?_ _) | (with_reducible refine bw_step ?_ (by with_reducible assumption)) | (with_reducible refine Below.alloc ?_ ?_ _) | (with_reducible refine Below.drew ?_) | (with_reducible refine below_drewN ?_ _) | (with_reducible refine Below.setCell ?_ ?_ _) | (with_reducible refine below_step ?_ (by with_reducible assumption) ?_) | (with_reducible exact Nat.le_refl _) | omega | (simp; omega) | (simp; done))))) hrb R2 S2 E2 Z2 m2 HR2.out HS2.out HE2.out HZ2.out HM2.out).mono ?_
      rintro e w13 ⟨b6, d6, rfl, K6, N6, hb13⟩
      have R_n_13 : Row w13 (w.heap.size) [.int .i64 n0, .int .i64 n1, .slice A p cap2] := by (repeat' (first | (with_reducible assumption) | (with_reducible refine Row.new' _ _ _ (by first | rfl | (simp; done) | omega)) | (with_reducible refine Row.alloc ?_ _) | (with_reducible refine Row.drew ?_) | (with_reducible refine Row.drewN ?_ _) | (with_reducible refine Row.step ?_ (by with_reducible assumption)) | (with_reducible refine Row.set2' ?_ _ _; first | exact ⟨_, _, by with_reducible assumption⟩ | exact ⟨_, _, Row.alloc (by with_reducible assumption) _⟩ | exact ⟨_, _, Row.alloc (Row.alloc (by with_reducible assumption) _) _⟩) | (with_reducible refine Row.other ?_ (by first | omega | (simp; done) | (simp; omega)) _)))
      have c_n_0_13 := R_n_13.cell 0 rfl
      have c_n_1_13 := R_n_13.cell 1 rfl
      have c_n_2_13 := R_n_13.cell 2 rfl
      have l_n_13 := R_n_13.lt
      have R_y_13 : Row w13 (w10.heap.size) [.int .i64 R1, .int .i64 S1, .slice b4 m1 d4] := by (repeat' (first | (with_reducible assumption) | (with_reducible refine Row.new' _ _ _ (by first | rfl | (simp; done) | omega)) | (with_reducible refine Row.alloc ?_ _) | (with_reducible refine Row.drew ?_) | (with_reducible refine Row.drewN ?_ _) | (with_reducible refine Row.step ?_ (by with_reducible assumption)) | (with_reducible refine Row.set2' ?_ _ _; first | exact ⟨_, _, by with_reducible assumption⟩ | exact ⟨_, _, Row.alloc (by with_reducible assumption) _⟩ | exact ⟨_, _, Row.alloc (Row.alloc (by with_reducible assumption) _) _⟩) | (with_reducible refine Row.other ?_ (by first | omega | (simp; done) | (simp; omega)) _)))
      have c_y_0_13 := R_y_13.cell 0 rfl
      have c_y_1_13 := R_y_13.cell 1 rfl
      have c_y_2_13 := R_y_13.cell 2 rfl
      have z_y_0_13 := R_y_13.frozen 0
      have z_y_1_13 := R_y_13.frozen 1
      have z_y_2_13 := R_y_13.frozen 2
      have l_y_13 := R_y_13.lt
      have R_x_13 : Row w13 (w9.heap.size) [.int .i64 R2, .int .i64 S2, .slice b5 m2 d5] := by (repeat' (first | (with_reducible assumption) | (with_reducible refine Row.new' _ _ _ (by first | rfl | (simp; done) | omega)) | (with_reducible refine Row.alloc ?_ _) | (with_reducible refine Row.drew ?_) | (with_reducible refine Row.drewN ?_ _) | (with_reducible refine Row.step ?_ (by with_reducible assumption)) | (with_reducible refine Row.set2' ?_ _ _; first | exact ⟨_, _, by with_reducible assumption⟩ | exact ⟨_, _, Row.alloc (by with_reducible assumption) _⟩ | exact ⟨_, _, Row.alloc (Row.alloc (by with_reducible assumption) _) _⟩) | (with_reducible refine Row.other ?_ (by first | omega | (simp; done) | (simp; omega)) _)))
      have c_x_0_13 := R_x_13.cell 0 rfl
      have c_x_1_13 := R_x_13.cell 1 rfl
      have c_x_2_13 := R_x_13.cell 2 rfl
      have z_x_0_13 := R_x_13.frozen 0
      have z_x_1_13 := R_x_13.frozen 1
      have z_x_2_13 := R_x_13.frozen 2
      have l_x_13 := R_x_13.lt
      have HB13 : Below w.heap.size w w13 := by (repeat' (first | (with_reducible exact Below.refl _ _) | (with_reducible assumption) | (with_reducible exact Bw.out (by with_reducible assumption)) | (with_reducible refine bw_alloc ?_ _) | (with_reducible refine bw_step ?_ (by with_reducible assumption)) | (with_reducible refine Below.alloc ?_ ?_ _) | (with_reducible refine Below.drew ?_) | (with_reducible refine below_drewN ?_ _) | (with_reducible refine Below.setCell ?_ ?_ _) | (with_reducible refine below_step ?_ (by with_reducible assumption) ?_) | (with_reducible exact Nat.le_refl _) | omega | (simp; omega) | (simp; done)))
      clear R_n_12 c_n_0_12 c_n_1_12 c_n_2_12 R_x_12 c_x_0_12 c_x_1_12 c_x_2_12 z_x_0_12 z_x_1_12 z_x_2_12 R_y_12 c_y_0_12 c_y_1_12 c_y_2_12 z_y_0_12 z_y_1_12 z_y_2_12 hb12 HB12
      have K5b := ((((K5a.step hb13).far K0.out.sl hm2p N5 hw10 ly11 0 (.int .i64 R2)).far K0.out.sl hm2p N5 hw10 ly11 1 (.int .i64 S2)).far K0.out.sl hm2p N5 hw10 ly11 2 (.slice b6 m2 d6))
      have K6b := ((K6.far K0.out.sl hm2p N6 hw10 (by simp; omega) 0 (.int .i64 R2)).far K0.out.sl hm2p N6 hw10 (by simp; omega) 1 (.int .i64 S2)).far K0.out.sl hm2p N6 hw10 (by simp; omega) 2 (.slice b6 m2 d6)
      have Ry13 := R_y_13.set3 (.int .i64 R2) (.int .i64 S2) (.slice b6 m2 d6)
      go_wp2_with fail
      refine (R_same_c R2 S2 R2 S2 _ _ _ _ _ _ Z2 Z2 true _ (K5b.step (by (repeat' (first | (with_reducible exact Below.refl _ _) | (with_reducible assumption) | (with_reducible exact Bw.out (by with_reducible assumption)) | (with_reducible refine bw_alloc ?_ _) | (with_reducible refine bw_step ?_ (by with_reducible assumption)) | (with_reducible refine Below.alloc ?_ ?_ _) | (with_reducible refine Below.drew ?_) | (with_reducible refine below_drewN ?_ _) | (with_reducible refine Below.setCell ?_ ?_ _) | (with_reducible refine below_step ?_ (by with_reducible assumption) ?_) | (with_reducible exact Nat.le_refl _) | omega | (simp; omega) | (simp; done))))) (K6b.step (by (repeat' (first | (with_reducible exact Below.refl _ _) | (with_reducible assumption) | (with_reducible exact Bw.out (by with_reducible assumption)) | (with_reducible refine bw_alloc ?_ _) | (with_reducible refine bw_step ?_ (by with_reducible assumption)) | (with_reducible refine Below.alloc ?_ ?_ _) | (with_reducible refine Below.drew ?_) | (with_reducible refine below_drewN ?_ _) | (with_reducible refine Below.setCell ?_ ?_ _) | (with_reducible refine below_step ?_ (by with_reducible assumption) ?_) | (with_reducible exact Nat.le_refl _) | omega | (simp; omega) | (simp; done))))) (by simp [sameB])).mono ?_
      rintro e w14 ⟨rfl, hb14⟩
      have R_n_14 : Row w14 (w.heap.size) [.int .i64 n0, .int .i64 n1, .slice A p cap2] := by (repeat' (first | (with_reducible assumption) | (with_reducible refine Row.new' _ _ _ (by first | rfl | (simp; done) | omega)) | (with_reducible refine Row.alloc ?_ _) | (with_reducible refine Row.drew ?_) | (with_reducible refine Row.drewN ?_ _) | (with_reducible refine Row.step ?_ (by with_reducible assumption)) | (with_reducible refine Row.set2' ?_ _ _; first | exact ⟨_, _, by with_reducible assumption⟩ | exact ⟨_, _, Row.alloc (by with_reducible assumption) _⟩ | exact ⟨_, _, Row.alloc (Row.alloc (by with_reducible assumption) _) _⟩) | (with_reducible refine Row.other ?_ (by first | omega | (simp; done) | (simp; omega)) _)))
      have c_n_0_14 := R_n_14.cell 0 rfl
      have c_n_1_14 := R_n_14.cell 1 rfl
      have c_n_2_14 := R_n_14.cell 2 rfl
      have l_n_14 := R_n_14.lt
      have R_x_14 : Row w14 (w9.heap.size) [.int .i64 R2, .int .i64 S2, .slice b5 m2 d5] := by (repeat' (first | (with_reducible assumption) | (with_reducible refine Row.new' _ _ _ (by first | rfl | (simp; done) | omega)) | (with_reducible refine Row.alloc ?_ _) | (with_reducible refine Row.drew ?_) | (with_reducible refine Row.drewN ?_ _) | (with_reducible refine Row.step ?_ (by with_reducible assumption)) | (with_reducible refine Row.set2' ?_ _ _; first | exact ⟨_, _, by with_reducible assumption⟩ | exact ⟨_, _, Row.alloc (by with_reducible assumption) _⟩ | exact ⟨_, _, Row.alloc (Row.alloc (by with_reducible assumption) _) _⟩) | (with_reducible refine Row.other ?_ (by first | omega | (simp; done) | (simp; omega)) _)))
      have c_x_0_14 := R_x_14.cell 0 rfl
      have c_x_1_14 := R_x_14.cell 1 rfl
      have c_x_2_14 := R_x_14.cell 2 rfl
      have z_x_0_14 := R_x_14.frozen 0
      have z_x_1_14 := R_x_14.frozen 1
      have z_x_2_14 := R_x_14.frozen 2
      have l_x_14 := R_x_14.lt
      have R_y_14 : Row w14 (w10.heap.size) [.int .i64 R2, .int .i64 S2, .slice b6 m2 d6] := by (repeat' (first | (with_reducible assumption) | (with_reducible refine Row.new' _ _ _ (by first | rfl | (simp; done) | omega)) | (with_reducible refine Row.alloc ?_ _) | (with_reducible refine Row.drew ?_) | (with_reducible refine Row.drewN ?_ _) | (with_reducible refine Row.step ?_ (by with_reducible assumption)) | (with_reducible refine Row.set2' ?_ _ _; first | exact ⟨_, _, by with_reducible assumption⟩ | exact ⟨_, _, Row.alloc (by with_reducible assumption) _⟩ | exact ⟨_, _, Row.alloc (Row.alloc (by with_reducible assumption) _) _⟩) | (with_reducible refine Row.other ?_ (by first | omega | (simp; done) | (simp; omega)) _)))
      have c_y_0_14 := R_y_14.cell 0 rfl
      have c_y_1_14 := R_y_14.cell 1 rfl
      have c_y_2_14 := R_y_14.cell 2 rfl
      have z_y_0_14 := R_y_14.frozen 0
      have z_y_1_14 := R_y_14.frozen 1
      have z_y_2_14 := R_y_14.frozen 2
      have l_y_14 := R_y_14.lt
      have HB14 : Below w.heap.size w w14 := by (repeat' (first | (with_reducible exact Below.refl _ _) | (with_reducible assumption) | (with_reducible exact Bw.out (by with_reducible assumption)) | (with_reducible refine bw_alloc ?_ _) | (with_reducible refine bw_step ?_ (by with_reducible assumption)) | (with_reducible refine Below.alloc ?_ ?_ _) | (with_reducible refine Below.drew ?_) | (with_reducible refine below_drewN ?_ _) | (with_reducible refine Below.setCell ?_ ?_ _) | (with_reducible refine below_step ?_ (by with_reducible assumption) ?_) | (with_reducible exact Nat.le_refl _) | omega | (simp; omega) | (simp; done)))
      clear R_n_13 c_n_0_13 c_n_1_13 c_n_2_13 R_y_13 c_y_0_13 c_y_1_13 c_y_2_13 z_y_0_13 z_y_1_13 z_y_2_13 R_x_13 c_x_0_13 c_x_1_13 c_x_2_13 z_x_0_13 z_x_1_13 z_x_2_13 hb13 HB13
      go_wp2_with fail
      go_ret
      refine ⟨(by first | rfl | exact ret_bool (by first | rfl | (simp; done) | (simp; omega))), ?_⟩
      (repeat' (first | (with_reducible exact Below.refl _ _) | (with_reducible assumption) | (with_reducible exact Bw.out (by with_reducible assumption)) | (with_reducible refine bw_alloc ?_ _) | (with_reducible refine bw_step ?_ (by with_reducible assumption)) | (with_reducible refine Below.alloc ?_ ?_ _) | (with_reducible refine Below.drew ?_) | (with_reducible refine below_drewN ?_ _) | (with_reducible refine Below.setCell ?_ ?_ _) | (with_reducible refine below_step ?_ (by with_reducible assumption) ?_) | (with_reducible exact Nat.le_refl _) | omega | (simp; omega) | (simp; done)))


set_option maxRecDepth 100000 in
theorem shareMatchesReference_lifted (os : Os) (started : os.Started) (H : Type) (enc : TypeId × Value → H) :
    ReturnsInHanded {} Try.checked os 3 .any (Rows.shareMatchesReferenceSpec.pre6 enc Try.prog Try.f3 Rows.shareMatchesReferenceRow.domain false) (Rows.shareMatchesReferenceSpec.post enc Try.prog Try.f3 false true false false) := by
  refine returnsInHanded_of_change (C := Try.checked) own started (by kernel_rfl) Try.func3
    (ChangeSpec.witness6 (enc := enc) (C := Try.checked) false ⟨#[], #[.slice none 0 0, .agg #[.int .i64 0, .int .i64 0, .slice none 0 0], .int .i64 0, .int .i64 0, .int .i64 0], []⟩ 8 (by kernel_rfl) (by kernel_rfl) (by kernel_rfl) (by kernel_rfl)) ?_
  intro W base args ds gs before hval0 hW _ _
  have hval : ∀ (j : Nat) t v, Try.f3.params[j]? = some t → args[j]? = some v → Value.okWide Try.prog W .any base t v := hval0
  have hW' := hW
  obtain ⟨p, q, hA0, hV, rfl, hfz, hnd⟩ := hW
  obtain ⟨rfl, rfl⟩ := trodVars_none hV
  have hA : DataW.TrodAll enc Try.prog W 0 (fun _ => true) true Try.f3.params.toList args.toList ds p := hA0
  rw [Try.params3] at hA hval
  obtain ⟨v0, vs0, d0, ds0, p0, q0, hargs, rfl, rfl, h0, r0⟩ := trodAll_cons hA
  obtain ⟨v1, vs1, d1, ds1, p1, q1, rfl, rfl, rfl, h1, r1⟩ := trodAll_cons r0
  obtain ⟨v2, vs2, d2, ds2, p2, q2, rfl, rfl, rfl, h2, r2⟩ := trodAll_cons r1
  obtain ⟨v3, vs3, d3, ds3, p3, q3, rfl, rfl, rfl, h3, r3⟩ := trodAll_cons r2
  obtain ⟨v4, vs4, d4, ds4, p4, q4, rfl, rfl, rfl, h4, r4⟩ := trodAll_cons r3
  obtain ⟨rfl, rfl, rfl⟩ := trodAll_nil r4
  obtain rfl : args = #[v0, v1, v2, v3, v4] := by cases args; simp_all
  obtain ⟨a0_l, n0_l, c0_l, rfl⟩ := okWide_slice Try.underlying22 (hval 0 22 v0 rfl rfl)
  obtain ⟨fu_l, hf_l⟩ := h0
  obtain ⟨a_l, n_l, c_l, l_l, e_l, g1_l, g2_l, hs_l, wf_l⟩ := sln_of_nights (by simpa [Value.cells] using hf_l)
  cases e_l
  obtain ⟨c10, c11, v_n, y10, y11, y12, m1, rfl, rfl, rfl, hy10, hy11, hy12⟩ := Go.Joins.open_agg3 Try.underlying25 (by kernel_rfl) (by kernel_rfl) (hval 1 25 v1 rfl rfl) h1
  obtain ⟨n0, e10, rfl, wn0⟩ := DataW.trod_int Try.underlying3 hy10
  simp only [List.cons.injEq, and_true] at e10
  subst e10
  obtain ⟨n1, e11, rfl, wn1⟩ := DataW.trod_int Try.underlying3 hy11
  simp only [List.cons.injEq, and_true] at e11
  subst e11
  obtain ⟨zs_n, hs_n, wf_n⟩ := slv_of_ints hy12
  obtain ⟨c, rfl, rfl, rfl, wc⟩ := open_int Try.underlying3 (hval 2 3 v2 rfl rfl) h2
  obtain ⟨r, rfl, rfl, rfl, wr⟩ := open_int Try.underlying3 (hval 3 3 v3 rfl rfl) h3
  obtain ⟨k, rfl, rfl, rfl, wk⟩ := open_int Try.underlying3 (hval 4 3 v4 rfl rfl) h4
  clear hA0 hval0
  refine (smatch_walk _ _ _ l_l n0 n1 v_n zs_n c r k wf_l wn0 wn1 wf_n wc wr wk W ⟨hs_l, g1_l, g2_l⟩ hs_n).mono fun e W' ⟨he, hb⟩ => ?_
  subst he
  exact ⟨_, rfl, law_post (B := 4) laidOut (by rw [Try.params3]; simp only [List.mem_cons, List.not_mem_nil, or_false, forall_eq_or_imp, forall_eq]; first | exact readable_shareMatchesReference | (repeat' apply And.intro) <;> first | exact of_decide_eq_true (by kernel_rfl) | kernel_rfl) rfl Try.underlying4 rfl rfl hW' hb⟩

theorem shareMatchesReference_over : Rows.shareMatchesReferenceRow.holds Try.pinned (OpenSpec.ofChange Rows.shareMatchesReferenceSpec) :=
  OpenClaim.holds_of_wide 3 Try.f3 rfl rfl rfl rfl rfl rfl rfl ⟨rfl, rfl, rfl, rfl, rfl⟩ rfl rfl rfl rfl rfl (by kernel_rfl) Try.func3 (by kernel_rfl)
    (of_decide_eq_true (by kernel_rfl)) (by unfold Func.isWrapper; first | (rw [if_pos (by decide +kernel)]; kernel_rfl) | (rw [if_neg (by decide +kernel)]; exact ⟨rfl, rfl⟩))
    (fun os started H enc _ => shareMatchesReference_lifted os started H enc)

theorem shareMatchesReference_holds : Rows.ShareMatchesReferenceSaid := shareMatchesReference_over
#print axioms shareMatchesReference_holds
end Go.Proofs.Ytegkonedeledeaa
