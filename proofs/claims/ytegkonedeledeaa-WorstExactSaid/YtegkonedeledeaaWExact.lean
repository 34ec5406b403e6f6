/-
  WorstExact: if of some sales of channels those count of the first channels that sell some, as many as are cut off, each up to its share, no more guests are walked than Walked says; if the greatest shares are sold, exactly so many are, or none.
  No condition: for every input.
-/
import Derived.Test.YtegkonedeledeaaWPlain
import Derived.Test.YtegkonedeledeaaSel
namespace Go.Proofs.Ytegkonedeledeaa
set_option linter.unusedSimpArgs false
set_option linter.unusedVariables false
open Go.ChangeShapes Go.WideShapes Go.ChangeAt Go.RowKit

/-- The slice of length n at address a holds the integers zs of a kind. -/
def SlK (k : IntKind) (w : World) (a : Option Addr) (n : Nat) (zs : List Int) : Prop :=
  zs.length = n ∧ ∀ i, i < n → ∃ b off, a = some ⟨b, off, none⟩ ∧ w.cell? ⟨b, off + i, none⟩ = some (.int k (zs.getD i 0))
theorem SlK.below {k : IntKind} {w w1 : World} {a : Option Addr} {n : Nat} {zs : List Int} (h : SlK k w a n zs) (hb : Below w.heap.size w w1) : SlK k w1 a n zs := by
  refine ⟨h.1, fun i hi => ?_⟩
  obtain ⟨b, off, ha, hc⟩ := h.2 i hi
  exact ⟨b, off, ha, (hb.cell (p := ⟨b, off + i, none⟩) (World.block_lt_of_cell? w _ hc)).trans hc⟩
theorem SlK.get {k : IntKind} {w : World} {a : Option Addr} {n : Nat} {zs : List Int} (h : SlK k w a n zs) {i : Nat} (hi : i < n) :
    ∃ b off z, a = some ⟨b, off, none⟩ ∧ w.cell? ⟨b, off + i, none⟩ = some (.int k z) ∧ Hid (z ∈ zs) := by
  obtain ⟨b, off, ha, hc⟩ := h.2 i hi
  refine ⟨b, off, zs.getD i 0, ha, hc, ?_⟩
  show zs.getD i 0 ∈ zs
  have := h.1
  simp [List.getD, List.getElem?_eq_getElem (show i < zs.length by omega)]
/-- A slice value that holds the integers zs of a kind. -/
def SvK (k : IntKind) (w : World) (v : Value) (zs : List Int) : Prop := ∃ ad cap, v = .slice ad zs.length cap ∧ SlK k w ad zs.length zs ∧ zs.length ≤ cap ∧ cap ≤ maxLen
theorem cells_u16 : Try.prog.cellsOf 58 = 1 := by kernel_rfl
theorem slk_of_u16 {H : Type} {enc : TypeId × Value → H} {w : World} {fuel : Nat} {v : Value} {x : DataW H × List MemPlace} (h : DataW.trod enc Try.prog w 0 (fun _ => true) true fuel 56 [v] = some x) :
    ∃ zs, SvK .u16 w v zs ∧ ∀ z ∈ zs, 0 ≤ z ∧ z ≤ 65535 := by
  rcases open_ints Try.underlying56 Try.underlying58 cells_u16 h with ⟨hcs, _⟩ | ⟨a, len, cap, zs, hcs, _, hl, hm, hz, _, hcell, hwf⟩
  · simp only [List.cons.injEq, and_true] at hcs
    subst hcs
    exact ⟨[], ⟨none, 0, rfl, ⟨rfl, fun i hi => by simp at hi⟩, Nat.le_refl _, by unfold maxLen; omega⟩, fun z hz => by simp at hz⟩
  · simp only [List.cons.injEq, and_true] at hcs
    subst hcs
    simp only [if_true] at hz
    have hlen : (zs.take len).length = len := by rw [List.length_take]; omega
    refine ⟨zs.take len, ⟨some a, cap, by rw [hlen], ?_, by rw [hlen]; exact hl, hm⟩, fun z hzm => bd_u16 (hwf z (List.mem_of_mem_take hzm))⟩
    rw [hlen]
    refine ⟨hlen, fun i hi => ?_⟩
    have hsp := addr_plain (hcell 0 (by omega))
    refine ⟨a.block, a.off, by rw [← hsp], ?_⟩
    have h0 := hcell i (by omega)
    rw [hsp, add_plain] at h0
    rw [h0]
    simp [List.getD_eq_getElem?_getD, List.getElem?_take, hi]



set_option maxRecDepth 100000 in
set_option maxHeartbeats 12800000 in
theorem wexact_walk (n0 n1 : Int) (v : Value) (zs : List Int) (c : Int) (v2 : Value) (ys : List Int) (_ : (Lit.int .i64 n0).wf = true) (_ : (Lit.int .i64 n1).wf = true) (_ : ∀ z ∈ zs, -9223372036854775808 ≤ z ∧ z ≤ 9223372036854775807) (_ : (Lit.int .i64 c).wf = true) (wys : ∀ z ∈ ys, 0 ≤ z ∧ z ≤ 65535) (w : World) (hv : SlV w v zs) (hv2 : SvK .u16 w v2 ys) :
    Calls Try.prog 10 #[.agg #[.int .i64 n0, .int .i64 n1, v], .int .i64 c, v2] w fun e w' => e = .returned (.bool true) ∧ Below w.heap.size w w' := by
  obtain ⟨A, cap, rfl, hcap1, hcap2, K⟩ := hv.c
  obtain ⟨A2, cap2, rfl, K2, hcap3, hcap4⟩ := hv2
  unfold maxLen at hcap2 hcap4
  obtain ⟨n, hn⟩ : ∃ n, zs.length = n := ⟨_, rfl⟩
  rw [hn] at hcap1 K ⊢
  obtain ⟨m2, hm2⟩ : ∃ m2, ys.length = m2 := ⟨_, rfl⟩
  rw [hm2] at hcap3 K2 ⊢
  have HLN := Lib.hid hn
  have HYS := Lib.hid wys
  have HK2 := Lib.hid K2
  clear hv hn hm2 wys K2
  cases hu : usB n0 n1 zs c with
  | false =>
    have HU := Lib.hid hu
    clear hu
    go_enter Try.func10, Try.ntmps10
    go_wp2_with fail
    refine (w_head_any _).mono ?_
    rintro e w1 ⟨rfl, hb1⟩
    have R_n_1 : Row w1 (w.heap.size) [.int .i64 n0, .int .i64 n1, .slice A n cap] := by (repeat' (first | (with_reducible assumption) | (with_reducible refine Row.new' _ _ _ (by first | rfl | (simp; done) | omega)) | (with_reducible refine Row.alloc ?_ _) | (with_reducible refine Row.drew ?_) | (with_reducible refine Row.drewN ?_ _) | (with_reducible refine Row.step ?_ (by with_reducible assumption)) | (with_reducible refine Row.set2' ?_ _ _; first | exact ⟨_, _, by with_reducible assumption⟩ | exact ⟨_, _, Row.alloc (by with_reducible assumption) _⟩ | exact ⟨_, _, Row.alloc (Row.alloc (by with_reducible assumption) _) _⟩) | (with_reducible refine Row.other ?_ (by first | omega | (simp; done) | (simp; omega)) _)))
    have c_n_0_1 := R_n_1.cell 0 rfl
    have c_n_1_1 := R_n_1.cell 1 rfl
    have c_n_2_1 := R_n_1.cell 2 rfl
    have l_n_1 := R_n_1.lt
    replace K := K.step (show Below w.heap.size w w1 by (repeat' (first | (with_reducible exact Below.refl _ _) | (with_reducible assumption) | (with_reducible exact Bw.out (by with_reducible assumption)) | (with_reducible refine bw_alloc ?_ _) | (with_reducible refine bw_step ?_ (by with_reducible assumption)) | (with_reducible refine Below.alloc ?_ ?_ _) | (with_reducible refine Below.drew ?_) | (with_reducible refine below_drewN ?_ _) | (with_reducible refine Below.setCell ?_ ?_ _) | (with_reducible refine below_step ?_ (by with_reducible assumption) ?_) | (with_reducible exact Nat.le_refl _) | omega | (simp; omega) | (simp; done))))
    have HB1 : Below w.heap.size w w1 := by (repeat' (first | (with_reducible exact Below.refl _ _) | (with_reducible assumption) | (with_reducible exact Bw.out (by with_reducible assumption)) | (with_reducible refine bw_alloc ?_ _) | (with_reducible refine bw_step ?_ (by with_reducible assumption)) | (with_reducible refine Below.alloc ?_ ?_ _) | (with_reducible refine Below.drew ?_) | (with_reducible refine below_drewN ?_ _) | (with_reducible refine Below.setCell ?_ ?_ _) | (with_reducible refine below_step ?_ (by with_reducible assumption) ?_) | (with_reducible exact Nat.le_refl _) | omega | (simp; omega) | (simp; done)))
    go_wp2_with fail
    refine (usable_any n0 n1 c _ _ _ zs _ (K.step (by (repeat' (first | (with_reducible exact Below.refl _ _) | (with_reducible assumption) | (with_reducible exact Bw.out (by with_reducible assumption)) | (with_reducible refine bw_alloc ?_ _) | (with_reducible refine bw_step ?_ (by with_reducible assumption)) | (with_reducible refine Below.alloc ?_ ?_ _) | (with_reducible refine Below.drew ?_) | (with_reducible refine below_drewN ?_ _) | (with_reducible refine Below.setCell ?_ ?_ _) | (with_reducible refine below_step ?_ (by with_reducible assumption) ?_) | (with_reducible exact Nat.le_refl _) | omega | (simp; omega) | (simp; done))))) (by omega) false HU.out).mono ?_
    rintro e w2 ⟨rfl, hb2⟩
    have R_n_2 : Row w2 (w.heap.size) [.int .i64 n0, .int .i64 n1, .slice A n cap] := by (repeat' (first | (with_reducible assumption) | (with_reducible refine Row.new' _ _ _ (by first | rfl | (simp; done) | omega)) | (with_reducible refine Row.alloc ?_ _) | (with_reducible refine Row.drew ?_) | (with_reducible refine Row.drewN ?_ _) | (with_reducible refine Row.step ?_ (by with_reducible assumption)) | (with_reducible refine Row.set2' ?_ _ _; first | exact ⟨_, _, by with_reducible assumption⟩ | exact ⟨_, _, Row.alloc (by with_reducible assumption) _⟩ | exact ⟨_, _, Row.alloc (Row.alloc (by with_reducible assumption) _) _⟩) | (with_reducible refine Row.other ?_ (by first | omega | (simp; done) | (simp; omega)) _)))
    have c_n_0_2 := R_n_2.cell 0 rfl
    have c_n_1_2 := R_n_2.cell 1 rfl
    have c_n_2_2 := R_n_2.cell 2 rfl
    have l_n_2 := R_n_2.lt
    replace K := K.step (show Below w1.heap.size w1 w2 by (repeat' (first | (with_reducible exact Below.refl _ _) | (with_reducible assumption) | (with_reducible exact Bw.out (by with_reducible assumption)) | (with_reducible refine bw_alloc ?_ _) | (with_reducible refine bw_step ?_ (by with_reducible assumption)) | (with_reducible refine Below.alloc ?_ ?_ _) | (with_reducible refine Below.drew ?_) | (with_reducible refine below_drewN ?_ _) | (with_reducible refine Below.setCell ?_ ?_ _) | (with_reducible refine below_step ?_ (by with_reducible assumption) ?_) | (with_reducible exact Nat.le_refl _) | omega | (simp; omega) | (simp; done))))
    have HB2 : Below w.heap.size w w2 := by (repeat' (first | (with_reducible exact Below.refl _ _) | (with_reducible assumption) | (with_reducible exact Bw.out (by with_reducible assumption)) | (with_reducible refine bw_alloc ?_ _) | (with_reducible refine bw_step ?_ (by with_reducible assumption)) | (with_reducible refine Below.alloc ?_ ?_ _) | (with_reducible refine Below.drew ?_) | (with_reducible refine below_drewN ?_ _) | (with_reducible refine Below.setCell ?_ ?_ _) | (with_reducible refine below_step ?_ (by with_reducible assumption) ?_) | (with_reducible exact Nat.le_refl _) | omega | (simp; omega) | (simp; done)))
    clear R_n_1 c_n_0_1 c_n_1_1 c_n_2_1 hb1 HB1
    go_wp2_with fail
    go_ret
    refine ⟨(by first | rfl | exact ret_bool (by first | rfl | (simp; done) | (simp; omega))), ?_⟩
    (repeat' (first | (with_reducible exact Below.refl _ _) | (with_reducible assumption) | (with_reducible exact Bw.out (by with_reducible assumption)) | (with_reducible refine bw_alloc ?_ _) | (with_reducible refine bw_step ?_ (by with_reducible assumption)) | (with_reducible refine Below.alloc ?_ ?_ _) | (with_reducible refine Below.drew ?_) | (with_reducible refine below_drewN ?_ _) | (with_reducible refine Below.setCell ?_ ?_ _) | (with_reducible refine below_step ?_ (by with_reducible assumption) ?_) | (with_reducible exact Nat.le_refl _) | omega | (simp; omega) | (simp; done)))
  | true =>
    have HU := Lib.hid hu
    unfold usB at hu
    simp only [Bool.and_eq_true] at hu
    obtain ⟨hnb, hcb⟩ := hu
    obtain ⟨c1, c2⟩ := inB_iff.1 hcb
    obtain ⟨k, rfl⟩ := Int.eq_ofNat_of_zero_le c1
    have hk30 : k ≤ 30 := by omega
    obtain ⟨p1, p2, ⟨p3, p4⟩, p5, p6⟩ := nightB_parts hnb
    have hsb := nightB_sh hnb
    have hn30 : n ≤ 30 := by rw [← HLN.out]; exact p1
    have HIN := Lib.hid p2
    obtain ⟨m, hm⟩ : ∃ m, min k n = m := ⟨_, rfl⟩
    have hmk : m ≤ k := by omega
    have hmn : m ≤ n := by omega
    have HM := Lib.hid hm
    obtain ⟨T, hT⟩ : ∃ T, topS zs k = T := ⟨_, rfl⟩
    have ht1 := topS_nonneg p2 k
    have ht2 := topS_le p2 p1 k
    rw [hT] at ht1 ht2
    have HT := Lib.hid hT
    obtain ⟨X, hX⟩ : ∃ X, wkI n0 n1 zs k = X := ⟨_, rfl⟩
    have HX : Hid (X = max 0 (n1 - n0 + T)) := by show _ = _; rw [← hX, ← hT]; rfl
    have hwa : waE n0 n1 zs (k : Int) = true := by unfold waE; rw [hnb, hcb]; rfl
    have HX1 : Hid (ifI (waE n0 n1 zs (k : Int)) (wkI n0 n1 zs (k : Int).toNat) 0 = X) := by show _ = _; rw [hwa, Int.toNat_natCast]; exact hX
    have HX2 : Hid (ifI (waE n0 n1 zs (k : Int)) 0 1 = 0) := by show _ = _; rw [hwa]; rfl
    have hxb : 0 ≤ X ∧ X ≤ 20000 := by have := HX.out; omega
    obtain ⟨hx1, hx2⟩ := hxb
    have HLT : Hid ((topL zs k).length = m) := by show _ = _; rw [topL_length, HLN.out]; exact hm
    have t1 : decide ((k : Int) < (m : Int)) = false := by simp; omega
    have t2 : decide (k < m) = false := by simp; omega
    clear hwa hX hm hT p2 p1 hnb hcb c1 c2
    go_enter Try.func10, Try.ntmps10
    go_wp2_with fail
    refine (w_head_any _).mono ?_
    rintro e w1 ⟨rfl, hb1⟩
    have R_n_1 : Row w1 (w.heap.size) [.int .i64 n0, .int .i64 n1, .slice A n cap] := by (repeat' (first | (with_reducible assumption) | (with_reducible refine Row.new' _ _ _ (by first | rfl | (simp; done) | omega)) | (with_reducible refine Row.alloc ?_ _) | (with_reducible refine Row.drew ?_) | (with_reducible refine Row.drewN ?_ _) | (with_reducible refine Row.step ?_ (by with_reducible assumption)) | (with_reducible refine Row.set2' ?_ _ _; first | exact ⟨_, _, by with_reducible assumption⟩ | exact ⟨_, _, Row.alloc (by with_reducible assumption) _⟩ | exact ⟨_, _, Row.alloc (Row.alloc (by with_reducible assumption) _) _⟩) | (with_reducible refine Row.other ?_ (by first | omega | (simp; done) | (simp; omega)) _)))
    have c_n_0_1 := R_n_1.cell 0 rfl
    have c_n_1_1 := R_n_1.cell 1 rfl
    have c_n_2_1 := R_n_1.cell 2 rfl
    have l_n_1 := R_n_1.lt
    replace K := K.step (show Below w.heap.size w w1 by (repeat' (first | (with_reducible exact Below.refl _ _) | (with_reducible assumption) | (with_reducible exact Bw.out (by with_reducible assumption)) | (with_reducible refine bw_alloc ?_ _) | (with_reducible refine bw_step ?_ (by with_reducible assumption)) | (with_reducible refine Below.alloc ?_ ?_ _) | (with_reducible refine Below.drew ?_) | (with_reducible refine below_drewN ?_ _) | (with_reducible refine Below.setCell ?_ ?_ _) | (with_reducible refine below_step ?_ (by with_reducible assumption) ?_) | (with_reducible exact Nat.le_refl _) | omega | (simp; omega) | (simp; done))))
    have HB1 : Below w.heap.size w w1 := by (repeat' (first | (with_reducible exact Below.refl _ _) | (with_reducible assumption) | (with_reducible exact Bw.out (by with_reducible assumption)) | (with_reducible refine bw_alloc ?_ _) | (with_reducible refine bw_step ?_ (by with_reducible assumption)) | (with_reducible refine Below.alloc ?_ ?_ _) | (with_reducible refine Below.drew ?_) | (with_reducible refine below_drewN ?_ _) | (with_reducible refine Below.setCell ?_ ?_ _) | (with_reducible refine below_step ?_ (by with_reducible assumption) ?_) | (with_reducible exact Nat.le_refl _) | omega | (simp; omega) | (simp; done)))
    go_wp2_with fail
    refine (usable_any n0 n1 k _ _ _ zs _ (K.step (by (repeat' (first | (with_reducible exact Below.refl _ _) | (with_reducible assumption) | (with_reducible exact Bw.out (by with_reducible assumption)) | (with_reducible refine bw_alloc ?_ _) | (with_reducible refine bw_step ?_ (by with_reducible assumption)) | (with_reducible refine Below.alloc ?_ ?_ _) | (with_reducible refine Below.drew ?_) | (with_reducible refine below_drewN ?_ _) | (with_reducible refine Below.setCell ?_ ?_ _) | (with_reducible refine below_step ?_ (by with_reducible assumption) ?_) | (with_reducible exact Nat.le_refl _) | omega | (simp; omega) | (simp; done))))) (by omega) true HU.out).mono ?_
    rintro e w2 ⟨rfl, hb2⟩
    have R_n_2 : Row w2 (w.heap.size) [.int .i64 n0, .int .i64 n1, .slice A n cap] := by (repeat' (first | (with_reducible assumption) | (with_reducible refine Row.new' _ _ _ (by first | rfl | (simp; done) | omega)) | (with_reducible refine Row.alloc ?_ _) | (with_reducible refine Row.drew ?_) | (with_reducible refine Row.drewN ?_ _) | (with_reducible refine Row.step ?_ (by with_reducible assumption)) | (with_reducible refine Row.set2' ?_ _ _; first | exact ⟨_, _, by with_reducible assumption⟩ | exact ⟨_, _, Row.alloc (by with_reducible assumption) _⟩ | exact ⟨_, _, Row.alloc (Row.alloc (by with_reducible assumption) _) _⟩) | (with_reducible refine Row.other ?_ (by first | omega | (simp; done) | (simp; omega)) _)))
    have c_n_0_2 := R_n_2.cell 0 rfl
    have c_n_1_2 := R_n_2.cell 1 rfl
    have c_n_2_2 := R_n_2.cell 2 rfl
    have l_n_2 := R_n_2.lt
    replace K := K.step (show Below w1.heap.size w1 w2 by (repeat' (first | (with_reducible exact Below.refl _ _) | (with_reducible assumption) | (with_reducible exact Bw.out (by with_reducible assumption)) | (with_reducible refine bw_alloc ?_ _) | (with_reducible refine bw_step ?_ (by with_reducible assumption)) | (with_reducible refine Below.alloc ?_ ?_ _) | (with_reducible refine Below.drew ?_) | (with_reducible refine below_drewN ?_ _) | (with_reducible refine Below.setCell ?_ ?_ _) | (with_reducible refine below_step ?_ (by with_reducible assumption) ?_) | (with_reducible exact Nat.le_refl _) | omega | (simp; omega) | (simp; done))))
    have HB2 : Below w.heap.size w w2 := by (repeat' (first | (with_reducible exact Below.refl _ _) | (with_reducible assumption) | (with_reducible exact Bw.out (by with_reducible assumption)) | (with_reducible refine bw_alloc ?_ _) | (with_reducible refine bw_step ?_ (by with_reducible assumption)) | (with_reducible refine Below.alloc ?_ ?_ _) | (with_reducible refine Below.drew ?_) | (with_reducible refine below_drewN ?_ _) | (with_reducible refine Below.setCell ?_ ?_ _) | (with_reducible refine below_step ?_ (by with_reducible assumption) ?_) | (with_reducible exact Nat.le_refl _) | omega | (simp; omega) | (simp; done)))
    clear R_n_1 c_n_0_1 c_n_1_1 c_n_2_1 hb1 HB1
    go_wp2_with fail
    refine (Walked_any n0 n1 k _ _ _ zs _ (K.step (by (repeat' (first | (with_reducible exact Below.refl _ _) | (with_reducible assumption) | (with_reducible exact Bw.out (by with_reducible assumption)) | (with_reducible refine bw_alloc ?_ _) | (with_reducible refine bw_step ?_ (by with_reducible assumption)) | (with_reducible refine Below.alloc ?_ ?_ _) | (with_reducible refine Below.drew ?_) | (with_reducible refine below_drewN ?_ _) | (with_reducible refine Below.setCell ?_ ?_ _) | (with_reducible refine below_step ?_ (by with_reducible assumption) ?_) | (with_reducible exact Nat.le_refl _) | omega | (simp; omega) | (simp; done))))) (by omega) X 0 HX1.out HX2.out).mono ?_
    rintro e w3 ⟨rfl, hb3⟩
    have R_n_3 : Row w3 (w.heap.size) [.int .i64 n0, .int .i64 n1, .slice A n cap] := by (repeat' (first | (with_reducible assumption) | (with_reducible refine Row.new' _ _ _ (by first | rfl | (simp; done) | omega)) | (with_reducible refine Row.alloc ?_ _) | (with_reducible refine Row.drew ?_) | (with_reducible refine Row.drewN ?_ _) | (with_reducible refine Row.step ?_ (by with_reducible assumption)) | (with_reducible refine Row.set2' ?_ _ _; first | exact ⟨_, _, by with_reducible assumption⟩ | exact ⟨_, _, Row.alloc (by with_reducible assumption) _⟩ | exact ⟨_, _, Row.alloc (Row.alloc (by with_reducible assumption) _) _⟩) | (with_reducible refine Row.other ?_ (by first | omega | (simp; done) | (simp; omega)) _)))
    have c_n_0_3 := R_n_3.cell 0 rfl
    have c_n_1_3 := R_n_3.cell 1 rfl
    have c_n_2_3 := R_n_3.cell 2 rfl
    have l_n_3 := R_n_3.lt
    replace K := K.step (show Below w2.heap.size w2 w3 by (repeat' (first | (with_reducible exact Below.refl _ _) | (with_reducible assumption) | (with_reducible exact Bw.out (by with_reducible assumption)) | (with_reducible refine bw_alloc ?_ _) | (with_reducible refine bw_step ?_ (by with_reducible assumption)) | (with_reducible refine Below.alloc ?_ ?_ _) | (with_reducible refine Below.drew ?_) | (with_reducible refine below_drewN ?_ _) | (with_reducible refine Below.setCell ?_ ?_ _) | (with_reducible refine below_step ?_ (by with_reducible assumption) ?_) | (with_reducible exact Nat.le_refl _) | omega | (simp; omega) | (simp; done))))
    have HB3 : Below w.heap.size w w3 := by (repeat' (first | (with_reducible exact Below.refl _ _) | (with_reducible assumption) | (with_reducible exact Bw.out (by with_reducible assumption)) | (with_reducible refine bw_alloc ?_ _) | (with_reducible refine bw_step ?_ (by with_reducible assumption)) | (with_reducible refine Below.alloc ?_ ?_ _) | (with_reducible refine Below.drew ?_) | (with_reducible refine below_drewN ?_ _) | (with_reducible refine Below.setCell ?_ ?_ _) | (with_reducible refine below_step ?_ (by with_reducible assumption) ?_) | (with_reducible exact Nat.le_refl _) | omega | (simp; omega) | (simp; done)))
    clear R_n_2 c_n_0_2 c_n_1_2 c_n_2_2 hb2 HB2
    go_wp2_with fail
    refine (top_c k m _ _ _ _ zs _ (K.step (by (repeat' (first | (with_reducible exact Below.refl _ _) | (with_reducible assumption) | (with_reducible exact Bw.out (by with_reducible assumption)) | (with_reducible refine bw_alloc ?_ _) | (with_reducible refine bw_step ?_ (by with_reducible assumption)) | (with_reducible refine Below.alloc ?_ ?_ _) | (with_reducible refine Below.drew ?_) | (with_reducible refine below_drewN ?_ _) | (with_reducible refine Below.setCell ?_ ?_ _) | (with_reducible refine below_step ?_ (by with_reducible assumption) ?_) | (with_reducible exact Nat.le_refl _) | omega | (simp; omega) | (simp; done))))) rfl hk30 hsb HM.out hn30).mono ?_
    rintro e w4 ⟨A3, d3, rfl, K3, hb4⟩
    have R_n_4 : Row w4 (w.heap.size) [.int .i64 n0, .int .i64 n1, .slice A n cap] := by (repeat' (first | (with_reducible assumption) | (with_reducible refine Row.new' _ _ _ (by first | rfl | (simp; done) | omega)) | (with_reducible refine Row.alloc ?_ _) | (with_reducible refine Row.drew ?_) | (with_reducible refine Row.drewN ?_ _) | (with_reducible refine Row.step ?_ (by with_reducible assumption)) | (with_reducible refine Row.set2' ?_ _ _; first | exact ⟨_, _, by with_reducible assumption⟩ | exact ⟨_, _, Row.alloc (by with_reducible assumption) _⟩ | exact ⟨_, _, Row.alloc (Row.alloc (by with_reducible assumption) _) _⟩) | (with_reducible refine Row.other ?_ (by first | omega | (simp; done) | (simp; omega)) _)))
    have c_n_0_4 := R_n_4.cell 0 rfl
    have c_n_1_4 := R_n_4.cell 1 rfl
    have c_n_2_4 := R_n_4.cell 2 rfl
    have l_n_4 := R_n_4.lt
    replace K := K.step (show Below w3.heap.size w3 w4 by (repeat' (first | (with_reducible exact Below.refl _ _) | (with_reducible assumption) | (with_reducible exact Bw.out (by with_reducible assumption)) | (with_reducible refine bw_alloc ?_ _) | (with_reducible refine bw_step ?_ (by with_reducible assumption)) | (with_reducible refine Below.alloc ?_ ?_ _) | (with_reducible refine Below.drew ?_) | (with_reducible refine below_drewN ?_ _) | (with_reducible refine Below.setCell ?_ ?_ _) | (with_reducible refine below_step ?_ (by with_reducible assumption) ?_) | (with_reducible exact Nat.le_refl _) | omega | (simp; omega) | (simp; done))))
    have HB4 : Below w.heap.size w w4 := by (repeat' (first | (with_reducible exact Below.refl _ _) | (with_reducible assumption) | (with_reducible exact Bw.out (by with_reducible assumption)) | (with_reducible refine bw_alloc ?_ _) | (with_reducible refine bw_step ?_ (by with_reducible assumption)) | (with_reducible refine Below.alloc ?_ ?_ _) | (with_reducible refine Below.drew ?_) | (with_reducible refine below_drewN ?_ _) | (with_reducible refine Below.setCell ?_ ?_ _) | (with_reducible refine below_step ?_ (by with_reducible assumption) ?_) | (with_reducible exact Nat.le_refl _) | omega | (simp; omega) | (simp; done)))
    clear R_n_3 c_n_0_3 c_n_1_3 c_n_2_3 hb3 HB3
    rw [HT.out]
    have KY : SlK .u16 w4 A2 m2 ys := HK2.out.below HB4
    go_wp2_with fail
    go_loopw [13, 14, 15, 16] (fun s o i _ wr => ∃ (t o' : Nat) (D : Int), t ≤ n ∧ i = .int .i64 t ∧ o = .int .i64 o' ∧ s = .int .i64 (n1 + D) ∧ o' ≤ t ∧ 0 ≤ D ∧ D ≤ 400 * (t : Int) ∧ Hid (Sel zs k t o' D) ∧ Hid (∃ q, wr = w4.drewN q)) (fun _ _ i _ _ => n - (intOf i).toNat)
    case atStart => exact ⟨0, 0, 0, Nat.zero_le _, rfl, rfl, by go_num, by omega, by omega, by omega, Sel.start zs k, 0, rfl⟩
    case round =>
      obtain ⟨t, oo, D, ht, rfl, rfl, rfl, ho, hd1, hd2, hsel, hq⟩ := hrel
      obtain ⟨qd, hq⟩ := hq.out
      subst hq
      by_cases hlt : t < n ∧ t < m2
      · obtain ⟨hlt, hlt2⟩ := hlt
        obtain ⟨b1, o1, z, e, _, cz, gz, _, gzm⟩ := K.sl.get hlt
        subst e
        obtain ⟨z1, z2⟩ := HIN.out z gzm.out
        obtain ⟨b2, o2, y, e, cy, gy⟩ := KY.get hlt2
        subst e
        obtain ⟨y1, y2⟩ := HYS.out y gy.out
        have i1 : (0 : Int) ≤ (t : Int) := by omega
        have i2 : (t : Int) < (n : Int) := by omega
        have i3 : (t : Int) < (m2 : Int) := by omega
        go_wp2_with fail
        go_quiet (fail)
        go_wp2_with fail
        all_goals (
          go_roundw
          case rel => first | exact ⟨t + 1, oo + 1, D + y, by omega, by go_num, by go_num, by go_num, by omega, by omega, by omega, hsel.out.add (by omega) (by omega) (by rw [gz.out]; omega), _, rfl⟩ | exact ⟨t + 1, oo + 1, D + z, by omega, by go_num, by go_num, by go_num, by omega, by omega, by omega, hsel.out.add (by omega) (by omega) (by rw [gz.out]; omega), _, rfl⟩ | exact ⟨t + 1, oo + 1, D + min y z, by omega, by go_num, by go_num, by go_num, by omega, by omega, by omega, hsel.out.add (by omega) (by omega) (by rw [gz.out]; omega), _, rfl⟩ | exact ⟨t + 1, oo, D, by omega, by go_num, rfl, rfl, by omega, by omega, by omega, hsel.out.skip, _, rfl⟩
          case measure => simp [intOf]; omega)
      · have hle := hsel.out.le HIN.out (by rw [HLN.out]; exact ht)
        rw [HT.out] at hle
        have hX := HX.out
        have i1 : (0 : Int) ≤ (t : Int) := by omega
        by_cases htn : t < n
        · have i3 : ¬ (t : Int) < (m2 : Int) := by omega
          go_wp2_with fail
          go_loopw [17, 18] (fun u i wr => ∃ (j : Nat) (S : Int), j ≤ m ∧ i = .int .i64 j ∧ u = .int .i64 S ∧ 0 ≤ S ∧ S ≤ 400 * (j : Int) ∧ Hid ((atL zs ((topL zs k).take j)).sum = S) ∧ Hid (∃ q, wr = w4.drewN q)) (fun _ i _ => m - (intOf i).toNat)
          case atStart => exact ⟨0, 0, Nat.zero_le _, rfl, rfl, by omega, by omega, (by simp [atL] : (atL zs ((topL zs k).take 0)).sum = 0), _, rfl⟩
          case round =>
            obtain ⟨j, S, hj, rfl, rfl, hS1, hS2, hS, hq⟩ := hrel
            obtain ⟨q2, hq⟩ := hq.out
            subst hq
            by_cases hlt : j < m
            · obtain ⟨b3, o3, x, e, _, cx, gx, _, gm⟩ := K3.sl.get hlt
              subst e
              obtain ⟨x1, x2⟩ := topL_mem gm.out
              obtain ⟨u, rfl⟩ := Int.eq_ofNat_of_zero_le x1
              rw [HLN.out] at x2
              have hun : u < n := by omega
              obtain ⟨b1, o1, z, e, _, cz, gz, _, gzm⟩ := K.sl.get hun
              subst e
              obtain ⟨z1, z2⟩ := HIN.out z gzm.out
              have hjl : j < (topL zs k).length := by rw [HLT.out]; exact hlt
              have hsum : (atL zs ((topL zs k).take (j + 1))).sum = S + z := by
                rw [take_succ_getD hjl, gx.out]
                unfold atL
                rw [List.map_append, List.sum_append]
                have h1 := hS.out
                unfold atL at h1
                rw [h1]
                rw [← gz.out]
                simp
              have HSM := Lib.hid hsum
              have j1 : (0 : Int) ≤ (j : Int) := by omega
              have j2 : (j : Int) < (m : Int) := by omega
              have u1 : (0 : Int) ≤ (u : Int) := by omega
              have u2 : (u : Int) < (n : Int) := by omega
              have d1 : decide ((u : Int) < 0) = false := by simp
              have d2 : decide ((n : Int) ≤ (u : Int)) = false := by simp; omega
              clear hsum gx gz hS
              go_wp2_with fail
              go_quiet (fail)
              go_wp2_with fail
              go_quiet (fail)
              go_wp2_with fail
              go_roundw
              case rel => exact ⟨j + 1, S + z, by omega, by go_num, rfl, by omega, by omega, HSM, _, rfl⟩
              case measure => simp [intOf]; omega
            · obtain rfl : m = j := by omega
              have hST : S = T := by
                rw [← hS.out, List.take_of_length_le (by rw [HLT.out]; exact Nat.le_refl _)]
                exact HT.out
              subst hST
              have f1 : decide (n1 + D - n0 ≤ X) = true := by simp; omega
              have f2 : (X == max 0 (n1 + S - n0)) = true := by simp; omega
              go_wp2_with fail
              all_goals (
                go_ret
                refine ⟨(by first | rfl | exact ret_bool (by first | rfl | (simp; done) | (simp; omega))), ?_⟩
                (repeat' (first | (with_reducible exact Below.refl _ _) | (with_reducible assumption) | (with_reducible exact Bw.out (by with_reducible assumption)) | (with_reducible refine bw_alloc ?_ _) | (with_reducible refine bw_step ?_ (by with_reducible assumption)) | (with_reducible refine Below.alloc ?_ ?_ _) | (with_reducible refine Below.drew ?_) | (with_reducible refine below_drewN ?_ _) | (with_reducible refine Below.setCell ?_ ?_ _) | (with_reducible refine below_step ?_ (by with_reducible assumption) ?_) | (with_reducible exact Nat.le_refl _) | omega | (simp; omega) | (simp; done))))
        · have i3 : ¬ (t : Int) < (n : Int) := by omega
          go_wp2_with fail
          go_loopw [17, 18] (fun u i wr => ∃ (j : Nat) (S : Int), j ≤ m ∧ i = .int .i64 j ∧ u = .int .i64 S ∧ 0 ≤ S ∧ S ≤ 400 * (j : Int) ∧ Hid ((atL zs ((topL zs k).take j)).sum = S) ∧ Hid (∃ q, wr = w4.drewN q)) (fun _ i _ => m - (intOf i).toNat)
          case atStart => exact ⟨0, 0, Nat.zero_le _, rfl, rfl, by omega, by omega, (by simp [atL] : (atL zs ((topL zs k).take 0)).sum = 0), _, rfl⟩
          case round =>
            obtain ⟨j, S, hj, rfl, rfl, hS1, hS2, hS, hq⟩ := hrel
            obtain ⟨q2, hq⟩ := hq.out
            subst hq
            by_cases hlt : j < m
            · obtain ⟨b3, o3, x, e, _, cx, gx, _, gm⟩ := K3.sl.get hlt
              subst e
              obtain ⟨x1, x2⟩ := topL_mem gm.out
              obtain ⟨u, rfl⟩ := Int.eq_ofNat_of_zero_le x1
              rw [HLN.out] at x2
              have hun : u < n := by omega
              obtain ⟨b1, o1, z, e, _, cz, gz, _, gzm⟩ := K.sl.get hun
              subst e
              obtain ⟨z1, z2⟩ := HIN.out z gzm.out
              have hjl : j < (topL zs k).length := by rw [HLT.out]; exact hlt
              have hsum : (atL zs ((topL zs k).take (j + 1))).sum = S + z := by
                rw [take_succ_getD hjl, gx.out]
                unfold atL
                rw [List.map_append, List.sum_append]
                have h1 := hS.out
                unfold atL at h1
                rw [h1]
                rw [← gz.out]
                simp
              have HSM := Lib.hid hsum
              have j1 : (0 : Int) ≤ (j : Int) := by omega
              have j2 : (j : Int) < (m : Int) := by omega
              have u1 : (0 : Int) ≤ (u : Int) := by omega
              have u2 : (u : Int) < (n : Int) := by omega
              have d1 : decide ((u : Int) < 0) = false := by simp
              have d2 : decide ((n : Int) ≤ (u : Int)) = false := by simp; omega
              clear hsum gx gz hS
              go_wp2_with fail
              go_quiet (fail)
              go_wp2_with fail
              go_quiet (fail)
              go_wp2_with fail
              go_roundw
              case rel => exact ⟨j + 1, S + z, by omega, by go_num, rfl, by omega, by omega, HSM, _, rfl⟩
              case measure => simp [intOf]; omega
            · obtain rfl : m = j := by omega
              have hST : S = T := by
                rw [← hS.out, List.take_of_length_le (by rw [HLT.out]; exact Nat.le_refl _)]
                exact HT.out
              subst hST
              have f1 : decide (n1 + D - n0 ≤ X) = true := by simp; omega
              have f2 : (X == max 0 (n1 + S - n0)) = true := by simp; omega
              go_wp2_with fail
              all_goals (
                go_ret
                refine ⟨(by first | rfl | exact ret_bool (by first | rfl | (simp; done) | (simp; omega))), ?_⟩
                (repeat' (first | (with_reducible exact Below.refl _ _) | (with_reducible assumption) | (with_reducible exact Bw.out (by with_reducible assumption)) | (with_reducible refine bw_alloc ?_ _) | (with_reducible refine bw_step ?_ (by with_reducible assumption)) | (with_reducible refine Below.alloc ?_ ?_ _) | (with_reducible refine Below.drew ?_) | (with_reducible refine below_drewN ?_ _) | (with_reducible refine Below.setCell ?_ ?_ _) | (with_reducible refine below_step ?_ (by with_reducible assumption) ?_) | (with_reducible exact Nat.le_refl _) | omega | (simp; omega) | (simp; done))))


set_option maxRecDepth 100000 in
theorem worstExact_lifted (os : Os) (started : os.Started) (H : Type) (enc : TypeId × Value → H) :
    ReturnsInHanded {} Try.checked os 10 .any (Rows.worstExactSpec.pre6 enc Try.prog Try.f10 Rows.worstExactRow.domain false) (Rows.worstExactSpec.post enc Try.prog Try.f10 false true false false) := by
  refine returnsInHanded_of_change (C := Try.checked) own started (by kernel_rfl) Try.func10
    (ChangeSpec.witness6 (enc := enc) (C := Try.checked) false ⟨#[], #[.agg #[.int .i64 0, .int .i64 0, .slice none 0 0], .int .i64 0, .slice none 0 0], []⟩ 8 (by kernel_rfl) (by kernel_rfl) (by kernel_rfl) (by kernel_rfl)) ?_
  intro W base args ds gs before hval0 hW _ _
  have hval : ∀ (j : Nat) t v, Try.f10.params[j]? = some t → args[j]? = some v → Value.okWide Try.prog W .any base t v := hval0
  have hW' := hW
  obtain ⟨p, q, hA0, hV, rfl, hfz, hnd⟩ := hW
  obtain ⟨rfl, rfl⟩ := trodVars_none hV
  have hA : DataW.TrodAll enc Try.prog W 0 (fun _ => true) true Try.f10.params.toList args.toList ds p := hA0
  rw [Try.params10] at hA hval
  obtain ⟨v0, vs0, d0, ds0, p0, q0, hargs, rfl, rfl, h0, r0⟩ := trodAll_cons hA
  obtain ⟨v1, vs1, d1, ds1, p1, q1, rfl, rfl, rfl, h1, r1⟩ := trodAll_cons r0
  obtain ⟨v2, vs2, d2, ds2, p2, q2, rfl, rfl, rfl, h2, r2⟩ := trodAll_cons r1
  obtain ⟨rfl, rfl, rfl⟩ := trodAll_nil r2
  obtain rfl : args = #[v0, v1, v2] := by cases args; simp_all
  obtain ⟨c00, c01, v_n, y00, y01, y02, m0, rfl, rfl, rfl, hy00, hy01, hy02⟩ := Go.Joins.open_agg3 Try.underlying25 (by kernel_rfl) (by kernel_rfl) (hval 0 25 v0 rfl rfl) h0
  obtain ⟨n0, e00, rfl, wn0⟩ := DataW.trod_int Try.underlying3 hy00
  simp only [List.cons.injEq, and_true] at e00
  subst e00
  obtain ⟨n1, e01, rfl, wn1⟩ := DataW.trod_int Try.underlying3 hy01
  simp only [List.cons.injEq, and_true] at e01
  subst e01
  obtain ⟨zs_n, hs_n, wf_n⟩ := slv_of_ints hy02
  obtain ⟨c, rfl, rfl, rfl, wc⟩ := open_int Try.underlying3 (hval 1 3 v1 rfl rfl) h1
  obtain ⟨a_s, n_s, c_s, rfl⟩ := okWide_slice Try.underlying56 (hval 2 56 v2 rfl rfl)
  obtain ⟨fu_s, hf_s⟩ := h2
  obtain ⟨zs_s, hs_s, wf_s⟩ := slk_of_u16 (by simpa [Value.cells] using hf_s)
  clear hA0 hval0
  refine (wexact_walk n0 n1 v_n zs_n c _ zs_s wn0 wn1 wf_n wc wf_s W hs_n hs_s).mono fun e W' ⟨he, hb⟩ => ?_
  subst he
  exact ⟨_, rfl, law_post (B := 4) laidOut (by rw [Try.params10]; simp only [List.mem_cons, List.not_mem_nil, or_false, forall_eq_or_imp, forall_eq]; first | exact readable_worstExact | (repeat' apply And.intro) <;> first | exact of_decide_eq_true (by kernel_rfl) | kernel_rfl) rfl Try.underlying4 rfl rfl hW' hb⟩

theorem worstExact_over : Rows.worstExactRow.holds Try.pinned (OpenSpec.ofChange Rows.worstExactSpec) :=
  OpenClaim.holds_of_wide 10 Try.f10 rfl rfl rfl rfl rfl rfl rfl ⟨rfl, rfl, rfl, rfl, rfl⟩ rfl rfl rfl rfl rfl (by kernel_rfl) Try.func10 (by kernel_rfl)
    (of_decide_eq_true (by kernel_rfl)) (by unfold Func.isWrapper; first | (rw [if_pos (by decide +kernel)]; kernel_rfl) | (rw [if_neg (by decide +kernel)]; exact ⟨rfl, rfl⟩))
    (fun os started H enc _ => worstExact_lifted os started H enc)

theorem worstExact_holds : Rows.WorstExactSaid := worstExact_over
#print axioms worstExact_holds
end Go.Proofs.Ytegkonedeledeaa
