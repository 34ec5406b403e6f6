/-
  cmp.Compare at ints; what a comparing closure must do; the walk of a stable sort's insertion sort.
-/
import Derived.Test.YtbafhmlmibjgpaaSortC
import Derived.Test.YtbafhmlmibjgpaaSortB
import Derived.BigQuiet
namespace Go.Proofs.Ytbafhmlmibjgpaa
set_option linter.unusedSimpArgs false
set_option linter.unusedVariables false
open Go.RowKit

def cmpI (x y : Int) : Int := if x < y then -1 else if y < x then 1 else 0
theorem cmpI_neg {x y : Int} : cmpI x y < 0 ↔ x < y := by unfold cmpI; split <;> (try split) <;> omega

set_option maxHeartbeats 400000 in
theorem isNaN_any (x : Int) (w : World) : Calls Try.prog 42 #[.int .i64 x] w fun e w' => e = .returned (.bool false) ∧ w = w' := by
  go_enter Try.func42, Try.ntmps42
  go_wp2
  go_ret
  exact ⟨by first | rfl | simp, rfl⟩

set_option maxHeartbeats 400000 in
theorem compare_int (x y : Int) (w : World) : Calls Try.prog 36 #[.int .i64 x, .int .i64 y] w fun e w' => e = .returned (.int .i64 (cmpI x y)) ∧ w = w' := by
  rcases Int.lt_trichotomy x y with h | h | h
  · rw [show cmpI x y = -1 from if_pos h]
    go_enter Try.func36, Try.ntmps36
    go_wp2_with (go_at_call 42; refine (isNaN_any _ _).mono ?_; rintro e w' ⟨rfl, rfl⟩)
    go_ret
    exact ⟨rfl, rfl⟩
  · subst h
    rw [show cmpI x x = 0 by simp [cmpI]]
    go_enter Try.func36, Try.ntmps36
    go_wp2_with (go_at_call 42; refine (isNaN_any _ _).mono ?_; rintro e w' ⟨rfl, rfl⟩)
    go_ret
    exact ⟨rfl, rfl⟩
  · rw [show cmpI x y = 1 by unfold cmpI; rw [if_neg (by omega), if_pos h]]
    have h2 : y ≤ x := by omega
    go_enter Try.func36, Try.ntmps36
    go_wp2_with (go_at_call 42; refine (isNaN_any _ _).mono ?_; rintro e w' ⟨rfl, rfl⟩)
    go_ret
    exact ⟨rfl, rfl⟩

/-- The closure with the captured variable at p compares the keys of numbers below n, in this world. -/
def CmpAt (F : Nat) (key : Int → Int) (n : Nat) (p : Addr) (w : World) : Prop :=
  ∀ x y : Int, 0 ≤ x → x < n → 0 ≤ y → y < n → Calls Try.prog F #[.int .i64 x, .int .i64 y, .pointer (some p)] w fun e w' => e = .returned (.int .i64 (cmpI (key x) (key y))) ∧ ∃ m, w' = w.drewN m
/-- .. in each world that differs in block B alone. -/
def CmpOk (F : Nat) (key : Int → Int) (n : Nat) (p : Addr) (B : Nat) (w : World) : Prop := ∀ w', Tch B w w' → CmpAt F key n p w'
theorem CmpOk.tch {F : Nat} {key : Int → Int} {n B : Nat} {p : Addr} {w w1 : World} (h : CmpOk F key n p B w) (ht : Tch B w w1) : CmpOk F key n p B w1 := fun w' h' => h w' (ht.trans h')
theorem CmpOk.at {F : Nat} {key : Int → Int} {n B : Nat} {p : Addr} {w : World} (h : CmpOk F key n p B w) (m : Nat) : CmpAt F key n p (w.drewN m) := h _ ((Tch.refl _ _).drewN m)

/-- All numbers of a list are below n, and not below 0. -/
def DomI (zs : List Int) (n : Nat) : Prop := ∀ i, i < zs.length → 0 ≤ zs.getD i 0 ∧ zs.getD i 0 < n
theorem DomI.perm {zs zs' : List Int} {n : Nat} (h : DomI zs n) (hp : zs'.Perm zs) : DomI zs' n := by
  intro i hi
  have hm : zs'.getD i 0 ∈ zs := hp.mem_iff.1 (by simp [List.getD, hi])
  obtain ⟨j, hj, e⟩ := List.getElem_of_mem hm
  have := h j hj
  rw [show zs.getD j 0 = zs[j] by simp [List.getD, hj], e] at this
  exact this

theorem Ins.step' {key : Int → Int} {zs cur : List Int} {a i j : Nat} (h : Ins key zs cur a i j) (h0 : 0 < j) (hj : j ≤ i) (hi : i < zs.length) (hc : key (cur.getD j 0) < key (cur.getD (j - 1) 0)) :
    Ins key zs (sw cur j (j - 1)) a i (j - 1) := by
  obtain ⟨k, rfl⟩ : ∃ k, j = k + 1 := ⟨j - 1, by omega⟩
  exact h.step hj hi hc
theorem Rea.one {zs zs' : List Int} {a : Nat} (h : Rea zs zs' a (a + 1)) : Rea zs zs' a a := by
  refine ⟨h.len, fun i _ => ?_, fun i h1 h2 => by omega, h.perm⟩
  by_cases e : i = a
  · subst e
    obtain ⟨j, j1, j2, e⟩ := h.mem i (Nat.le_refl _) (by omega)
    rw [e, show j = i by omega]
  · exact h.out i (by omega)

set_option maxRecDepth 100000 in
set_option maxHeartbeats 3200000 in
theorem insertion_any (B n cap N : Nat) (zs : List Int) (key : Int → Int) (a b : Nat) (p : Addr) (w : World) (hl : zs.length = n) (hO : OwnI w B zs) (hD : DomI zs N) (hC : CmpOk 35 key N p B w)
    (hab : a ≤ b) (hb : b ≤ n) (hn : n ≤ 1000000) (hN : N ≤ 1000000) (hE : ∀ i j, a ≤ i → i < j → j < b → zs.getD i 0 < zs.getD j 0) :
    Calls Try.prog 43 #[.slice (some ⟨B, 0, none⟩) n cap, .int .i64 a, .int .i64 b, .func (.func 35) #[] #[.pointer (some p)]] w
      fun e w' => e = .returned (.tuple #[]) ∧ ∃ zs', Rea zs zs' a b ∧ SrtI key zs' a b ∧ OwnI w' B zs' ∧ Tch B w w' := by
  have HO := Lib.hid hO
  have HL := Lib.hid hl
  have HC := Lib.hid hC
  have HE := Lib.hid hE
  have HD := Lib.hid hD
  clear hO hl hC hE hD
  go_enter Try.func43, Try.ntmps43
  go_wp2_with fail
  go_loopw [8, 9] (fun u v wr => ∃ i : Nat, ∃ cur : List Int, a + 1 ≤ i ∧ (i ≤ b ∨ i = a + 1) ∧ u = .int .i64 i ∧ Hid (Rea zs cur a i) ∧ Hid (SrtI key cur a i) ∧ Hid (OwnI wr B cur) ∧ Hid (Tch B w wr)) (fun u _ _ => b - (intOf u).toNat)
  case atStart => exact ⟨a + 1, zs, by omega, by omega, by go_num, Rea.refl _ _ _, (fun i j h1 h2 h3 => by omega), HO.out, Tch.refl _ _⟩
  case round =>
    obtain ⟨i, cur, hi, hib, rfl, hS, hR, hO, hT⟩ := hrel
    by_cases hlt : i < b
    · go_wp2_with fail
      obtain ⟨wo, hwo⟩ : ∃ wo : World, wo = wr := ⟨_, rfl⟩
      subst hwo
      go_loopw [9] (fun v wr => ∃ j : Nat, ∃ nx : List Int, a ≤ j ∧ j ≤ i ∧ v = .int .i64 j ∧ Hid (Ins key cur nx a i j) ∧ Hid (OwnI wr B nx) ∧ Hid (Tch B w wr)) (fun v _ => (intOf v).toNat)
      case atStart => exact ⟨i, cur, by omega, Nat.le_refl _, rfl, Ins.start _ _ _ _, hO.out, hT.out⟩
      case round =>
        obtain ⟨j, nx, haj, hji, rfl, hI, hO2, hT2⟩ := hrel
        have hlen : Hid (nx.length = n) := by show _ = _; rw [hI.out.len, hS.out.len, HL.out]
        have hdone : Hid ((j = a ∨ ¬ key (nx.getD j 0) < key (nx.getD (j - 1) 0)) → Rea zs nx a (i + 1) ∧ SrtI key nx a (i + 1)) := fun hc => by
          have hE2 : ∀ k, a ≤ k → k < i → cur.getD k 0 < cur.getD i 0 := fun k k1 k2 => by
            obtain ⟨q, q1, q2, e⟩ := hS.out.mem k k1 k2
            rw [e, hS.out.out i (by omega)]
            exact HE.out q i q1 q2 hlt
          obtain ⟨g1, g2⟩ := hI.out.done haj hji hR.out hE2 hc
          exact ⟨(hS.out.mono (Nat.le_refl _) (by omega)).trans g2, g1⟩
        by_cases hja : a < j
        · have c1 := hO2.out.cell (i := j) (by have := hlen.out; omega)
          have c2 := hO2.out.cell (i := j - 1) (by have := hlen.out; omega)
          have z1 := hO2.out.frozen j
          have z2 := hO2.out.frozen (j - 1)
          have dd : DomI nx N := HD.out.perm (hI.out.perm.trans hS.out.perm)
          have d1 := dd j (by have := hlen.out; omega)
          have d2 := dd (j - 1) (by have := hlen.out; omega)
          clear dd
          obtain ⟨x, hx⟩ : ∃ x, nx.getD j 0 = x := ⟨_, rfl⟩
          obtain ⟨y, hy⟩ : ∃ y, nx.getD (j - 1) 0 = y := ⟨_, rfl⟩
          rw [hx] at c1 d1
          rw [hy] at c2 d2
          have HX := Lib.hid hx
          have HY := Lib.hid hy
          obtain ⟨d11, d12⟩ := d1
          obtain ⟨d21, d22⟩ := d2
          have hC' := Lib.hid (HC.out.tch hT2.out)
          have b0 : (0 : Int) ≤ (j : Int) - 1 := by omega
          have b1 : (j : Int) - 1 < (n : Int) := by omega
          have b2 : (j : Int) < (n : Int) := by omega
          have b3 : ((j : Int) - 1).toNat = j - 1 := by omega
          clear hx hy
          go_wp2_with fail
          by_cases hc : key x < key y
          · have hcn : cmpI (key x) (key y) < 0 := cmpI_neg.2 hc
            go_quiet ((go_at_call 35; exact Calls.quiet_of (hC'.out.at _ x y d11 d12 d21 d22)))
            go_wp2_with fail
            go_region
            go_wp2_with fail
            go_roundw
            case rel =>
              refine ⟨j - 1, sw nx j (j - 1), by omega, by omega, by go_num, hI.out.step' (by omega) hji (by have := hS.out.len; have := HL.out; omega) (by rw [HX.out, HY.out]; exact hc), ?_, ?_⟩
              · show OwnI _ B _
                unfold sw
                rw [HX.out, HY.out]
                exact ((hO2.out.drewN _).set (by have := hlen.out; omega) _).set (by have := hlen.out; simp; omega) _
              · show Tch B w _
                exact ((hT2.out.drewN _).set _ _).set _ _
            case measure => simp [intOf]; omega
          · have hcn : ¬ cmpI (key x) (key y) < 0 := fun h => hc (cmpI_neg.1 h)
            go_quiet ((go_at_call 35; exact Calls.quiet_of (hC'.out.at _ x y d11 d12 d21 d22)))
            go_wp2_with fail
            go_roundw
            case rel =>
              obtain ⟨g1, g2⟩ := hdone.out (Or.inr (by rw [HX.out, HY.out]; omega))
              exact ⟨i + 1, nx, by omega, by omega, by go_num, g1, g2, hO2.out.drewN _, hT2.out.drewN _⟩
            case measure => simp [intOf]; omega
        · have hd : decide ((a : Int) < (j : Int)) = false := by simp; omega
          go_wp2_with fail
          go_quiet (fail)
          go_wp2_with fail
          go_roundw
          case rel =>
            obtain ⟨g1, g2⟩ := hdone.out (Or.inl (by omega))
            exact ⟨i + 1, nx, by omega, by omega, by go_num, g1, g2, hO2.out.drewN _, hT2.out.drewN _⟩
          case measure => simp [intOf]; omega
    · go_wp2_with fail
      go_end0
      refine ⟨rfl, cur, ?_, hR.out.sub (Nat.le_refl _) (by omega), hO.out, hT.out⟩
      rcases hib with h | h
      · obtain rfl : i = b := by omega
        exact hS.out
      · subst h
        rcases Nat.lt_or_eq_of_le hab with g | g
        · obtain rfl : b = a + 1 := by omega
          exact hS.out
        · subst g
          exact hS.out.one

end Go.Proofs.Ytbafhmlmibjgpaa
