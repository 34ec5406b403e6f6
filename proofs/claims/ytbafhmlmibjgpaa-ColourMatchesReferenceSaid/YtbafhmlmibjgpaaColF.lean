/-
  slices.DeleteFunc, as package colour's heights calls it.
-/
import Derived.Test.YtbafhmlmibjgpaaColE
import Derived.Lib.SliceRun
namespace Go.Proofs.Ytbafhmlmibjgpaa
set_option linter.unusedSimpArgs false
set_option linter.unusedVariables false
open Go.RowKit

set_option maxRecDepth 100000 in
set_option maxHeartbeats 1600000 in
theorem heights11_any (e t : Int) (Q : Nat) (w : World) (hQ : w.cell? ⟨Q, 0, none⟩ = some (.int .i64 t)) :
    Calls Try.prog 39 #[.int .i64 e, .pointer (some ⟨Q, 0, none⟩)] w fun x w' => x = .returned (.bool (decide (e ≤ t))) ∧ w = w' := by
  go_enter Try.func39, Try.ntmps39
  go_wp2_with fail
  go_ret
  exact ⟨rfl, rfl⟩

set_option maxRecDepth 100000 in
set_option maxHeartbeats 1600000 in
theorem index_heights (a1 : Option Addr) (m cap1 : Nat) (E : List Int) (t : Int) (Q : Nat) (w : World) (hm : m ≤ 9223372036854775807) (hE : SlI w a1 m E) (hQ : w.cell? ⟨Q, 0, none⟩ = some (.int .i64 t)) :
    Calls Try.prog 23 #[.slice a1 m cap1, .func (.func 39) #[] #[.pointer (some ⟨Q, 0, none⟩)]] w
      fun e w' => e = .returned (.int .i64 (idxF t E 0)) ∧ w = w' := by
  obtain ⟨R, hR⟩ : ∃ R, R = idxF t E 0 := ⟨_, rfl⟩
  rw [← hR]
  have HR := Lib.hid hR
  have hl := hE.1
  have HS := Lib.hid hE
  have HC2 := Lib.hid hQ
  clear hR hE hQ
  go_enter Try.func23, Try.ntmps23
  go_wp2_with fail
  go_loop [8] (fun i2 => ∃ k : Nat, k ≤ m ∧ i2 = .int .i64 k ∧ Hid (R = idxF t (E.drop k) k)) (fun i => m - (intOf i).toNat)
  case atStart => exact ⟨0, Nat.zero_le _, rfl, HR⟩
  case round =>
    obtain ⟨k, hk, rfl, hrk⟩ := hrel
    by_cases hlt : k < m
    · obtain ⟨b, off, z, rfl, hb, hck, hz, hd, _⟩ := HS.out.get hlt
      obtain ⟨p, hp⟩ : ∃ p, decide (z ≤ t) = p := ⟨_, rfl⟩
      have HPP := Lib.hid hp
      clear hp
      go_wp2_with fail
      refine (heights11_any z t Q _ HC2.out).mono ?_
      rintro e w' ⟨rfl, rfl⟩
      rw [HPP.out]
      cases p with
      | true =>
        go_wp2_with fail
        go_ret
        exact ⟨ret_int (by rw [hrk.out, hd.out]; have := HPP.out; simp at this; simp [idxF, this]), rfl⟩
      | false =>
        go_wp2_with fail
        go_round
        case rel => exact ⟨k + 1, by omega, by go_num, by show R = _; rw [hrk.out, hd.out]; have := HPP.out; simp at this; simp [idxF]; intro h; omega⟩
        case measure => simp [intOf]; omega
    · obtain rfl : k = m := by omega
      go_wp2_with fail
      go_ret
      exact ⟨ret_int (by rw [hrk.out, List.drop_of_length_le (by omega)]; rfl), rfl⟩

/-- What is beyond a number. -/
def beyP (t : Int) (e : Int) : Bool := decide (t < e)
theorem bey_all {t : Int} {E : List Int} (h : ∀ i, i < E.length → t < E.getD i 0) : E.filter (beyP t) = E := by
  rw [List.filter_eq_self]
  intro e he
  obtain ⟨i, hi, rfl⟩ := List.getElem_of_mem he
  have := h i hi
  simp [List.getD, hi] at this
  simpa [beyP] using this
theorem bey_head {t : Int} {E : List Int} {c : Nat} (hc : c < E.length) (h1 : E.getD c 0 ≤ t) (h2 : ∀ i, i < c → t < E.getD i 0) : (E.take (c + 1)).filter (beyP t) = E.take c := by
  rw [List.take_succ_eq_append_getElem hc, List.filter_append]
  have e1 : (E.take c).filter (beyP t) = E.take c := by
    rw [List.filter_eq_self]
    intro e he
    obtain ⟨i, hi, rfl⟩ := List.getElem_of_mem he
    have hi2 : i < c := by rw [List.length_take] at hi; omega
    have := h2 i hi2
    simp [List.getD, show i < E.length by omega] at this
    simpa [beyP] using this
  have e2 : [E[c]].filter (beyP t) = [] := by
    simp [List.getD, hc] at h1
    simpa [beyP] using h1
  rw [e1, e2, List.append_nil]

theorem zero_int (w : World) : (zeroValue 3).run Try.prog w = .ok (.int .i64 0) w := by kernel_rfl
theorem OwnV.clearC {base g n cap : Nat} (k i : Nat) {w : World} {Z : List Int} (h : OwnV w base (.slice (some ⟨g, 0, none⟩) n cap) Z) (hk : i + k ≤ Z.length) :
    ∃ Y, OwnV (w.setCells g i (List.replicate k (.int .i64 0))) base (.slice (some ⟨g, 0, none⟩) n cap) Y ∧ Y.length = Z.length ∧ Y.take i = Z.take i := by
  induction k generalizing i w Z with
  | zero => exact ⟨Z, h, rfl, rfl⟩
  | succ k ih =>
    obtain ⟨Y, h1, h2, h3⟩ := ih (i + 1) (h.setC (show i < Z.length by omega) 0) (by rw [List.length_set]; omega)
    refine ⟨Y, h1, by rw [h2, List.length_set], ?_⟩
    have e := congrArg (List.take i) h3
    rw [List.take_take, List.take_take, Nat.min_eq_left (by omega)] at e
    rw [e, List.take_set_of_le (Nat.le_refl _)]
theorem Tch.clearC {B : Nat} {a w : World} (h : Tch B a w) (k i : Nat) : Tch B a (w.setCells B i (List.replicate k (.int .i64 0))) := by
  induction k generalizing i w with
  | zero => exact h
  | succ k ih => exact ih (h.set i (.int .i64 0)) (i + 1)
theorem OwnV.cut {w : World} {base g n cap : Nat} {Z : List Int} (h : OwnV w base (.slice (some ⟨g, 0, none⟩) n cap) Z) {i : Nat} (hi : i ≤ Z.length) : OwnV w base (.slice (some ⟨g, 0, none⟩) i cap) (Z.take i) := by
  obtain ⟨h1, h2⟩ := h
  have hl : (Z.take i).length = i := by rw [List.length_take]; omega
  refine ⟨by simp, ?_⟩
  rcases h2 with ⟨h0, _⟩ | ⟨g', cap', cur, e1, e2, e3, e4, e5, e6, e7⟩
  · simp at h0
  · simp only [Value.slice.injEq, Option.some.injEq, Addr.mk.injEq] at e1
    obtain ⟨⟨rfl, _⟩, rfl, rfl⟩ := e1
    refine Or.inr ⟨g, cap, cur, by rw [hl], e2, e3, by rw [hl]; omega, e5, e6, ?_⟩
    have e := congrArg (List.take i) e7
    rw [List.take_take, ← List.map_take] at e
    rw [hl, ← e, Nat.mul_one, Nat.mul_one, Nat.min_eq_left hi]

set_option maxRecDepth 100000 in
set_option maxHeartbeats 3200000 in
theorem delete_any (base : Nat) (ae : Option Addr) (m ce : Nat) (E : List Int) (t : Int) (Q : Nat) (w : World) (hm : m ≤ 3000) (hE : OwnV w base (.slice ae m ce) E) (hEl : E.length = m) (hQ : w.cell? ⟨Q, 0, none⟩ = some (.int .i64 t)) (hne : ∀ g, ae = some ⟨g, 0, none⟩ → Q ≠ g) :
    Calls Try.prog 38 #[.slice ae m ce, .func (.func 39) #[] #[.pointer (some ⟨Q, 0, none⟩)]] w
      fun e w' => ∃ m', e = .returned (.slice ae m' ce) ∧ (E.filter (beyP t)).length = m' ∧ OwnV w' base (.slice ae m' ce) (E.filter (beyP t)) ∧ w.grownBy w' (Value.ownBlock (.slice ae m ce)) := by
  have HE := Lib.hid hE
  have HEL := Lib.hid hEl
  have HQ := Lib.hid hQ
  have HNE := Lib.hid hne
  have hsl := hE.sli hEl
  have HSL := Lib.hid hsl
  clear hE hEl hQ hne hsl
  rcases idxF_cases t E 0 with ⟨hc, hall⟩ | ⟨c, hc, hcl, hc1, hc2⟩
  · have HF : Hid (E.filter (beyP t) = E) := bey_all hall
    have HC := Lib.hid hc
    clear hc hall
    go_enter Try.func38, Try.ntmps38
    go_wp2_with fail
    refine (index_heights ae m ce E t Q _ (by omega) HSL.out HQ.out).mono ?_
    rintro e w' ⟨rfl, rfl⟩
    rw [HC.out]
    go_wp2_with fail
    go_ret
    exact ⟨m, rfl, by rw [HF.out, HEL.out], by rw [HF.out]; exact HE.out, World.grownBy.refl w _⟩
  · have HH : Hid ((E.take (c + 1)).filter (beyP t) = E.take c) := bey_head hcl hc1 hc2
    have HC : Hid (idxF t E 0 = (c : Int)) := by show _ = _; rw [hc, Nat.zero_add]
    have hcm : c < m := by have := HEL.out; omega
    have hmp : 0 < m := by omega
    clear hc hcl hc1 hc2
    obtain ⟨g, rfl, hg1, hg2⟩ : ∃ g, ae = some ⟨g, 0, none⟩ ∧ base ≤ g ∧ g < w.heap.size := by
      rcases HE.out.shape.2 with ⟨_, h, _⟩ | h
      · omega
      · exact h
    have hQg := HNE.out g rfl
    have HSZ := Lib.hid HE.out.sizes
    have hcne : ((c : Int) == -1) = false := by simp
    go_enter Try.func38, Try.ntmps38
    go_wp2_with fail
    refine (index_heights (some ⟨g, 0, none⟩) m ce E t Q _ (by omega) HSL.out HQ.out).mono ?_
    rintro e w' ⟨rfl, rfl⟩
    rw [HC.out]
    go_wp2_with fail
    go_loopw [5, 6] (fun vi vj wr => ∃ (i j : Nat) (Z : List Int), i < j ∧ j ≤ m ∧ vi = .int .i64 i ∧ vj = .int .i64 j ∧ Hid (OwnV wr base (.slice (some ⟨g, 0, none⟩) m ce) Z) ∧ Hid (Z.length = m) ∧ Hid (Z.take i = (E.take j).filter (beyP t)) ∧ Hid (Z.drop j = E.drop j) ∧ Hid (w.grownBy wr (some g))) (fun _ vj _ => m - (intOf vj).toNat)
    case atStart => exact ⟨c, c + 1, E, by omega, by omega, rfl, by go_num, HE.out, HEL.out, HH.out.symm, rfl, World.grownBy.refl w _⟩
    case round =>
      obtain ⟨i, j, Z, hij, hjm, rfl, rfl, hO, hZl, hT, hD, hG⟩ := hrel
      by_cases hlt : j < m
      · have hZj : j < Z.length := by rw [hZl.out]; exact hlt
        obtain ⟨v, hv⟩ : ∃ v, Z.getD j 0 = v := ⟨_, rfl⟩
        have cz := hO.out.ownI.cell hZj
        rw [hv] at cz
        have hvE : E[j]? = some v := by
          have h1 : (Z.drop j)[0]? = (E.drop j)[0]? := by rw [hD.out]
          rw [List.getElem?_drop, List.getElem?_drop, Nat.add_zero] at h1
          rw [← h1, ← hv, List.getD_eq_getElem?_getD, List.getElem?_eq_getElem hZj]
          rfl
        have hEt : E.take (j + 1) = E.take j ++ [v] := by rw [List.take_add_one, hvE]; rfl
        have hQr : wr.cell? ⟨Q, 0, none⟩ = some (.int .i64 t) := (World.cell?_of_block (hG.out.block Q (World.block_lt_of_cell? w _ HQ.out) (fun e => by cases e; exact hQg rfl))).trans HQ.out
        have HQr := Lib.hid hQr
        have j1 : (0 : Int) ≤ (j : Int) := by omega
        have j2 : (j : Int) < (m : Int) := by omega
        have j3 : (0 : Int) ≤ (i : Int) := by omega
        have j4 : (i : Int) < (m : Int) := by omega
        have hDn : ∀ (Y : List Int), Y.drop (j + 1) = Z.drop (j + 1) → Y.drop (j + 1) = E.drop (j + 1) := fun Y hY => by
          have h1 := congrArg (List.drop 1) hD.out
          rw [List.drop_drop, List.drop_drop] at h1
          rw [hY]; exact h1
        have HDn := Lib.hid hDn
        have HEt := Lib.hid hEt
        clear hQr hDn hEt hvE hv
        by_cases hvt : v ≤ t
        · have HT2 : Hid (Z.take i = (E.take (j + 1)).filter (beyP t)) := by
            show _ = _
            rw [HEt.out, List.filter_append, ← hT.out]
            simp [beyP]; omega
          have HD2 := Lib.hid (HDn.out Z rfl)
          have hdv : decide (v ≤ t) = true := by simpa using hvt
          clear hZj
          go_wp2_with fail
          refine (heights11_any v t Q _ HQr.out).mono ?_
          rintro e w' ⟨rfl, rfl⟩
          rw [hdv]
          go_wp2_with fail
          go_roundw
          case rel => exact ⟨i, j + 1, Z, by omega, by omega, rfl, by go_num, hO.out, hZl.out, HT2.out, HD2.out, hG.out⟩
          case measure => simp [intOf]; omega
        · have hiz : i < Z.length := by have := hZl.out; omega
          have HT2 : Hid ((Z.set i v).take (i + 1) = (E.take (j + 1)).filter (beyP t)) := by
            show _ = _
            rw [HEt.out, List.filter_append, ← hT.out, List.take_succ_eq_append_getElem (by rw [List.length_set]; exact hiz), List.take_set_of_le (Nat.le_refl _), List.getElem_set_self]
            rw [List.filter_cons_of_pos (by simp [beyP]; omega), List.filter_nil]
          have HD2 := Lib.hid (HDn.out (Z.set i v) (by rw [List.drop_set_of_lt (by omega)]))
          have hdv : decide (v ≤ t) = false := by simpa using hvt
          have zi := hO.out.ownI.frozen i
          have ci := hO.out.ownI.cell hiz
          have li := hO.out.ownI.lt
          have HO2 := Lib.hid (hO.out.setC hiz v)
          have HL2 : Hid ((Z.set i v).length = m) := by show _ = _; rw [List.length_set]; exact hZl.out
          have HG2 : Hid (w.grownBy (wr.setCell ⟨g, i, none⟩ (.int .i64 v)) (some g)) := Tch.set hG.out i _
          clear hZj hiz
          go_wp2_with fail
          refine (heights11_any v t Q _ HQr.out).mono ?_
          rintro e w' ⟨rfl, rfl⟩
          rw [hdv]
          go_wp2_with fail
          go_roundw
          case rel => exact ⟨i + 1, j + 1, Z.set i v, by omega, by omega, by go_num, by go_num, HO2.out, HL2.out, HT2.out, HD2.out, HG2.out⟩
          case measure => simp [intOf]; omega
      · obtain rfl : m = j := by omega
        have hcl : ∀ ty, (Builtin.clear_ #[24] ty #[.slice (some ⟨g, i, none⟩) (m - i) (ce - i)]).run Try.prog wr = .ok (.tuple #[]) (wr.setCells g i (List.replicate (m - i) (.int .i64 0))) :=
          fun ty => Lib.run_clear_slice wr _ _ ty _ Try.underlying24 zero_int rfl rfl g i _ _ (by omega) (fun k hk => by rw [hO.out.ownI.cell (by have := hZl.out; omega)]; rfl) (fun k hk => hO.out.ownI.frozen _)
        obtain ⟨Y, hY, hYl, hYt⟩ := hO.out.clearC (m - i) i (by have := hZl.out; omega)
        have hG2 := Tch.clearC hG.out (m - i) i
        have HY := Lib.hid hY
        have HYL := Lib.hid hYl
        have HYT := Lib.hid hYt
        have HG2 := Lib.hid hG2
        have hsz := HSZ.out
        have hic : i ≤ ce := by omega
        clear hY hYl hYt hG2
        go_wp2_with (simp only [hcl])
        go_ret
        have hT2 : Y.take i = E.filter (beyP t) := by rw [HYT.out, hT.out, List.take_of_length_le (Nat.le_of_eq HEL.out)]
        have hYi : i ≤ Y.length := by have := HYL.out; have := hZl.out; omega
        exact ⟨i, rfl, by rw [← hT2, List.length_take]; omega, by rw [← hT2]; exact HY.out.cut hYi, HG2.out⟩

end Go.Proofs.Ytbafhmlmibjgpaa
