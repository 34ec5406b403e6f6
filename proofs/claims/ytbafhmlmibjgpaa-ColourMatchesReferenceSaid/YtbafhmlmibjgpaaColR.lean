/-
  The reference's on, has, first.
-/
import Derived.Test.YtbafhmlmibjgpaaColN
namespace Go.Proofs.Ytbafhmlmibjgpaa
set_option linter.unusedSimpArgs false
set_option linter.unusedVariables false
open Go.RowKit

set_option maxRecDepth 100000 in
set_option maxHeartbeats 1600000 in
theorem R_on_any (a : Option Addr) (n cap : Nat) (l : List SpV) (t : Int) (w : World) (hm : n ≤ 1000000) (hs : SlP w a n l) :
    Calls Try.prog 31 #[.slice a n cap, .int .i64 t] w fun e w' => ∃ v, e = .returned v ∧ OwnV w' w.heap.size v (onL l t) ∧ Below w.heap.size w w' := by
  have HS := Lib.hid hs
  have HL := Lib.hid hs.1
  clear hs
  go_enter Try.func31, Try.ntmps31
  go_wp2_with fail
  go_loopw [5, 6] (fun u i wr => ∃ (k : Nat) (v : Value), k ≤ n ∧ i = .int .i64 k ∧ v = u ∧ Hid (OwnV wr w.heap.size v (onK l t k)) ∧ Hid (Below w.heap.size w wr)) (fun _ i _ => n - (intOf i).toNat)
  case atStart => exact ⟨0, .slice none 0 0, Nat.zero_le _, rfl, rfl, by show OwnV _ _ _ _; simpa [onK, upto] using OwnV.nil w w.heap.size, Below.refl _ _⟩
  case round =>
    obtain ⟨k, v, hk, rfl, rfl, hO, hB⟩ := hrel
    by_cases hlt : k < n
    · obtain ⟨f, u, b, off, hx, _, _, rfl, hb, c0, c1⟩ := (HS.out.below hB.out).get hlt
      have HFU : Hid (hasP l t k = (decide (f ≤ t) && decide (t < u))) := by
        show _ = _
        have e1 : frP l k = f := by unfold frP; rw [Int.toNat_natCast, hx.out]
        have e2 : unP l k = u := by unfold unP; rw [Int.toNat_natCast, hx.out]
        unfold hasP
        rw [e1, e2]
      have HLk : Hid ((onK l t k).length ≤ k) := onK_length l t k
      have i1 : (0 : Int) ≤ (k : Int) := by omega
      have i2 : (k : Int) < (n : Int) := by omega
      have hsz := hB.out.size
      clear hx
      by_cases h1 : f ≤ t
      · by_cases h2 : t < u
        · have HT : Hid (onK l t (k + 1) = onK l t k ++ [(k : Int)]) := by
            show _ = _
            rw [onK_succ, HFU.out]
            simp [h1, h2]
          go_upto_region 6 with fail
          go_upto_region 4 with (at_builtin; refine wpList_append_int rfl _ _ _ rfl Try.underlying24 w.heap.size _ (onK l t k) rfl (hO.out.alloc _) wr.heap.size 1 (k : Int) rfl ((Row.new' wr [_] _ rfl).cell 0 rfl) (by have := HLk.out; omega) (by simp; omega) ?_; intro v' w5 hown1 hbl1 hsz1)
          have H7 := Lib.hid (hbl1 w (hB.out.alloc (by omega) _))
          rw [← HT.out] at hown1
          have H1 := Lib.hid hown1
          clear hown1 hbl1
          go_wp2_with fail
          go_roundw
          case rel => exact ⟨k + 1, v', by omega, by go_num, rfl, H1.out, H7.out⟩
          case measure => simp [intOf]; omega
        · have HO2 : Hid (OwnV wr w.heap.size v (onK l t (k + 1))) := by
            show OwnV _ _ _ _
            rw [onK_succ, HFU.out, if_neg (by simp [h2])]; exact hO.out
          go_wp2_with fail
          go_roundw
          case rel => exact ⟨k + 1, v, by omega, by go_num, rfl, HO2.out, (hB.out : Below _ _ _)⟩
          case measure => simp [intOf]; omega
      · have HO2 : Hid (OwnV wr w.heap.size v (onK l t (k + 1))) := by
          show OwnV _ _ _ _
          rw [onK_succ, HFU.out, if_neg (by simp [h1])]; exact hO.out
        go_wp2_with fail
        go_roundw
        case rel => exact ⟨k + 1, v, by omega, by go_num, rfl, HO2.out, (hB.out : Below _ _ _)⟩
        case measure => simp [intOf]; omega
    · obtain rfl : n = k := by omega
      have HV : Hid (OwnV wr w.heap.size v (onL l t)) := by
        show OwnV _ _ _ _
        unfold onL
        rw [HL.out]; exact hO.out
      go_wp2_with fail
      go_ret
      exact ⟨_, rfl, HV.out, hB.out⟩

set_option maxRecDepth 100000 in
set_option maxHeartbeats 1600000 in
theorem R_has_any (a : Option Addr) (n cap : Nat) (zs : List Int) (t : Int) (w : World) (hm : n ≤ 1000000) (hs : SlI w a n zs) (b : Bool) (hb : decide (t ∈ zs) = b) :
    Calls Try.prog 27 #[.slice a n cap, .int .i64 t] w fun e w' => e = .returned (.bool b) ∧ w' = w := by
  have HS := Lib.hid hs
  have HL := Lib.hid hs.1
  have HB := Lib.hid hb
  clear hs hb
  go_enter Try.func27, Try.ntmps27
  go_wp2_with fail
  go_loopw [5] (fun i wr => ∃ k : Nat, k ≤ n ∧ i = .int .i64 k ∧ Hid (¬ t ∈ zs.take k) ∧ Hid (wr = w)) (fun i _ => n - (intOf i).toNat)
  case atStart => exact ⟨0, Nat.zero_le _, rfl, by show ¬ _; simp, rfl⟩
  case round =>
    obtain ⟨k, hk, rfl, hT, hW⟩ := hrel
    have hW := hW.out
    subst hW
    by_cases hlt : k < n
    · obtain ⟨b', off, z, rfl, _, c0, hz, _, hmem⟩ := HS.out.get hlt
      have i1 : (0 : Int) ≤ (k : Int) := by omega
      have i2 : (k : Int) < (n : Int) := by omega
      by_cases hzt : z = t
      · subst hzt
        have hbt : b = true := by rw [← HB.out]; simpa using hmem.out
        subst hbt
        go_wp2_with fail
        go_ret
        exact ⟨rfl, rfl⟩
      · have hne : (z == t) = false := by simpa using hzt
        have HT : Hid (¬ t ∈ zs.take (k + 1)) := by
          show ¬ _
          rw [take_succ_getD (by rw [HL.out]; exact hlt), hz.out]
          simp only [List.mem_append, List.mem_singleton, not_or]
          exact ⟨hT.out, fun e => hzt e.symm⟩
        clear hzt
        go_wp2_with fail
        go_roundw
        case rel => exact ⟨k + 1, by omega, by go_num, HT.out, by first | rfl | exact trivial⟩
        case measure => simp [intOf]; omega
    · obtain rfl : n = k := by omega
      have hbf : b = false := by
        rw [← HB.out]
        have := hT.out
        rw [List.take_of_length_le (by rw [HL.out]; exact Nat.le_refl _)] at this
        simpa using this
      subst hbf
      go_wp2_with fail
      go_ret
      exact ⟨rfl, rfl⟩

/-- The least beginning of a span whose height is greater than h, and whether there is one. -/
def firS (l : List SpV) (h : Int) (s : Int × Bool) (i : Int) : Int × Bool := if h < cntP l (frP l i) ∧ (s.2 = false ∨ frP l i < s.1) then (frP l i, true) else s
def firK (l : List SpV) (h : Int) (k : Nat) : Int × Bool := (upto k).foldl (firS l h) (0, false)
def firL (l : List SpV) (h : Int) : Int × Bool := firK l h l.length
theorem firK_succ (l : List SpV) (h : Int) (k : Nat) : firK l h (k + 1) = firS l h (firK l h k) k := by
  unfold firK
  rw [upto_succ, List.foldl_append]
  rfl
theorem firK_spec (l : List SpV) (h : Int) : ∀ k : Nat, ((firK l h k).2 = false ∧ (firK l h k).1 = 0 ∧ ∀ i : Nat, i < k → (cntP l (frP l i) : Int) ≤ h) ∨
    ((firK l h k).2 = true ∧ (∃ i : Nat, i < k ∧ (firK l h k).1 = frP l i ∧ h < cntP l (frP l i)) ∧ ∀ i : Nat, i < k → h < cntP l (frP l i) → (firK l h k).1 ≤ frP l i)
  | 0 => Or.inl ⟨rfl, rfl, fun i hi => absurd hi (Nat.not_lt_zero _)⟩
  | k + 1 => by
    rw [firK_succ]
    obtain ⟨s, hs⟩ : ∃ s, firK l h k = s := ⟨_, rfl⟩
    have ih := firK_spec l h k
    rw [hs] at ih ⊢
    unfold firS
    by_cases hc : h < cntP l (frP l k) ∧ (s.2 = false ∨ frP l k < s.1)
    · rw [if_pos hc]
      right
      refine ⟨rfl, ⟨k, by omega, rfl, hc.1⟩, fun i hi hh => ?_⟩
      rcases ih with ⟨h1, _, h2⟩ | ⟨h1, h2, h3⟩
      · by_cases hik : i = k
        · subst hik; exact Int.le_refl _
        · have := h2 i (by omega); omega
      · by_cases hik : i = k
        · subst hik; exact Int.le_refl _
        · have := h3 i (by omega) hh
          rcases hc.2 with h4 | h4
          · rw [h1] at h4; cases h4
          · simp only []; omega
    · rw [if_neg hc]
      rcases ih with ⟨h1, h0, h2⟩ | ⟨h1, ⟨j, h2, h4, h5⟩, h3⟩
      · left
        refine ⟨h1, h0, fun i hi => ?_⟩
        by_cases hik : i = k
        · subst hik
          by_cases hh : h < cntP l (frP l i)
          · exact absurd ⟨hh, Or.inl h1⟩ hc
          · omega
        · exact h2 i (by omega)
      · right
        refine ⟨h1, ⟨j, by omega, h4, h5⟩, fun i hi hh => ?_⟩
        by_cases hik : i = k
        · subst hik
          by_cases hlt : frP l i < s.1
          · exact absurd ⟨hh, Or.inr hlt⟩ hc
          · omega
        · exact h3 i (by omega) hh

set_option maxRecDepth 100000 in
set_option maxHeartbeats 3200000 in
theorem R_first_any (a : Option Addr) (n cap : Nat) (l : List SpV) (h : Int) (w : World) (hm : n ≤ 1000000) (hs : SlP w a n l) :
    Calls Try.prog 30 #[.slice a n cap, .int .i64 h] w fun e w' => e = .returned (.tuple #[.int .i64 (firL l h).1, .bool (firL l h).2]) ∧ Below w.heap.size w w' := by
  have HS := Lib.hid hs
  have HL := Lib.hid hs.1
  obtain ⟨R, hR⟩ : ∃ R, firL l h = R := ⟨_, rfl⟩
  rw [hR]
  have HR := Lib.hid hR
  clear hs hR
  go_enter Try.func30, Try.ntmps30
  go_wp2_with fail
  go_loopw [6, 7, 8] (fun vt vf i wr => ∃ (k : Nat) (t : Int) (fd : Bool), k ≤ n ∧ i = .int .i64 k ∧ vt = .int .i64 t ∧ vf = .bool fd ∧ Hid (firK l h k = (t, fd)) ∧ Hid (Below w.heap.size w wr)) (fun _ _ i _ => n - (intOf i).toNat)
  case atStart => exact ⟨0, 0, false, Nat.zero_le _, rfl, rfl, rfl, rfl, Below.refl _ _⟩
  case round =>
    obtain ⟨k, t, fd, hk, rfl, rfl, rfl, hP, hB⟩ := hrel
    by_cases hlt : k < n
    · obtain ⟨f, u, b, off, hx, _, _, rfl, hb, c0, c1⟩ := (HS.out.below hB.out).get hlt
      have HFR : Hid (frP l k = f) := by show _ = _; unfold frP; rw [Int.toNat_natCast, hx.out]
      obtain ⟨C, hC⟩ : ∃ C, (onL l f).length = C := ⟨_, rfl⟩
      have hCC : cntP l f = C := hC
      have HCN := Lib.hid hC
      have HCC := Lib.hid hCC
      have i1 : (0 : Int) ≤ (k : Int) := by omega
      have i2 : (k : Int) < (n : Int) := by omega
      clear hx hC hCC
      by_cases h1 : h < (C : Int)
      · cases fd with
        | false =>
          go_upto_region 6 with fail
          go_wp2_with fail
          refine (R_on_any _ n cap l f _ (by omega) (HS.out.below hB.out)).mono ?_
          rintro e w4 ⟨v4, rfl, hv4, hb4⟩
          obtain ⟨a4, c4, rfl, hv4⟩ := hv4.sl.form (m := C) HCN.out
          have hb4' : Below wr.heap.size wr w4 := hb4
          have d0 := (hb4.cell (p := ⟨b, off + k * 2, none⟩) hb).trans c0
          have HB4 : Hid (Below w.heap.size w w4) := hB.out.trans (hb4.mono hB.out.size)
          clear hb4 hb4' hv4 c0 c1
          go_wp2_with fail
          go_roundw
          case rel => exact ⟨k + 1, f, true, by omega, by go_num, rfl, rfl, by show _ = _; rw [firK_succ, hP.out]; unfold firS; rw [HFR.out]; rw [HCC.out, if_pos ⟨h1, Or.inl rfl⟩], HB4.out⟩
          case measure => simp [intOf]; omega
        | true =>
          by_cases h2 : f < t
          ·
            go_upto_region 6 with fail
            go_wp2_with fail
            refine (R_on_any _ n cap l f _ (by omega) (HS.out.below hB.out)).mono ?_
            rintro e w4 ⟨v4, rfl, hv4, hb4⟩
            obtain ⟨a4, c4, rfl, hv4⟩ := hv4.sl.form (m := C) HCN.out
            have hb4' : Below wr.heap.size wr w4 := hb4
            have d0 := (hb4.cell (p := ⟨b, off + k * 2, none⟩) hb).trans c0
            have HB4 : Hid (Below w.heap.size w w4) := hB.out.trans (hb4.mono hB.out.size)
            clear hb4 hb4' hv4 c0 c1
            go_wp2_with fail
            go_roundw
            case rel => exact ⟨k + 1, f, true, by omega, by go_num, rfl, rfl, by show _ = _; rw [firK_succ, hP.out]; unfold firS; rw [HFR.out]; rw [HCC.out, if_pos ⟨h1, Or.inr h2⟩], HB4.out⟩
            case measure => simp [intOf]; omega
          ·
            go_upto_region 6 with fail
            go_wp2_with fail
            refine (R_on_any _ n cap l f _ (by omega) (HS.out.below hB.out)).mono ?_
            rintro e w4 ⟨v4, rfl, hv4, hb4⟩
            obtain ⟨a4, c4, rfl, hv4⟩ := hv4.sl.form (m := C) HCN.out
            have hb4' : Below wr.heap.size wr w4 := hb4
            have d0 := (hb4.cell (p := ⟨b, off + k * 2, none⟩) hb).trans c0
            have HB4 : Hid (Below w.heap.size w w4) := hB.out.trans (hb4.mono hB.out.size)
            clear hb4 hb4' hv4 c0 c1
            go_wp2_with fail
            go_roundw
            case rel => exact ⟨k + 1, t, true, by omega, by go_num, rfl, rfl, by show _ = _; rw [firK_succ, hP.out]; unfold firS; rw [HFR.out]; rw [HCC.out, if_neg (by simp [h2])], HB4.out⟩
            case measure => simp [intOf]; omega
      ·
        go_upto_region 6 with fail
        go_wp2_with fail
        refine (R_on_any _ n cap l f _ (by omega) (HS.out.below hB.out)).mono ?_
        rintro e w4 ⟨v4, rfl, hv4, hb4⟩
        obtain ⟨a4, c4, rfl, hv4⟩ := hv4.sl.form (m := C) HCN.out
        have hb4' : Below wr.heap.size wr w4 := hb4
        have d0 := (hb4.cell (p := ⟨b, off + k * 2, none⟩) hb).trans c0
        have HB4 : Hid (Below w.heap.size w w4) := hB.out.trans (hb4.mono hB.out.size)
        clear hb4 hb4' hv4 c0 c1
        go_wp2_with fail
        go_roundw
        case rel => exact ⟨k + 1, t, fd, by omega, by go_num, rfl, rfl, by show _ = _; rw [firK_succ, hP.out]; unfold firS; rw [HFR.out]; rw [HCC.out, if_neg (fun e => absurd e.1 (by omega))], HB4.out⟩
        case measure => simp [intOf]; omega
    · obtain rfl : n = k := by omega
      obtain rfl : R = (t, fd) := by rw [← HR.out]; unfold firL; rw [HL.out]; exact hP.out
      go_wp2_with fail
      exact bodyPost_ret (v := .tuple #[.int .i64 t, .bool fd]) (by simp [results, Try.results30, go_sem]) rfl ⟨rfl, hB.out⟩

end Go.Proofs.Ytbafhmlmibjgpaa
