/-
  Package colour's on: the indexes of the spans that have a number.
-/
import Derived.Test.YtbafhmlmibjgpaaColB
namespace Go.Proofs.Ytbafhmlmibjgpaa
set_option linter.unusedSimpArgs false
set_option linter.unusedVariables false
open Go.RowKit

/-- Has the span with an index a number? -/
def hasP (l : List SpV) (t : Int) (i : Int) : Bool := decide (frP l i ≤ t) && decide (t < unP l i)
def onK (l : List SpV) (t : Int) (k : Nat) : List Int := (upto k).filter (hasP l t)
def onL (l : List SpV) (t : Int) : List Int := onK l t l.length
theorem onK_succ (l : List SpV) (t : Int) (k : Nat) : onK l t (k + 1) = if hasP l t k then onK l t k ++ [(k : Int)] else onK l t k := by
  unfold onK
  rw [upto_succ, List.filter_append]
  cases h : hasP l t k <;> simp [h]
theorem onK_length (l : List SpV) (t : Int) (k : Nat) : (onK l t k).length ≤ k := by
  unfold onK
  have := List.length_filter_le (hasP l t) (upto k)
  rwa [upto_length] at this
theorem OwnV.form2 {w : World} {base : Nat} {v : Value} {zs : List Int} (h : OwnV w base v zs) : ∃ ad cp, v = .slice ad zs.length cp ∧ OwnV w base (.slice ad zs.length cp) zs := by
  have h' := h
  obtain ⟨h1, h2⟩ := h
  rcases h2 with ⟨rfl, h2⟩ | ⟨g, cap, cur, rfl, _⟩
  · exact ⟨none, 0, by rw [h2], by rw [h2]; exact h'⟩
  · exact ⟨_, cap, rfl, h'⟩

set_option maxRecDepth 100000 in
set_option maxHeartbeats 1600000 in
theorem on_any (a : Option Addr) (n cap : Nat) (l : List SpV) (t : Int) (w : World) (hm : n ≤ 1000000) (hs : SlP w a n l) :
    Calls Try.prog 29 #[.slice a n cap, .int .i64 t] w fun e w' => ∃ v, e = .returned v ∧ OwnV w' w.heap.size v (onL l t) ∧ Below w.heap.size w w' := by
  have HS := Lib.hid hs
  have HL := Lib.hid hs.1
  clear hs
  go_enter Try.func29, Try.ntmps29
  go_wp2_with fail
  go_loopw [5, 10] (fun u i wr => ∃ (k : Nat) (v : Value), k ≤ n ∧ i = .int .i64 k ∧ v = u ∧ Hid (OwnV wr w.heap.size v (onK l t k)) ∧ Hid (Below w.heap.size w wr)) (fun _ i _ => n - (intOf i).toNat)
  case atStart => exact ⟨0, .slice none 0 0, Nat.zero_le _, rfl, rfl, by show OwnV _ _ _ _; simpa [onK, upto] using OwnV.nil w w.heap.size, Below.refl _ _⟩
  case round =>
    obtain ⟨k, v, hk, rfl, rfl, hO, hB⟩ := hrel
    by_cases hlt : k < n
    · obtain ⟨f, u, b, off, hx, _, _, rfl, hb, c0, c1⟩ := (HS.out.below hB.out).get hlt
      have HFU : Hid (hasP l t k = (decide (f ≤ t) && decide (t < u))) := by
        show _ = _
        have e1 : frP l k = f := by unfold frP; rw [Int.toNat_natCast, hx.out]
        have e2 : unP l k = u := by unfold unP; rw [Int.toNat_natCast, hx.out]
        unfold hasP
        rw [e1, e2]
      have HLk : Hid ((onK l t k).length ≤ k) := onK_length l t k
      have i1 : (0 : Int) ≤ (k : Int) := by omega
      have i2 : (k : Int) < (n : Int) := by omega
      have hsz := hB.out.size
      clear hx
      have hal : Below wr.heap.size wr (wr.alloc (.cells #[.int .i64 f, .int .i64 u] 36)) := by (repeat' (first | (with_reducible exact Below.refl _ _) | (with_reducible assumption) | (with_reducible exact Bw.out (by with_reducible assumption)) | (with_reducible refine bw_alloc ?_ _) | (with_reducible refine bw_step ?_ (by with_reducible assumption)) | (with_reducible refine Below.alloc ?_ ?_ _) | (with_reducible refine Below.drew ?_) | (with_reducible refine below_drewN ?_ _) | (with_reducible refine Below.setCell ?_ ?_ _) | (with_reducible refine below_step ?_ (by with_reducible assumption) ?_) | (with_reducible exact Nat.le_refl _) | omega | (simp; omega) | (simp; done)))
      have HO3 := Lib.hid (hO.out.step hal)
      have hB3 : Hid (Below w.heap.size w (wr.alloc (.cells #[.int .i64 f, .int .i64 u] 36))) := hB.out.trans (hal.mono hsz)
      by_cases h1 : f ≤ t
      · by_cases h2 : t < u
        · have HT : Hid (onK l t (k + 1) = onK l t k ++ [(k : Int)]) := by
            show _ = _
            rw [onK_succ, HFU.out]
            simp [h1, h2]
          go_upto_region 6 with fail
          obtain ⟨w3, hw3⟩ : ∃ W, wr.alloc (.cells #[.int .i64 f, .int .i64 u] 36) = W := ⟨_, rfl⟩
          rw [hw3] at HO3 hB3
          try rw [hw3]
          clear hal hw3 c0 c1 hO hB
          go_upto_region 7 with (at_builtin; refine wpList_append_int rfl _ _ _ rfl Try.underlying24 w.heap.size _ (onK l t k) rfl (HO3.out.alloc _) w3.heap.size 1 (k : Int) rfl ((Row.new' w3 [_] _ rfl).cell 0 rfl) (by have := HLk.out; omega) (by have := hB3.out.size; simp; omega) ?_; intro v' w5 hown1 hbl1 hsz1)
          have H7 := Lib.hid (hbl1 w ((hB3.out).alloc (by have := hB3.out.size; omega) _))
          rw [← HT.out] at hown1
          have H1 := Lib.hid hown1
          clear hown1 hbl1
          go_wp2_with fail
          go_roundw
          case rel => exact ⟨k + 1, v', by omega, by go_num, rfl, H1.out, H7.out⟩
          case measure => simp [intOf]; omega
        · have HO2 : Hid (OwnV (wr.alloc (.cells #[.int .i64 f, .int .i64 u] 36)) w.heap.size v (onK l t (k + 1))) := by
            show OwnV _ _ _ _
            rw [onK_succ, HFU.out, if_neg (by simp [h2])]; exact HO3.out
          go_wp2_with fail
          go_roundw
          case rel => exact ⟨k + 1, v, by omega, by go_num, rfl, HO2.out, (hB3.out : Below _ _ _)⟩
          case measure => simp [intOf]; omega
      · have HO2 : Hid (OwnV (wr.alloc (.cells #[.int .i64 f, .int .i64 u] 36)) w.heap.size v (onK l t (k + 1))) := by
          show OwnV _ _ _ _
          rw [onK_succ, HFU.out, if_neg (by simp [h1])]; exact HO3.out
        go_wp2_with fail
        go_roundw
        case rel => exact ⟨k + 1, v, by omega, by go_num, rfl, HO2.out, (hB3.out : Below _ _ _)⟩
        case measure => simp [intOf]; omega
    · obtain rfl : n = k := by omega
      have HV : Hid (OwnV wr w.heap.size v (onL l t)) := by
        show OwnV _ _ _ _
        unfold onL
        rw [HL.out]; exact hO.out
      go_wp2_with fail
      go_ret
      exact ⟨_, rfl, HV.out, hB.out⟩

end Go.Proofs.Ytbafhmlmibjgpaa
