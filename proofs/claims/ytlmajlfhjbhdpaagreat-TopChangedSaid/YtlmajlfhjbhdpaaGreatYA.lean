/-
 slices.Collect, slices.SortFunc, slices.SortedFunc at rooms, by their numbers.
-/
import Derived.Test.YtlmajlfhjbhdpaaGreatZY
import Derived.Shelf.SlSortCmp.NoneTotal
namespace Go.Proofs.YtlmajlfhjbhdpaaGreat
set_option linter.unusedSimpArgs false
set_option linter.unusedVariables false
open Go.RowKit Go.Shelf
instance : Inhabited RoomV := ⟨zroom⟩
def cfM (x y : RoomV) : Int := Lib.compareInt x.id y.id
def srtM (l : List RoomV) : List RoomV := srtG cfM l
theorem srtM_perm (l : List RoomV) : (srtM l).Perm l := srtG_perm (swo_key RoomV.id) l
/-- By rising numbers. -/
def RiseM (l : List RoomV) : Prop := l.Pairwise (fun a b => a.id ≤ b.id)
theorem srtM_rise (l : List RoomV) : RiseM (srtM l) := by
 have h := (Go.Sort.pdq_sorts (ltOf cfM) (swo_key RoomV.id) l.toArray 0 l.length (Lib.bitLen l.length) true true (Nat.zero_le _) (by simp) (Or.inl rfl)).2
 have hlen : (srtM l).length = l.length := (srtM_perm l).length_eq
 unfold RiseM
 rw [List.pairwise_iff_getElem]
 intro i j hi hj hij
 have h1 := h i j (Nat.zero_le _) hij (by omega)
 have hi' : i < (Go.Sort.pdq (ltOf cfM) l.toArray 0 l.length (Lib.bitLen l.length) true true).size := by simpa [srtM, srtG] using hi
 have hj' : j < (Go.Sort.pdq (ltOf cfM) l.toArray 0 l.length (Lib.bitLen l.length) true true).size := by simpa [srtM, srtG] using hj
 rw [getElem!_pos _ i hi', getElem!_pos _ j hj'] at h1
 unfold ltOf cfM at h1
 rw [lt_cmp, decide_eq_false_iff_not] at h1
 have e1 : (srtM l)[i] = (Go.Sort.pdq (ltOf cfM) l.toArray 0 l.length (Lib.bitLen l.length) true true)[i] := by simp [srtM, srtG]
 have e2 : (srtM l)[j] = (Go.Sort.pdq (ltOf cfM) l.toArray 0 l.length (Lib.bitLen l.length) true true)[j] := by simp [srtM, srtG]
 have f1 := congrArg RoomV.id e1
 have f2 := congrArg RoomV.id e2
 exact Int.le_trans (Int.le_of_eq f1) (Int.le_trans (Int.not_lt.1 h1) (Int.le_of_eq f2.symm))
set_option maxHeartbeats 1600000 in
theorem cmpMa_grows (x y : RoomV) (W : World) : Calls Tryz.prog 67 #[.agg #[.int .i64 x.id, .int .i64 x.ho, .int .i64 x.kd, .int .i64 x.jn, .bool x.ac, .slice x.ba x.bl.length x.bc], .agg #[.int .i64 y.id, .int .i64 y.ho, .int .i64 y.kd, .int .i64 y.jn, .bool y.ac, .slice y.ba y.bl.length y.bc]] W fun e w' => e = .returned (.int .i64 (cfM x y)) ∧ ∃ q os', w' = Go.Sort.grow (W.drewN q) os' := by
 have hcon := fun W' => AnyG.cmp_Compare_int lay_cmpI x.id y.id W'
 change ∀ W', Calls Tryz.prog 68 _ _ _ at hcon
 unfold cfM
 generalize Lib.compareInt x.id y.id = r at hcon ⊢
 go_enter Tryz.func67, Tryz.ntmps67
 go_wp2_with (go_at_call 68; refine (hcon _).mono ?_; rintro e w' ⟨rfl, rfl⟩)
 go_ret
 exact ⟨rfl, 0, _, by rw [Go.Sort.alloc_eq_grow, Go.Sort.alloc_eq_grow, Go.Sort.grow_grow]; rfl⟩
set_option maxHeartbeats 1600000 in
theorem cmpMb_grows (x y : RoomV) (W : World) : Calls Tryz.prog 122 #[.agg #[.int .i64 x.id, .int .i64 x.ho, .int .i64 x.kd, .int .i64 x.jn, .bool x.ac, .slice x.ba x.bl.length x.bc], .agg #[.int .i64 y.id, .int .i64 y.ho, .int .i64 y.kd, .int .i64 y.jn, .bool y.ac, .slice y.ba y.bl.length y.bc]] W fun e w' => e = .returned (.int .i64 (cfM x y)) ∧ ∃ q os', w' = Go.Sort.grow (W.drewN q) os' := by
 have hcon := fun W' => AnyG.cmp_Compare_int lay_cmpI x.id y.id W'
 change ∀ W', Calls Tryz.prog 68 _ _ _ at hcon
 unfold cfM
 generalize Lib.compareInt x.id y.id = r at hcon ⊢
 go_enter Tryz.func122, Tryz.ntmps122
 go_wp2_with (go_at_call 68; refine (hcon _).mono ?_; rintro e w' ⟨rfl, rfl⟩)
 go_ret
 exact ⟨rfl, 0, _, by rw [Go.Sort.alloc_eq_grow, Go.Sort.alloc_eq_grow, Go.Sort.grow_grow]; rfl⟩
/-- A comparing function of two rooms by their numbers. -/
def CmpM (g : Nat) : Prop := (∀ args w, (callFunc g args).run Tryz.prog w = .ok (.enter g args) w) ∧ ∀ (x y : RoomV) (W : World), Calls Tryz.prog g #[.agg #[.int .i64 x.id, .int .i64 x.ho, .int .i64 x.kd, .int .i64 x.jn, .bool x.ac, .slice x.ba x.bl.length x.bc], .agg #[.int .i64 y.id, .int .i64 y.ho, .int .i64 y.kd, .int .i64 y.jn, .bool y.ac, .slice y.ba y.bl.length y.bc]] W fun e w' => e = .returned (.int .i64 (cfM x y)) ∧ ∃ q os', w' = Go.Sort.grow (W.drewN q) os'
theorem cmpM_a : CmpM 67 := ⟨enters_of Tryz.func67 (by kernel_rfl) rfl, cmpMa_grows⟩
theorem cmpM_b : CmpM 122 := ⟨enters_of Tryz.func122 (by kernel_rfl) rfl, cmpMb_grows⟩
theorem sortM_any (gf : Nat) (hgf : CmpM gf) (base : Nat) (ad : Option Addr) (n cap : Nat) (l : List RoomV) (w : World) (h : OwnG rmE 42 w base (.slice ad n cap) l) (hn : n < 4611686018427387904) :
  Calls Tryz.prog 78 #[.slice ad n cap, .func (.func gf) #[] #[]] w fun e w' => e = .returned (.tuple #[]) ∧ OwnG rmE 42 w' base (.slice ad n cap) (srtM l) ∧ Ch (fun k => (Value.slice ad n cap).ownBlock = some k) w w' := by
 have hsz := h.sizes
 obtain ⟨hl, _⟩ := hsz
 by_cases h0 : 0 < n
 ·
  obtain ⟨g, rfl, hgb, hgl⟩ := h.ad h0
  subst hl
  have hcon := AnyQ.slices_SortFunc_eq lay_sortM 6 Tryz.isAgg42 Tryz.sizeOf42 rmE.c rmE.len rmE.one cfM (swo_key RoomV.id) gf #[] g 0 cap l.toArray w hgf.1 (fun _ _ _ _ x y => hgf.2 x y _) (h.holds h0) hgl (by simpa using hn)
  change Calls Tryz.prog 78 _ _ _ at hcon
  refine hcon.mono ?_
  rintro e w' ⟨rfl, m, os, rfl⟩
  have hs := own_sorted (l' := srtM l) (m := m) (os := os) h h0 (srtM_perm l).length_eq
  exact ⟨rfl, hs.1, hs.2.mono (fun k _ hk => by subst hk; rfl)⟩
 ·
  obtain rfl : n = 0 := by omega
  have hcon := AnyF.slices_SortFunc_none lay_sortM ad cap (.func (.func gf) #[] #[]) w
  change Calls Tryz.prog 78 _ _ _ at hcon
  refine hcon.mono ?_
  rintro e w' ⟨rfl, rfl⟩
  have : l = [] := List.eq_nil_of_length_eq_zero hl
  subst this
  exact ⟨rfl, by rw [List.eq_nil_of_length_eq_zero (srtM_perm []).length_eq]; exact h, Ch.refl _ _⟩
theorem valuesM_any (a : Option Addr) (n cap : Nat) (w : World) : Calls Tryz.prog 66 #[.slice a n cap] w fun e w' => e = .returned (.func (.func 79) #[] #[.pointer (some ⟨w.heap.size, 0, none⟩)]) ∧ Row w' w.heap.size [.slice a n cap] ∧ Below w.heap.size w w' := by
 go_enter Tryz.func66, Tryz.ntmps66
 go_wp2_with fail
 go_ret
 exact ⟨rfl, Row.new' _ _ _ rfl, by (repeat' (first | (with_reducible first | exact Below.refl _ _ | assumption | exact Bw.out (by assumption) | refine bw_alloc ?_ _ | refine bw_step ?_ (by assumption) | refine Below.alloc ?_ ?_ _ | refine Below.drew ?_ | refine below_drewN ?_ _ | refine Below.setCell ?_ ?_ _ | refine below_step ?_ (by assumption) ?_ | exact Nat.le_refl _) | omega | (simp; omega) | (simp; done)))⟩
theorem collectM_any (B1 : Nat) (a : Option Addr) (n cap : Nat) (l : List RoomV) (w : World) (hr : Row w B1 [.slice a n cap]) (hs : SlG rmE w a n l) (hn : n ≤ 1000) :
  Calls Tryz.prog 77 #[.func (.func 79) #[] #[.pointer (some ⟨B1, 0, none⟩)]] w fun e w' => ∃ ad cp, e = .returned (.slice ad n cp) ∧ OwnG rmE 42 w' w.heap.size (.slice ad n cp) l ∧ Below w.heap.size w w' := by
 have hc := appendSeq_any B1 a n cap l w hr hs hn
 clear hr hs
 go_enter Tryz.func77, Tryz.ntmps77
 go_wp2_with fail
 refine hc.mono ?_
 rintro e w1 ⟨ad, cp, rfl, ho, hb⟩
 have HO := Lib.hid ho
 clear hc ho
 go_wp2_with fail
 go_ret
 exact ⟨ad, cp, rfl, HO.out, hb⟩
theorem sortedM_any (gf : Nat) (hgf : CmpM gf) (B1 : Nat) (a : Option Addr) (n cap : Nat) (l : List RoomV) (w : World) (hr : Row w B1 [.slice a n cap]) (hs : SlG rmE w a n l) (hn : n ≤ 1000) :
  Calls Tryz.prog 65 #[.func (.func 79) #[] #[.pointer (some ⟨B1, 0, none⟩)], .func (.func gf) #[] #[]] w fun e w' => ∃ ad cp, e = .returned (.slice ad n cp) ∧ OwnG rmE 42 w' w.heap.size (.slice ad n cp) (srtM l) ∧ Below w.heap.size w w' := by
 have hc := collectM_any B1 a n cap l w hr hs hn
 clear hr hs
 have HG := Lib.hid hgf
 clear hgf
 go_enter Tryz.func65, Tryz.ntmps65
 go_wp2_with fail
 refine hc.mono ?_
 rintro e w1 ⟨ad, cp, rfl, ho, hb⟩
 have HO := Lib.hid ho
 clear hc ho
 go_wp2_with fail
 refine (sortM_any gf HG.out w.heap.size ad n cp l w1 HO.out (by omega)).mono ?_
 rintro e w2 ⟨rfl, ho2, hc2⟩
 have HB2 := Lib.hid (hc2.below hb (fun g hg => (HO.out.lt hg).1) hb.size)
 have HO2 := Lib.hid ho2
 clear ho2 hc2 hb
 go_wp2_with fail
 go_ret
 exact ⟨ad, cp, rfl, HO2.out, HB2.out⟩
end Go.Proofs.YtlmajlfhjbhdpaaGreat
