/-
 The walks of package stays: byID.
-/
import Derived.Test.YtlmajlfhjbhdpaaGreatZR
namespace Go.Proofs.YtlmajlfhjbhdpaaGreat
set_option linter.unusedSimpArgs false
set_option linter.unusedVariables false
open Go.RowKit Go.Shelf
def StayV.val (s : StayV) : Value := .agg #[.int .i64 s.id, .int .i64 s.kd, .int .i64 s.fr, .int .i64 s.un, .int .i64 s.ps, .int .i64 s.rm, .int .i64 s.wt, .bool s.ac, .bool s.inn]
/-- 'm[k] = v' as a step of a region that draws. -/
theorem step_update_imap {P : Program} {w : World} {ops : Array Oper} {o : Oper} {a : Act} {Q : Exit → Act → World → Prop} {K : Act → World → Prop} {X : Prop}
  (hg : o.guard = none) (m x v : Operand) (T : TypeId) (hop : o.op = Op.mapUpdate T m x v) (KT E : TypeId)
  (hT : P.underlying T = some (.map KT E)) (hK : P.underlying KT = some (.int .i64)) (r : Nat) (f : List (Int × Value)) (hm : a.eval m = .map (some r)) (h : IMap w r f)
  (k : Int) (val : Value) (hx : a.eval x = .int .i64 k) (hv : a.eval v = val)
  (hK' : ∀ w', IMap w' r (upd f k val) → w.grownBy w' (some r) → K (a.put o.dst undef) w') : if Region.wanted o (yielded ops a.tmps) = true then Oper.wp P o a w K Q else X := by
 have hw : Region.wanted o (yielded ops a.tmps) = true := by simp [Region.wanted, hg]
 rw [if_pos hw]
 obtain ⟨w', hrun, r1, r2⟩ := run_update_imap hT hK h k val
 unfold Oper.wp
 simp [execOp, hop, hm, hx, hv, hrun, Result.andThen]
 exact hK' w' r1 r2
theorem idT_p (s : StayV) (w : World) : Calls Tryz.prog 23 #[.agg #[.int .i64 s.id, .int .i64 s.kd, .int .i64 s.fr, .int .i64 s.un, .int .i64 s.ps, .int .i64 s.rm, .int .i64 s.wt, .bool s.ac, .bool s.inn]] w fun e w' => e = .returned (.int .i64 s.id) ∧ Below w.heap.size w w' := by
 go_enter Tryz.func23, Tryz.ntmps23
 go_wp2_with fail
 go_ret
 exact ⟨rfl, by (repeat' (first | (with_reducible first | exact Below.refl _ _ | assumption | exact Bw.out (by assumption) | refine bw_alloc ?_ _ | refine bw_step ?_ (by assumption) | refine Below.alloc ?_ ?_ _ | refine Below.drew ?_ | refine below_drewN ?_ _ | refine Below.setCell ?_ ?_ _ | refine below_step ?_ (by assumption) ?_ | exact Nat.le_refl _) | omega | (simp; omega) | (simp; done)))⟩
theorem idM_p (s : RoomV) (w : World) : Calls Tryz.prog 21 #[.agg #[.int .i64 s.id, .int .i64 s.ho, .int .i64 s.kd, .int .i64 s.jn, .bool s.ac, .slice s.ba s.bl.length s.bc]] w fun e w' => e = .returned (.int .i64 s.id) ∧ Below w.heap.size w w' := by
 go_enter Tryz.func21, Tryz.ntmps21
 go_wp2_with fail
 go_ret
 exact ⟨rfl, by (repeat' (first | (with_reducible first | exact Below.refl _ _ | assumption | exact Bw.out (by assumption) | refine bw_alloc ?_ _ | refine bw_step ?_ (by assumption) | refine Below.alloc ?_ ?_ _ | refine Below.drew ?_ | refine below_drewN ?_ _ | refine Below.setCell ?_ ?_ _ | refine below_step ?_ (by assumption) ?_ | exact Nat.le_refl _) | omega | (simp; omega) | (simp; done)))⟩
set_option maxRecDepth 100000 in
set_option maxHeartbeats 3200000 in
theorem byT_any (a : Option Addr) (n cap : Nat) (l : List StayV) (w : World) (hm : n ≤ 9223372036854775807) (hs : SlG stE w a n l) :
  Calls Tryz.prog 22 #[.slice a n cap, .func (.func 23) #[] #[]] w fun e w' => ∃ B, e = .returned (.map (some B)) ∧ IMap w' B (mapOf StayV.id StayV.val l) ∧ w.heap.size ≤ B ∧ Below w.heap.size w w' := by
 have HS := Lib.hid hs
 have HL := Lib.hid hs.1
 clear hs
 have hmk : ∀ (x : Int) (W : World), (Instr.makeMap 60 (some (.int .i64 x))).run Tryz.prog W = .ok (.map (some W.heap.size)) (W.alloc (.map #[] 0)) := fun x W => by simp [Instr.makeMap, run_underlying Tryz.underlying60, asInt, asIntOf]
 have hi0 := imap_made w
 have HB0 : Below w.heap.size w (w.alloc (.map #[] 0)) := by (repeat' (first | (with_reducible first | exact Below.refl _ _ | assumption | exact Bw.out (by assumption) | refine bw_alloc ?_ _ | refine bw_step ?_ (by assumption) | refine Below.alloc ?_ ?_ _ | refine Below.drew ?_ | refine below_drewN ?_ _ | refine Below.setCell ?_ ?_ _ | refine below_step ?_ (by assumption) ?_ | exact Nat.le_refl _) | omega | (simp; omega) | (simp; done)))
 have hs0 : (w.alloc (.map #[] 0)).heap.size = w.heap.size + 1 := by simp
 go_enter Tryz.func22, Tryz.ntmps22
 go_wp2_with fail
 go_loopw [7, 13, 16] (fun _ i _ wr => ∃ k : Nat, k ≤ n ∧ i = .int .i64 k ∧ Hid (IMap wr w.heap.size (mapOf StayV.id StayV.val (l.take k))) ∧ Hid (Below w.heap.size w wr) ∧ Hid (w.heap.size < wr.heap.size)) (fun _ i _ _ => n - (intOf i).toNat)
 case atStart => exact ⟨0, Nat.zero_le _, rfl, by rw [List.take_zero]; exact hi0, HB0, by show _ < _; omega⟩
 case round =>
  obtain ⟨k, hk, rfl, hM, hB, hsz⟩ := hrel
  have hsz' := hsz.out
  by_cases hkn : k < n
  ·
   have hsr := HS.out.step hB.out
   obtain ⟨s, b, off, hx, rfl, hlb, x0, x1, x2, x3, x4, x5, x6, x7, x8⟩ := slT_get hsr hkn
   have HMT := Lib.hid (mapOf_take (key := StayV.id) (val := StayV.val) hx.out)
   clear hsr
   have i1 : (0 : Int) ≤ (k : Int) := by omega
   have i2 : (k : Int) < (n : Int) := by omega
   go_upto_region 5 with fail
   obtain ⟨w1, hw1⟩ : ∃ w1, wr.alloc (.cells #[.int .i64 s.id, .int .i64 s.kd, .int .i64 s.fr, .int .i64 s.un, .int .i64 s.ps, .int .i64 s.rm, .int .i64 s.wt, .bool s.ac, .bool s.inn] 37) = w1 := ⟨_, rfl⟩
   obtain ⟨bx, hbx⟩ : ∃ bx, wr.heap.size = bx := ⟨_, rfl⟩
   have hal : Below wr.heap.size wr w1 := by rw [← hw1]; exact (Below.refl _ _).alloc (Nat.le_refl _) _
   have R : Row w1 bx [.int .i64 s.id, .int .i64 s.kd, .int .i64 s.fr, .int .i64 s.un, .int .i64 s.ps, .int .i64 s.rm, .int .i64 s.wt, .bool s.ac, .bool s.inn] := by rw [← hw1, ← hbx]; exact Row.new' _ _ _ rfl
   have HM1 := Lib.hid (hM.out.below hal)
   have HB1 : Hid (Below w.heap.size w w1) := hB.out.trans (hal.mono hB.out.size)
   have hs1 := hal.size
   rw [hw1, hbx]
   clear hw1 hbx hal x0 x1 x2 x3 x4 x5
   refine AnyJ.beginP (fun w' : World => w'.cell? ⟨bx, 0, none⟩ = some (.int .i64 s.id) ∧ w'.cell? ⟨bx, 1, none⟩ = some (.int .i64 s.kd) ∧ w'.cell? ⟨bx, 2, none⟩ = some (.int .i64 s.fr) ∧ w'.cell? ⟨bx, 3, none⟩ = some (.int .i64 s.un) ∧ w'.cell? ⟨bx, 4, none⟩ = some (.int .i64 s.ps) ∧ w'.cell? ⟨bx, 5, none⟩ = some (.int .i64 s.rm) ∧ w'.cell? ⟨bx, 6, none⟩ = some (.int .i64 s.wt) ∧ w'.cell? ⟨bx, 7, none⟩ = some (.bool s.ac) ∧ w'.cell? ⟨bx, 8, none⟩ = some (.bool s.inn)) (fun j => decide (j ≤ 4)) (by kernel_rfl) ⟨R.cell 0 rfl, R.cell 1 rfl, R.cell 2 rfl, R.cell 3 rfl, R.cell 4 rfl, R.cell 5 rfl, R.cell 6 rfl, R.cell 7 rfl, R.cell 8 rfl⟩ (fun hS => ?_)
   refine AnyJ.takeD (i := 0) (d := some 17) (v := ?_) rfl (by kernel_rfl) (by kernel_rfl) (by kernel_rfl) (by kernel_rfl) (by kernel_rfl) (fun _ _ _ h => h) (Or.inl ⟨by kernel_rfl, ?_⟩) hS ?_
   rotate_left
   ·
    intro w' hS
    obtain ⟨f0, f1, f2, f3, f4, f5, f6, f7, f8⟩ := hS
    go_simp
    try with_reducible rfl
   refine AnyJ.takeD (i := 1) (d := some 18) (v := ?_) rfl (by kernel_rfl) (by kernel_rfl) (by kernel_rfl) (by kernel_rfl) (by kernel_rfl) (fun _ _ _ h => h) (Or.inl ⟨by kernel_rfl, ?_⟩) hS ?_
   rotate_left
   ·
    intro w' hS
    obtain ⟨f0, f1, f2, f3, f4, f5, f6, f7, f8⟩ := hS
    go_simp
    try with_reducible rfl
   refine AnyJ.takeD (i := 2) (d := some 19) (v := ?_) rfl (by kernel_rfl) (by kernel_rfl) (by kernel_rfl) (by kernel_rfl) (by kernel_rfl) (fun _ _ _ h => h) (Or.inl ⟨by kernel_rfl, ?_⟩) hS ?_
   rotate_left
   ·
    intro w' hS
    obtain ⟨f0, f1, f2, f3, f4, f5, f6, f7, f8⟩ := hS
    go_simp
    try with_reducible rfl
   refine AnyJ.takeD (i := 4) (d := some 21) (v := ?_) rfl (by kernel_rfl) (by kernel_rfl) (by kernel_rfl) (by kernel_rfl) (by kernel_rfl) (fun _ _ _ h => h) (Or.inl ⟨by kernel_rfl, ?_⟩) hS ?_
   rotate_left
   ·
    intro w' hS
    obtain ⟨f0, f1, f2, f3, f4, f5, f6, f7, f8⟩ := hS
    go_simp
    try with_reducible rfl
   clear hS
   refine AnyJ.one (i := 3) (by kernel_rfl) rfl (fun Kz hKz => ?_)
   go_simp
   refine (idT_p s _).mono ?_
   rintro e w2 ⟨rfl, hb2⟩
   have hb2' : Below w1.heap.size w1 w2 := ((Below.refl _ w1).drew).trans hb2
   have R2 := R.step hb2'
   have HM2 := Lib.hid (HM1.out.below hb2')
   have HB2 : Hid (Below w.heap.size w w2) := HB1.out.trans (hb2'.mono HB1.out.size)
   have hs2 := hb2'.size
   clear hb2 hb2' R HM1 HB1
   have R := R2
   refine hKz _ _ (fun _ => ⟨R.cell 0 rfl, R.cell 1 rfl, R.cell 2 rfl, R.cell 3 rfl, R.cell 4 rfl, R.cell 5 rfl, R.cell 6 rfl, R.cell 7 rfl, R.cell 8 rfl⟩) ?_
   clear hKz Kz
   refine AnyJ.one (i := 5) (by kernel_rfl) rfl (fun Kz hKz => ?_)
   refine step_update_imap rfl (.tmp 17) (.tmp 20) (.tmp 21) 60 rfl 3 37 Tryz.underlying60 Tryz.underlying3 w.heap.size _ (by simp [Act.eval, Act.put]) HM2.out s.id s.val (by simp [Act.eval, Act.put]) (by simp [Act.eval, Act.put]; rfl) ?_
   intro w5 hm5 hg5
   have hm6 : IMap w5 w.heap.size (mapOf StayV.id StayV.val (l.take (k + 1))) := by rw [HMT.out]; exact hm5
   have HB6 := Lib.hid (HB2.out.grown hg5 HB2.out.size (fun k e => by cases e; exact Nat.le_refl _))
   have hs6 := hg5.size
   have HM6 := Lib.hid hm6
   refine hKz _ _ (fun h => by simp at h) ?_
   clear hKz Kz hm5 hg5 hm6
   refine AnyJ.done (by kernel_rfl) ?_ _
   try simp only [Act.put, List.setIfInBounds_toArray, List.set_cons_zero, List.set_cons_succ]
   go_wp2_with fail
   go_roundw
   case rel => exact ⟨k + 1, by omega, by go_num, HM6, HB6, by show _ < _; omega⟩
   case measure => simp [intOf]; omega
  ·
   obtain rfl : k = n := by omega
   have hMA := hM.out
   rw [List.take_of_length_le (by rw [HL.out]; omega)] at hMA
   have HMA := Lib.hid hMA
   clear hMA
   go_wp2_with fail
   go_ret
   exact ⟨_, rfl, HMA.out, Nat.le_refl _, hB.out⟩
set_option maxRecDepth 100000 in
set_option maxHeartbeats 3200000 in
theorem byM_any (a : Option Addr) (n cap : Nat) (l : List RoomV) (w : World) (hm : n ≤ 9223372036854775807) (hs : SlM w a n l) :
  Calls Tryz.prog 20 #[.slice a n cap, .func (.func 21) #[] #[]] w fun e w' => ∃ B, e = .returned (.map (some B)) ∧ IMap w' B (mapOf RoomV.id RoomV.val l) ∧ w.heap.size ≤ B ∧ Below w.heap.size w w' := by
 have HS := Lib.hid hs
 have HL := Lib.hid hs.1.1
 clear hs
 have hmk : ∀ (x : Int) (W : World), (Instr.makeMap 57 (some (.int .i64 x))).run Tryz.prog W = .ok (.map (some W.heap.size)) (W.alloc (.map #[] 0)) := fun x W => by simp [Instr.makeMap, run_underlying Tryz.underlying57, asInt, asIntOf]
 have hi0 := imap_made w
 have HB0 : Below w.heap.size w (w.alloc (.map #[] 0)) := by (repeat' (first | (with_reducible first | exact Below.refl _ _ | assumption | exact Bw.out (by assumption) | refine bw_alloc ?_ _ | refine bw_step ?_ (by assumption) | refine Below.alloc ?_ ?_ _ | refine Below.drew ?_ | refine below_drewN ?_ _ | refine Below.setCell ?_ ?_ _ | refine below_step ?_ (by assumption) ?_ | exact Nat.le_refl _) | omega | (simp; omega) | (simp; done)))
 have hs0 : (w.alloc (.map #[] 0)).heap.size = w.heap.size + 1 := by simp
 go_enter Tryz.func20, Tryz.ntmps20
 go_wp2_with fail
 go_loopw [7, 13, 16] (fun _ i _ wr => ∃ k : Nat, k ≤ n ∧ i = .int .i64 k ∧ Hid (IMap wr w.heap.size (mapOf RoomV.id RoomV.val (l.take k))) ∧ Hid (Below w.heap.size w wr) ∧ Hid (w.heap.size < wr.heap.size)) (fun _ i _ _ => n - (intOf i).toNat)
 case atStart => exact ⟨0, Nat.zero_le _, rfl, by rw [List.take_zero]; exact hi0, HB0, by show _ < _; omega⟩
 case round =>
  obtain ⟨k, hk, rfl, hM, hB, hsz⟩ := hrel
  have hsz' := hsz.out
  by_cases hkn : k < n
  ·
   have hsr := HS.out.step hB.out
   obtain ⟨s, b, off, hx, _, rfl, hlb, x0, x1, x2, x3, x4, x5⟩ := slM_get hsr hkn
   have HMT := Lib.hid (mapOf_take (key := RoomV.id) (val := RoomV.val) hx.out)
   clear hsr
   have i1 : (0 : Int) ≤ (k : Int) := by omega
   have i2 : (k : Int) < (n : Int) := by omega
   go_upto_region 5 with fail
   obtain ⟨w1, hw1⟩ : ∃ w1, wr.alloc (.cells #[.int .i64 s.id, .int .i64 s.ho, .int .i64 s.kd, .int .i64 s.jn, .bool s.ac, .slice s.ba s.bl.length s.bc] 42) = w1 := ⟨_, rfl⟩
   obtain ⟨bx, hbx⟩ : ∃ bx, wr.heap.size = bx := ⟨_, rfl⟩
   have hal : Below wr.heap.size wr w1 := by rw [← hw1]; exact (Below.refl _ _).alloc (Nat.le_refl _) _
   have R : Row w1 bx [.int .i64 s.id, .int .i64 s.ho, .int .i64 s.kd, .int .i64 s.jn, .bool s.ac, .slice s.ba s.bl.length s.bc] := by rw [← hw1, ← hbx]; exact Row.new' _ _ _ rfl
   have HM1 := Lib.hid (hM.out.below hal)
   have HB1 : Hid (Below w.heap.size w w1) := hB.out.trans (hal.mono hB.out.size)
   have hs1 := hal.size
   rw [hw1, hbx]
   clear hw1 hbx hal x0 x1 x2 x3 x4 x5
   refine AnyJ.beginP (fun w' : World => w'.cell? ⟨bx, 0, none⟩ = some (.int .i64 s.id) ∧ w'.cell? ⟨bx, 1, none⟩ = some (.int .i64 s.ho) ∧ w'.cell? ⟨bx, 2, none⟩ = some (.int .i64 s.kd) ∧ w'.cell? ⟨bx, 3, none⟩ = some (.int .i64 s.jn) ∧ w'.cell? ⟨bx, 4, none⟩ = some (.bool s.ac) ∧ w'.cell? ⟨bx, 5, none⟩ = some (.slice s.ba s.bl.length s.bc)) (fun j => decide (j ≤ 4)) (by kernel_rfl) ⟨R.cell 0 rfl, R.cell 1 rfl, R.cell 2 rfl, R.cell 3 rfl, R.cell 4 rfl, R.cell 5 rfl⟩ (fun hS => ?_)
   refine AnyJ.takeD (i := 0) (d := some 17) (v := ?_) rfl (by kernel_rfl) (by kernel_rfl) (by kernel_rfl) (by kernel_rfl) (by kernel_rfl) (fun _ _ _ h => h) (Or.inl ⟨by kernel_rfl, ?_⟩) hS ?_
   rotate_left
   ·
    intro w' hS
    obtain ⟨f0, f1, f2, f3, f4, f5⟩ := hS
    go_simp
    try with_reducible rfl
   refine AnyJ.takeD (i := 1) (d := some 18) (v := ?_) rfl (by kernel_rfl) (by kernel_rfl) (by kernel_rfl) (by kernel_rfl) (by kernel_rfl) (fun _ _ _ h => h) (Or.inl ⟨by kernel_rfl, ?_⟩) hS ?_
   rotate_left
   ·
    intro w' hS
    obtain ⟨f0, f1, f2, f3, f4, f5⟩ := hS
    go_simp
    try with_reducible rfl
   refine AnyJ.takeD (i := 2) (d := some 19) (v := ?_) rfl (by kernel_rfl) (by kernel_rfl) (by kernel_rfl) (by kernel_rfl) (by kernel_rfl) (fun _ _ _ h => h) (Or.inl ⟨by kernel_rfl, ?_⟩) hS ?_
   rotate_left
   ·
    intro w' hS
    obtain ⟨f0, f1, f2, f3, f4, f5⟩ := hS
    go_simp
    try with_reducible rfl
   refine AnyJ.takeD (i := 4) (d := some 21) (v := ?_) rfl (by kernel_rfl) (by kernel_rfl) (by kernel_rfl) (by kernel_rfl) (by kernel_rfl) (fun _ _ _ h => h) (Or.inl ⟨by kernel_rfl, ?_⟩) hS ?_
   rotate_left
   ·
    intro w' hS
    obtain ⟨f0, f1, f2, f3, f4, f5⟩ := hS
    go_simp
    try with_reducible rfl
   clear hS
   refine AnyJ.one (i := 3) (by kernel_rfl) rfl (fun Kz hKz => ?_)
   go_simp
   refine (idM_p s _).mono ?_
   rintro e w2 ⟨rfl, hb2⟩
   have hb2' : Below w1.heap.size w1 w2 := ((Below.refl _ w1).drew).trans hb2
   have R2 := R.step hb2'
   have HM2 := Lib.hid (HM1.out.below hb2')
   have HB2 : Hid (Below w.heap.size w w2) := HB1.out.trans (hb2'.mono HB1.out.size)
   have hs2 := hb2'.size
   clear hb2 hb2' R HM1 HB1
   have R := R2
   refine hKz _ _ (fun _ => ⟨R.cell 0 rfl, R.cell 1 rfl, R.cell 2 rfl, R.cell 3 rfl, R.cell 4 rfl, R.cell 5 rfl⟩) ?_
   clear hKz Kz
   refine AnyJ.one (i := 5) (by kernel_rfl) rfl (fun Kz hKz => ?_)
   refine step_update_imap rfl (.tmp 17) (.tmp 20) (.tmp 21) 57 rfl 3 42 Tryz.underlying57 Tryz.underlying3 w.heap.size _ (by simp [Act.eval, Act.put]) HM2.out s.id s.val (by simp [Act.eval, Act.put]) (by simp [Act.eval, Act.put]; rfl) ?_
   intro w5 hm5 hg5
   have hm6 : IMap w5 w.heap.size (mapOf RoomV.id RoomV.val (l.take (k + 1))) := by rw [HMT.out]; exact hm5
   have HB6 := Lib.hid (HB2.out.grown hg5 HB2.out.size (fun k e => by cases e; exact Nat.le_refl _))
   have hs6 := hg5.size
   have HM6 := Lib.hid hm6
   refine hKz _ _ (fun h => by simp at h) ?_
   clear hKz Kz hm5 hg5 hm6
   refine AnyJ.done (by kernel_rfl) ?_ _
   try simp only [Act.put, List.setIfInBounds_toArray, List.set_cons_zero, List.set_cons_succ]
   go_wp2_with fail
   go_roundw
   case rel => exact ⟨k + 1, by omega, by go_num, HM6, HB6, by show _ < _; omega⟩
   case measure => simp [intOf]; omega
  ·
   obtain rfl : k = n := by omega
   have hMA := hM.out
   rw [List.take_of_length_le (by rw [HL.out]; omega)] at hMA
   have HMA := Lib.hid hMA
   clear hMA
   go_wp2_with fail
   go_ret
   exact ⟨_, rfl, HMA.out, Nat.le_refl _, hB.out⟩
end Go.Proofs.YtlmajlfhjbhdpaaGreat
