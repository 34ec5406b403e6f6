/-
 Texts built as one: XCgA, XCgB, XCgC, XCgD, XCgE, XCgF.
-/
import Derived.Test.YtlmajlfhjbhdpaaGreatZD
import Derived.Test.YtlmajlfhjbhdpaaGreatHeldQ
import Derived.Deep.Cut
import Derived.Test.YtlmajlfhjbhdpaaGreatZV
import Derived.Test.YtlmajlfhjbhdpaaGreatZM
import Derived.Laws.IdiomCopy
import Derived.Laws.MakeOwn
import Derived.Test.YtlmajlfhjbhdpaaGreatWA
import Derived.BigQuiet
import Derived.BigRegion
import Derived.Deep.RegionLaw
namespace Go.Proofs.YtlmajlfhjbhdpaaGreat
section
set_option linter.unusedSimpArgs false
set_option linter.unusedVariables false
open Go.RowKit Go.Shelf
theorem numberT_any (s : StayV) (w : World) : Calls Tryz.prog 27 #[.agg #[.int .i64 s.id, .int .i64 s.kd, .int .i64 s.fr, .int .i64 s.un, .int .i64 s.ps, .int .i64 s.rm, .int .i64 s.wt, .bool s.ac, .bool s.inn]] w fun e w' => e = .returned (.int .i64 s.id) ∧ Below w.heap.size w w' := by
 go_enter Tryz.func27, Tryz.ntmps27
 go_wp2_with fail
 go_ret
 exact ⟨rfl, by (repeat' (first | (with_reducible first | exact Below.refl _ _ | assumption | exact Bw.out (by assumption) | refine bw_alloc ?_ _ | refine bw_step ?_ (by assumption) | refine Below.alloc ?_ ?_ _ | refine Below.drew ?_ | refine below_drewN ?_ _ | refine Below.setCell ?_ ?_ _ | refine below_step ?_ (by assumption) ?_ | exact Nat.le_refl _) | omega | (simp; omega) | (simp; done)))⟩
set_option maxRecDepth 100000 in
set_option maxHeartbeats 1600000 in
theorem findsT_any (s : StayV) (id : Int) (b1 b2 : Nat) (w : World) (h1 : Row w b1 [.func (.func 27) #[] #[]]) (h2 : Row w b2 [.int .i64 id]) :
  Calls Tryz.prog 49 #[.agg (stE.c s).toArray, .pointer (some ⟨b1, 0, none⟩), .pointer (some ⟨b2, 0, none⟩)] w fun e w' => e = .returned (.bool (decide (s.id = id))) ∧ Below w.heap.size w w' := by
 show Calls Tryz.prog _ #[.agg #[.int .i64 s.id, .int .i64 s.kd, .int .i64 s.fr, .int .i64 s.un, .int .i64 s.ps, .int .i64 s.rm, .int .i64 s.wt, .bool s.ac, .bool s.inn], _, _] _ _
 go_enter Tryz.func49, Tryz.ntmps49
 obtain ⟨bx, hbx⟩ : ∃ bx, w.heap.size = bx := ⟨_, rfl⟩
 obtain ⟨w1, hw1⟩ : ∃ w1, w.alloc (.cells #[.int .i64 s.id, .int .i64 s.kd, .int .i64 s.fr, .int .i64 s.un, .int .i64 s.ps, .int .i64 s.rm, .int .i64 s.wt, .bool s.ac, .bool s.inn] 37) = w1 := ⟨_, rfl⟩
 have hb1 : Below w.heap.size w w1 := by rw [← hw1]; (repeat' (first | (with_reducible first | exact Below.refl _ _ | assumption | exact Bw.out (by assumption) | refine bw_alloc ?_ _ | refine bw_step ?_ (by assumption) | refine Below.alloc ?_ ?_ _ | refine Below.drew ?_ | refine below_drewN ?_ _ | refine Below.setCell ?_ ?_ _ | refine below_step ?_ (by assumption) ?_ | exact Nat.le_refl _) | omega | (simp; omega) | (simp; done)))
 have r : Row w1 bx [.int .i64 s.id, .int .i64 s.kd, .int .i64 s.fr, .int .i64 s.un, .int .i64 s.ps, .int .i64 s.rm, .int .i64 s.wt, .bool s.ac, .bool s.inn] := by rw [← hw1, ← hbx]; exact Row.new' _ _ _ rfl
 have k1 := (h1.step hb1).cell 0 rfl
 have k2 := (h2.step hb1).cell 0 rfl
 have HB1 := Lib.hid hb1
 go_upto_region 1 with fail
 try rw [hw1]
 try rw [hbx]
 clear hw1 hb1 h1 h2
 refine AnyJ.beginP (fun w' : World => w'.cell? ⟨bx, 0, none⟩ = some (.int .i64 s.id) ∧ w'.cell? ⟨bx, 1, none⟩ = some (.int .i64 s.kd) ∧ w'.cell? ⟨bx, 2, none⟩ = some (.int .i64 s.fr) ∧ w'.cell? ⟨bx, 3, none⟩ = some (.int .i64 s.un) ∧ w'.cell? ⟨bx, 4, none⟩ = some (.int .i64 s.ps) ∧ w'.cell? ⟨bx, 5, none⟩ = some (.int .i64 s.rm) ∧ w'.cell? ⟨bx, 6, none⟩ = some (.int .i64 s.wt) ∧ w'.cell? ⟨bx, 7, none⟩ = some (.bool s.ac) ∧ w'.cell? ⟨bx, 8, none⟩ = some (.bool s.inn) ∧ w'.cell? ⟨b1, 0, none⟩ = some (.func (.func 27) #[] #[]) ∧ w'.cell? ⟨b2, 0, none⟩ = some (.int .i64 id)) (fun _ => true) (by kernel_rfl) ⟨r.cell 0 rfl, r.cell 1 rfl, r.cell 2 rfl, r.cell 3 rfl, r.cell 4 rfl, r.cell 5 rfl, r.cell 6 rfl, r.cell 7 rfl, r.cell 8 rfl, k1, k2⟩ (fun hS => ?_)
 refine AnyJ.takeD (i := 0) (d := some 5) (v := ?_) rfl (by kernel_rfl) (by kernel_rfl) (by kernel_rfl) (by kernel_rfl) (by kernel_rfl) (fun _ _ _ h => h) (Or.inl ⟨by kernel_rfl, ?_⟩) hS ?_
 rotate_left
 ·
  intro w' hS
  obtain ⟨f0, f1, f2, f3, f4, f5, f6, f7, f8, g1, g2⟩ := hS
  go_simp
  try with_reducible rfl
 refine AnyJ.takeD (i := 1) (d := some 6) (v := ?_) rfl (by kernel_rfl) (by kernel_rfl) (by kernel_rfl) (by kernel_rfl) (by kernel_rfl) (fun _ _ _ h => h) (Or.inl ⟨by kernel_rfl, ?_⟩) hS ?_
 rotate_left
 ·
  intro w' hS
  obtain ⟨f0, f1, f2, f3, f4, f5, f6, f7, f8, g1, g2⟩ := hS
  go_simp
  try with_reducible rfl
 refine AnyJ.takeD (i := 3) (d := some 8) (v := ?_) rfl (by kernel_rfl) (by kernel_rfl) (by kernel_rfl) (by kernel_rfl) (by kernel_rfl) (fun _ _ _ h => h) (Or.inl ⟨by kernel_rfl, ?_⟩) hS ?_
 rotate_left
 ·
  intro w' hS
  obtain ⟨f0, f1, f2, f3, f4, f5, f6, f7, f8, g1, g2⟩ := hS
  go_simp
  try with_reducible rfl
 have HN := Lib.hid (numberT_any s w1.drew)
 have hsz1 := HB1.out.size
 refine AnyJ.one (i := 2) (by kernel_rfl) rfl (fun Kz hKz => ?_)
 go_simp
 refine HN.out.mono ?_
 rintro e w2 ⟨rfl, hb2⟩
 have HB2 : Hid (Below w.heap.size w w2) := HB1.out.trans ((Below.refl _ _).drew.trans (hb2.mono (Nat.le_refl _)) |>.mono hsz1)
 have hS2 : w2.cell? ⟨bx, 0, none⟩ = some (.int .i64 s.id) ∧ w2.cell? ⟨bx, 1, none⟩ = some (.int .i64 s.kd) ∧ w2.cell? ⟨bx, 2, none⟩ = some (.int .i64 s.fr) ∧ w2.cell? ⟨bx, 3, none⟩ = some (.int .i64 s.un) ∧ w2.cell? ⟨bx, 4, none⟩ = some (.int .i64 s.ps) ∧ w2.cell? ⟨bx, 5, none⟩ = some (.int .i64 s.rm) ∧ w2.cell? ⟨bx, 6, none⟩ = some (.int .i64 s.wt) ∧ w2.cell? ⟨bx, 7, none⟩ = some (.bool s.ac) ∧ w2.cell? ⟨bx, 8, none⟩ = some (.bool s.inn) ∧ w2.cell? ⟨b1, 0, none⟩ = some (.func (.func 27) #[] #[]) ∧ w2.cell? ⟨b2, 0, none⟩ = some (.int .i64 id) := by
  obtain ⟨f0, f1, f2, f3, f4, f5, f6, f7, f8, g1, g2⟩ := hS
  refine ⟨?_, ?_, ?_, ?_, ?_, ?_, ?_, ?_, ?_, ?_, ?_⟩ <;> exact (hb2.cell (World.block_lt_of_cell? _ _ (by assumption))).trans (by assumption)
 refine hKz _ _ (fun _ => hS2) ?_
 clear hKz Kz hb2 hS
 refine AnyJ.one (i := 4) (by kernel_rfl) rfl (fun Kz hKz => ?_)
 go_simp
 refine hKz _ _ (fun _ => hS2) ?_
 clear hKz Kz
 refine AnyJ.one (i := 5) (by kernel_rfl) rfl (fun Kz hKz => ?_)
 go_simp
 refine hKz _ _ (fun _ => hS2) ?_
 clear hKz Kz
 refine AnyJ.done (by kernel_rfl) ?_ _
 try simp only [Act.put, List.setIfInBounds_toArray, List.set_cons_zero, List.set_cons_succ]
 go_wp2_with fail
 go_ret
 exact ⟨rfl, HB2.out⟩
set_option maxRecDepth 100000 in
set_option maxHeartbeats 1600000 in
theorem findT_any (a : Option Addr) (n cap : Nat) (l : List StayV) (id : Int) (w : World) (hm : n ≤ 9223372036854775807) (hs : SlG stE w a n l) :
  Calls Tryz.prog 26 #[.slice a n cap, .func (.func 27) #[] #[], .int .i64 id] w fun e w' => ∃ (i : Nat) (ok : Bool), e = .returned (.tuple #[.int .i64 (i : Int), .bool ok]) ∧ (ok = true → ∃ s, l[i]? = some s ∧ s.id = id) ∧ (ok = false → ∀ s ∈ l, s.id ≠ id) ∧ Below w.heap.size w w' := by
 have HS := Lib.hid hs
 have hl : l.length = n := hs.1
 clear hs
 go_enter Tryz.func26, Tryz.ntmps26
 obtain ⟨w1, hw1⟩ : ∃ w1, (w.alloc (.cells #[.func (.func 27) #[] #[]] 62)).alloc (.cells #[.int .i64 id] 3) = w1 := ⟨_, rfl⟩
 have hb1 : Below w.heap.size w w1 := by rw [← hw1]; (repeat' (first | (with_reducible first | exact Below.refl _ _ | assumption | exact Bw.out (by assumption) | refine bw_alloc ?_ _ | refine bw_step ?_ (by assumption) | refine Below.alloc ?_ ?_ _ | refine Below.drew ?_ | refine below_drewN ?_ _ | refine Below.setCell ?_ ?_ _ | refine below_step ?_ (by assumption) ?_ | exact Nat.le_refl _) | omega | (simp; omega) | (simp; done)))
 have r1 : Row w1 w.heap.size [.func (.func 27) #[] #[]] := by rw [← hw1]; (repeat' (first | (with_reducible assumption) | (with_reducible refine Row.new' _ _ _ (by first | rfl | (simp; done) | omega)) | (with_reducible first | refine Row.alloc ?_ _ | refine Row.drew ?_ | refine Row.step ?_ (by assumption) | refine Row.drewN ?_ _) | (with_reducible refine Row.set2' ?_ _ _; first | exact ⟨_, _, by assumption⟩ | exact ⟨_, _, Row.alloc (by assumption) _⟩) | (with_reducible refine Row.other ?_ (by first | omega | (simp; omega)) _)))
 have r2 : Row w1 (w.heap.size + 1) [.int .i64 id] := by rw [← hw1]; (repeat' (first | (with_reducible assumption) | (with_reducible refine Row.new' _ _ _ (by first | rfl | (simp; done) | omega)) | (with_reducible first | refine Row.alloc ?_ _ | refine Row.drew ?_ | refine Row.step ?_ (by assumption) | refine Row.drewN ?_ _) | (with_reducible refine Row.set2' ?_ _ _; first | exact ⟨_, _, by assumption⟩ | exact ⟨_, _, Row.alloc (by assumption) _⟩) | (with_reducible refine Row.other ?_ (by first | omega | (simp; omega)) _)))
 have HB1 := Lib.hid hb1
 have hc := Lib.hid (idxT_any a n cap l w1 hm (HS.out.step hb1) hl 49 #[.pointer (some ⟨w.heap.size, 0, none⟩), .pointer (some ⟨w.heap.size + 1, 0, none⟩)] (enters_of Tryz.func49 (by kernel_rfl) rfl) (fun x => decide (x.id = id)) (fun W x _ hb => findsT_any x id _ _ W (r1.step hb) (r2.step hb)) _ rfl)
 clear r1 r2 hb1
 go_wp2_with fail
 refine hc.out.mono ?_
 rintro e w2 ⟨rfl, hb2⟩
 have HB2 : Hid (Below w.heap.size w w2) := HB1.out.trans (hb2.mono HB1.out.size)
 have hI := idxP_cases (fun x : StayV => decide (x.id = id)) l 0
 clear hc hb2 hw1
 rcases hI with ⟨e1, e2⟩ | ⟨j, x, e1, e2, e3⟩
 ·
  rw [e1]
  have HE := Lib.hid e2
  clear e1 e2
  go_wp2_with fail
  refine bodyPost_ret (v := .tuple #[.int .i64 0, .bool false]) (by simp [results, Tryz.results26, go_sem] <;> decide) rfl ?_
  exact ⟨0, false, rfl, (fun h => by cases h), fun _ s hs h => by have := HE.out s hs; simp [h] at this, HB2.out⟩
 ·
  rw [e1, Nat.zero_add]
  have HE : Hid (l[j]? = some x ∧ x.id = id) := ⟨e2, by simpa using e3⟩
  clear e1 e2 e3
  have j0 : (0 : Int) ≤ (j : Int) := by omega
  go_wp2_with fail
  refine bodyPost_ret (v := .tuple #[.int .i64 (j : Int), .bool true]) (by simp [results, Tryz.results26, go_sem]) rfl ?_
  exact ⟨j, true, rfl, fun _ => ⟨x, HE.out⟩, (fun h => by cases h), HB2.out⟩
theorem numberM_any (s : RoomV) (w : World) : Calls Tryz.prog 32 #[.agg #[.int .i64 s.id, .int .i64 s.ho, .int .i64 s.kd, .int .i64 s.jn, .bool s.ac, .slice s.ba s.bl.length s.bc]] w fun e w' => e = .returned (.int .i64 s.id) ∧ Below w.heap.size w w' := by
 go_enter Tryz.func32, Tryz.ntmps32
 go_wp2_with fail
 go_ret
 exact ⟨rfl, by (repeat' (first | (with_reducible first | exact Below.refl _ _ | assumption | exact Bw.out (by assumption) | refine bw_alloc ?_ _ | refine bw_step ?_ (by assumption) | refine Below.alloc ?_ ?_ _ | refine Below.drew ?_ | refine below_drewN ?_ _ | refine Below.setCell ?_ ?_ _ | refine below_step ?_ (by assumption) ?_ | exact Nat.le_refl _) | omega | (simp; omega) | (simp; done)))⟩
set_option maxRecDepth 100000 in
set_option maxHeartbeats 1600000 in
theorem findsM_any (s : RoomV) (id : Int) (b1 b2 : Nat) (w : World) (h1 : Row w b1 [.func (.func 32) #[] #[]]) (h2 : Row w b2 [.int .i64 id]) :
  Calls Tryz.prog 54 #[.agg (rmE.c s).toArray, .pointer (some ⟨b1, 0, none⟩), .pointer (some ⟨b2, 0, none⟩)] w fun e w' => e = .returned (.bool (decide (s.id = id))) ∧ Below w.heap.size w w' := by
 show Calls Tryz.prog _ #[.agg #[.int .i64 s.id, .int .i64 s.ho, .int .i64 s.kd, .int .i64 s.jn, .bool s.ac, .slice s.ba s.bl.length s.bc], _, _] _ _
 go_enter Tryz.func54, Tryz.ntmps54
 obtain ⟨bx, hbx⟩ : ∃ bx, w.heap.size = bx := ⟨_, rfl⟩
 obtain ⟨w1, hw1⟩ : ∃ w1, w.alloc (.cells #[.int .i64 s.id, .int .i64 s.ho, .int .i64 s.kd, .int .i64 s.jn, .bool s.ac, .slice s.ba s.bl.length s.bc] 42) = w1 := ⟨_, rfl⟩
 have hb1 : Below w.heap.size w w1 := by rw [← hw1]; (repeat' (first | (with_reducible first | exact Below.refl _ _ | assumption | exact Bw.out (by assumption) | refine bw_alloc ?_ _ | refine bw_step ?_ (by assumption) | refine Below.alloc ?_ ?_ _ | refine Below.drew ?_ | refine below_drewN ?_ _ | refine Below.setCell ?_ ?_ _ | refine below_step ?_ (by assumption) ?_ | exact Nat.le_refl _) | omega | (simp; omega) | (simp; done)))
 have r : Row w1 bx [.int .i64 s.id, .int .i64 s.ho, .int .i64 s.kd, .int .i64 s.jn, .bool s.ac, .slice s.ba s.bl.length s.bc] := by rw [← hw1, ← hbx]; exact Row.new' _ _ _ rfl
 have k1 := (h1.step hb1).cell 0 rfl
 have k2 := (h2.step hb1).cell 0 rfl
 have HB1 := Lib.hid hb1
 go_upto_region 1 with fail
 try rw [hw1]
 try rw [hbx]
 clear hw1 hb1 h1 h2
 refine AnyJ.beginP (fun w' : World => w'.cell? ⟨bx, 0, none⟩ = some (.int .i64 s.id) ∧ w'.cell? ⟨bx, 1, none⟩ = some (.int .i64 s.ho) ∧ w'.cell? ⟨bx, 2, none⟩ = some (.int .i64 s.kd) ∧ w'.cell? ⟨bx, 3, none⟩ = some (.int .i64 s.jn) ∧ w'.cell? ⟨bx, 4, none⟩ = some (.bool s.ac) ∧ w'.cell? ⟨bx, 5, none⟩ = some (.slice s.ba s.bl.length s.bc) ∧ w'.cell? ⟨b1, 0, none⟩ = some (.func (.func 32) #[] #[]) ∧ w'.cell? ⟨b2, 0, none⟩ = some (.int .i64 id)) (fun _ => true) (by kernel_rfl) ⟨r.cell 0 rfl, r.cell 1 rfl, r.cell 2 rfl, r.cell 3 rfl, r.cell 4 rfl, r.cell 5 rfl, k1, k2⟩ (fun hS => ?_)
 refine AnyJ.takeD (i := 0) (d := some 5) (v := ?_) rfl (by kernel_rfl) (by kernel_rfl) (by kernel_rfl) (by kernel_rfl) (by kernel_rfl) (fun _ _ _ h => h) (Or.inl ⟨by kernel_rfl, ?_⟩) hS ?_
 rotate_left
 ·
  intro w' hS
  obtain ⟨f0, f1, f2, f3, f4, f5, g1, g2⟩ := hS
  go_simp
  try with_reducible rfl
 refine AnyJ.takeD (i := 1) (d := some 6) (v := ?_) rfl (by kernel_rfl) (by kernel_rfl) (by kernel_rfl) (by kernel_rfl) (by kernel_rfl) (fun _ _ _ h => h) (Or.inl ⟨by kernel_rfl, ?_⟩) hS ?_
 rotate_left
 ·
  intro w' hS
  obtain ⟨f0, f1, f2, f3, f4, f5, g1, g2⟩ := hS
  go_simp
  try with_reducible rfl
 refine AnyJ.takeD (i := 3) (d := some 8) (v := ?_) rfl (by kernel_rfl) (by kernel_rfl) (by kernel_rfl) (by kernel_rfl) (by kernel_rfl) (fun _ _ _ h => h) (Or.inl ⟨by kernel_rfl, ?_⟩) hS ?_
 rotate_left
 ·
  intro w' hS
  obtain ⟨f0, f1, f2, f3, f4, f5, g1, g2⟩ := hS
  go_simp
  try with_reducible rfl
 have HN := Lib.hid (numberM_any s w1.drew)
 have hsz1 := HB1.out.size
 refine AnyJ.one (i := 2) (by kernel_rfl) rfl (fun Kz hKz => ?_)
 go_simp
 refine HN.out.mono ?_
 rintro e w2 ⟨rfl, hb2⟩
 have HB2 : Hid (Below w.heap.size w w2) := HB1.out.trans ((Below.refl _ _).drew.trans (hb2.mono (Nat.le_refl _)) |>.mono hsz1)
 have hS2 : w2.cell? ⟨bx, 0, none⟩ = some (.int .i64 s.id) ∧ w2.cell? ⟨bx, 1, none⟩ = some (.int .i64 s.ho) ∧ w2.cell? ⟨bx, 2, none⟩ = some (.int .i64 s.kd) ∧ w2.cell? ⟨bx, 3, none⟩ = some (.int .i64 s.jn) ∧ w2.cell? ⟨bx, 4, none⟩ = some (.bool s.ac) ∧ w2.cell? ⟨bx, 5, none⟩ = some (.slice s.ba s.bl.length s.bc) ∧ w2.cell? ⟨b1, 0, none⟩ = some (.func (.func 32) #[] #[]) ∧ w2.cell? ⟨b2, 0, none⟩ = some (.int .i64 id) := by
  obtain ⟨f0, f1, f2, f3, f4, f5, g1, g2⟩ := hS
  refine ⟨?_, ?_, ?_, ?_, ?_, ?_, ?_, ?_⟩ <;> exact (hb2.cell (World.block_lt_of_cell? _ _ (by assumption))).trans (by assumption)
 refine hKz _ _ (fun _ => hS2) ?_
 clear hKz Kz hb2 hS
 refine AnyJ.one (i := 4) (by kernel_rfl) rfl (fun Kz hKz => ?_)
 go_simp
 refine hKz _ _ (fun _ => hS2) ?_
 clear hKz Kz
 refine AnyJ.one (i := 5) (by kernel_rfl) rfl (fun Kz hKz => ?_)
 go_simp
 refine hKz _ _ (fun _ => hS2) ?_
 clear hKz Kz
 refine AnyJ.done (by kernel_rfl) ?_ _
 try simp only [Act.put, List.setIfInBounds_toArray, List.set_cons_zero, List.set_cons_succ]
 go_wp2_with fail
 go_ret
 exact ⟨rfl, HB2.out⟩
set_option maxRecDepth 100000 in
set_option maxHeartbeats 1600000 in
theorem findM_any (a : Option Addr) (n cap : Nat) (l : List RoomV) (id : Int) (w : World) (hm : n ≤ 9223372036854775807) (hs : SlM w a n l) :
  Calls Tryz.prog 31 #[.slice a n cap, .func (.func 32) #[] #[], .int .i64 id] w fun e w' => ∃ (i : Nat) (ok : Bool), e = .returned (.tuple #[.int .i64 (i : Int), .bool ok]) ∧ (ok = true → ∃ s, l[i]? = some s ∧ s.id = id) ∧ (ok = false → ∀ s ∈ l, s.id ≠ id) ∧ Below w.heap.size w w' := by
 have HS := Lib.hid hs
 have hl : l.length = n := hs.1.1
 clear hs
 go_enter Tryz.func31, Tryz.ntmps31
 obtain ⟨w1, hw1⟩ : ∃ w1, (w.alloc (.cells #[.func (.func 32) #[] #[]] 59)).alloc (.cells #[.int .i64 id] 3) = w1 := ⟨_, rfl⟩
 have hb1 : Below w.heap.size w w1 := by rw [← hw1]; (repeat' (first | (with_reducible first | exact Below.refl _ _ | assumption | exact Bw.out (by assumption) | refine bw_alloc ?_ _ | refine bw_step ?_ (by assumption) | refine Below.alloc ?_ ?_ _ | refine Below.drew ?_ | refine below_drewN ?_ _ | refine Below.setCell ?_ ?_ _ | refine below_step ?_ (by assumption) ?_ | exact Nat.le_refl _) | omega | (simp; omega) | (simp; done)))
 have r1 : Row w1 w.heap.size [.func (.func 32) #[] #[]] := by rw [← hw1]; (repeat' (first | (with_reducible assumption) | (with_reducible refine Row.new' _ _ _ (by first | rfl | (simp; done) | omega)) | (with_reducible first | refine Row.alloc ?_ _ | refine Row.drew ?_ | refine Row.step ?_ (by assumption) | refine Row.drewN ?_ _) | (with_reducible refine Row.set2' ?_ _ _; first | exact ⟨_, _, by assumption⟩ | exact ⟨_, _, Row.alloc (by assumption) _⟩) | (with_reducible refine Row.other ?_ (by first | omega | (simp; omega)) _)))
 have r2 : Row w1 (w.heap.size + 1) [.int .i64 id] := by rw [← hw1]; (repeat' (first | (with_reducible assumption) | (with_reducible refine Row.new' _ _ _ (by first | rfl | (simp; done) | omega)) | (with_reducible first | refine Row.alloc ?_ _ | refine Row.drew ?_ | refine Row.step ?_ (by assumption) | refine Row.drewN ?_ _) | (with_reducible refine Row.set2' ?_ _ _; first | exact ⟨_, _, by assumption⟩ | exact ⟨_, _, Row.alloc (by assumption) _⟩) | (with_reducible refine Row.other ?_ (by first | omega | (simp; omega)) _)))
 have HB1 := Lib.hid hb1
 have hc := Lib.hid (idxM_any a n cap l w1 hm (HS.out.step hb1) hl 54 #[.pointer (some ⟨w.heap.size, 0, none⟩), .pointer (some ⟨w.heap.size + 1, 0, none⟩)] (enters_of Tryz.func54 (by kernel_rfl) rfl) (fun x => decide (x.id = id)) (fun W x _ hb => findsM_any x id _ _ W (r1.step hb) (r2.step hb)) _ rfl)
 clear r1 r2 hb1
 go_wp2_with fail
 refine hc.out.mono ?_
 rintro e w2 ⟨rfl, hb2⟩
 have HB2 : Hid (Below w.heap.size w w2) := HB1.out.trans (hb2.mono HB1.out.size)
 have hI := idxP_cases (fun x : RoomV => decide (x.id = id)) l 0
 clear hc hb2 hw1
 rcases hI with ⟨e1, e2⟩ | ⟨j, x, e1, e2, e3⟩
 ·
  rw [e1]
  have HE := Lib.hid e2
  clear e1 e2
  go_wp2_with fail
  refine bodyPost_ret (v := .tuple #[.int .i64 0, .bool false]) (by simp [results, Tryz.results31, go_sem] <;> decide) rfl ?_
  exact ⟨0, false, rfl, (fun h => by cases h), fun _ s hs h => by have := HE.out s hs; simp [h] at this, HB2.out⟩
 ·
  rw [e1, Nat.zero_add]
  have HE : Hid (l[j]? = some x ∧ x.id = id) := ⟨e2, by simpa using e3⟩
  clear e1 e2 e3
  have j0 : (0 : Int) ≤ (j : Int) := by omega
  go_wp2_with fail
  refine bodyPost_ret (v := .tuple #[.int .i64 (j : Int), .bool true]) (by simp [results, Tryz.results31, go_sem]) rfl ?_
  exact ⟨j, true, rfl, fun _ => ⟨x, HE.out⟩, (fun h => by cases h), HB2.out⟩
theorem isID_p (n : Int) (h : 1 ≤ n ∧ n ≤ 1000000) (w : World) : Calls Tryz.prog 30 #[.int .i64 n] w fun e w' => e = .returned (.bool true) ∧ w' = w := by
 obtain ⟨h1, h2⟩ := h
 go_enter Tryz.func30, Tryz.ntmps30
 go_wp2_with fail
 go_ret
 exact ⟨rfl, rfl⟩
end
section
set_option linter.unusedSimpArgs false
set_option linter.unusedVariables false
open Go.RowKit Go.Shelf
theorem heap_setCells {T : TypeId} {fr : Nat × Nat} (b : Nat) : ∀ (vs : List Value) (o : Nat) (w : World) (cur : Array Value), w.heap[b]? = some (.cells cur T fr) → o + vs.length ≤ cur.size →
  ∃ cur' : Array Value, (w.setCells b o vs).heap[b]? = some (.cells cur' T fr) ∧ cur'.toList = cur.toList.take o ++ (vs ++ cur.toList.drop (o + vs.length))
 | [], o, w, cur, h, _ => ⟨cur, h, by simp⟩
 | v :: r, o, w, cur, h, hl => by
  simp only [List.length_cons] at hl
  have h1 : (w.setCell ⟨b, o, none⟩ v).heap[b]? = some (.cells (cur.setIfInBounds o v) T fr) := by
   simp [World.setCell, Array.getElem?_modify, h]
  obtain ⟨cur', e1, e2⟩ := heap_setCells b r (o + 1) _ _ h1 (by simp; omega)
  refine ⟨cur', e1, ?_⟩
  rw [e2, Array.toList_setIfInBounds]
  have ho : o < cur.toList.length := by simp; omega
  rw [List.take_succ_eq_append_getElem (by simpa using ho), List.take_set_of_le (Nat.le_refl _), List.getElem_set_self, List.drop_set_of_lt (by omega)]
  simp only [List.append_assoc, List.cons_append, List.nil_append, List.length_cons]
  rw [show o + 1 + r.length = o + (r.length + 1) by omega]
theorem ch_setCells (b : Nat) : ∀ (vs : List Value) (o : Nat) (w : World), Ch (fun k => k = b) w (w.setCells b o vs)
 | [], _, w => Ch.refl _ w
 | v :: r, o, w => ((Ch.refl (fun k => k = b) w).setCell (p := ⟨b, o, none⟩) rfl v).trans (ch_setCells b r (o + 1) _)
section
variable {α : Type} {E : Enc α} {T : TypeId} {w : World} {base g n cap : Nat} {l l' : List α}
theorem OwnG.form (h : OwnG E T w base (.slice (some ⟨g, 0, none⟩) n cap) l) : ∃ cur : Array Value, w.heap[g]? = some (.cells cur T) ∧ base ≤ g ∧ l.length = n ∧ n ≤ cap ∧ cap ≤ maxLen ∧ cur.size = cap * E.k ∧ cur.toList.take (n * E.k) = l.flatMap E.c := by
 obtain ⟨h1, h2⟩ := h
 rcases h2 with ⟨e, _⟩ | ⟨g', c', cur, e, e2, e3, e4, e5, e6, e7⟩
 ·
  simp at e
 simp only [Value.slice.injEq, Option.some.injEq, Addr.mk.injEq] at e
 obtain ⟨⟨rfl, _⟩, rfl, rfl⟩ := e
 exact ⟨cur, e3, e2, rfl, e4, e5, e6, e7⟩
theorem OwnG.of (cur : Array Value) (h : w.heap[g]? = some (.cells cur T)) (hb : base ≤ g) (hl : l.length = n) (hc : n ≤ cap) (hm : cap ≤ maxLen) (hs : cur.size = cap * E.k) (ht : cur.toList.take (n * E.k) = l.flatMap E.c) : OwnG E T w base (.slice (some ⟨g, 0, none⟩) n cap) l := by
 subst hl
 exact ⟨E.flat_len l, Or.inr ⟨g, cap, cur, rfl, hb, h, hc, hm, hs, ht⟩⟩
theorem OwnG.plain {ad : Option Addr} (h : OwnG E T w base (.slice ad n cap) l) : ad = none ∨ ∃ g, ad = some ⟨g, 0, none⟩ := by
 rcases h.2 with ⟨e, _⟩ | ⟨g', c', cur, e, _⟩
 ·
  simp only [Value.slice.injEq] at e
  exact .inl e.1
 ·
  simp only [Value.slice.injEq] at e
  exact .inr ⟨g', e.1⟩
/-- All elements stored anew. -/
theorem OwnG.setAll (h : OwnG E T w base (.slice (some ⟨g, 0, none⟩) n cap) l) (hl : l'.length = n) : OwnG E T (w.setCells g 0 (l'.flatMap E.c)) base (.slice (some ⟨g, 0, none⟩) n cap) l' := by
 obtain ⟨cur, h1, h2, h3, h4, h5, h6, h7⟩ := h.form
 have hk : (l'.flatMap E.c).length = n * E.k := by rw [E.flat_len, hl]
 have hle : n * E.k ≤ cap * E.k := Nat.mul_le_mul_right _ h4
 obtain ⟨cur', e1, e2⟩ := heap_setCells g (l'.flatMap E.c) 0 w cur h1 (by rw [hk, h6]; omega)
 refine OwnG.of cur' e1 h2 hl h4 h5 ?_ ?_
 ·
  have := congrArg List.length e2
  simp only [List.take_zero, List.nil_append, List.length_append, List.length_drop, Array.length_toList] at this
  omega
 ·
  rw [e2, List.take_zero, List.nil_append, List.take_append_of_le_length (by omega), List.take_of_length_le (by omega)]
end
/-- The zero value's cells, over and over. -/
theorem made_stays (n : Nat) : madeCells (stE.c ⟨0, 0, 0, 0, 0, 0, 0, false, false⟩).toArray (n * 9) = ((List.replicate n (⟨0, 0, 0, 0, 0, 0, 0, false, false⟩ : StayV)).flatMap stE.c).toArray := by
 apply Array.ext'
 apply List.ext_getElem?
 intro i
 by_cases hi : i < n * 9
 ·
  have hq : i / 9 < n := by omega
  have h := stE.flat (List.replicate n (⟨0, 0, 0, 0, 0, 0, 0, false, false⟩ : StayV)) (i / 9) ⟨0, 0, 0, 0, 0, 0, 0, false, false⟩ (i % 9) (by rw [List.getElem?_replicate, if_pos hq]) (Nat.mod_lt _ (by decide))
  rw [show i / 9 * stE.k + i % 9 = i by show i / 9 * 9 + i % 9 = i; omega] at h
  have h9 : i % 9 < (stE.c ⟨0, 0, 0, 0, 0, 0, 0, false, false⟩).toArray.size := by simp [stE]; omega
  show _ = (List.flatMap _ _)[i]?
  rw [h]
  unfold madeCells
  simp only [Array.toList_map, Array.toList_range, List.getElem?_map, List.getElem?_range hi, Option.map_some]
  rw [show (stE.c ⟨0, 0, 0, 0, 0, 0, 0, false, false⟩).toArray.size = 9 from rfl, getElem!_pos _ (i % 9) h9]
  simp
 ·
  rw [List.getElem?_eq_none (by simp [size_madeCells]; omega), List.getElem?_eq_none (by simp only []; rw [stE.flat_len]; simp; show n * 9 ≤ i; omega)]
theorem run_make_stays (n : Nat) (hn : n ≤ 1000000) (w : World) : ∃ w', Sem.run Tryz.prog (Instr.makeSlice 26 (.int .i64 (n : Int)) (.int .i64 (n : Int))) w = .ok (.slice (some ⟨w.heap.size, 0, none⟩) n n) w' ∧ OwnG stE 37 w' w.heap.size (.slice (some ⟨w.heap.size, 0, none⟩) n n) (List.replicate n ⟨0, 0, 0, 0, 0, 0, 0, false, false⟩) ∧ Below w.heap.size w w' := by
 have h := run_make (P := Tryz.prog) w 26 37 Tryz.t37 (.agg (stE.c ⟨0, 0, 0, 0, 0, 0, 0, false, false⟩).toArray) Tryz.underlying26 (by kernel_rfl) (by kernel_rfl) .i64 .i64 n n (by omega) (Int.le_refl _) (by show ((64 : Nat) : Int) * _ ≤ _; omega) (by omega)
 simp only [Int.toNat_natCast] at h
 refine ⟨_, h, ?_, (Below.refl _ _).alloc (Nat.le_refl _) _⟩
 have e : madeCells (Value.agg (stE.c ⟨0, 0, 0, 0, 0, 0, 0, false, false⟩).toArray).cells (n * Tryz.t37.size) = ((List.replicate n (⟨0, 0, 0, 0, 0, 0, 0, false, false⟩ : StayV)).flatMap stE.c).toArray := made_stays n
 rw [e]
 refine OwnG.of _ (World.alloc_heap_new _ _) (Nat.le_refl _) (by simp) (Nat.le_refl _) (by unfold maxLen; omega) ?_ ?_
 ·
  rw [List.size_toArray, stE.flat_len, List.length_replicate]
 ·
  rw [List.take_of_length_le]
  show (List.flatMap _ _).length ≤ _
  rw [stE.flat_len, List.length_replicate]
  exact Nat.le_refl _
theorem run_copy_stays (w : World) (ty : TypeId) (base g n cap : Nat) (a : Option Addr) (c : Nat) (l l' : List StayV) (h : OwnG stE 37 w base (.slice (some ⟨g, 0, none⟩) n cap) l) (ha : a = none ∨ ∃ b off, a = some ⟨b, off, none⟩) (hs : SlG stE w a n l') :
  ∃ w', (Builtin.copy_ #[26, 26] ty #[.slice (some ⟨g, 0, none⟩) n cap, .slice a n c]).run Tryz.prog w = .ok (goInt n) w' ∧ OwnG stE 37 w' base (.slice (some ⟨g, 0, none⟩) n cap) l' ∧ Ch (fun k => k = g) w w' := by
 obtain ⟨cur, h1, h2, h3, h4, h5, h6, h7⟩ := h.form
 have hu : Tryz.prog.underlying 26 = some (.slice 37) := Tryz.underlying26
 have hz : ∀ w, (sizeOf 37).run Tryz.prog w = .ok 9 w := Tryz.sizeOf37
 have hnc : (l'.flatMap stE.c).length = n * 9 := by rw [stE.flat_len, hs.1]; rfl
 have hk6 : cur.size = cap * 9 := h6
 have hkn : n * 9 ≤ cap * 9 := by omega
 have hrow : Row w g cur.toList := ⟨_, by simpa using h1⟩
 have hst := run_storeCells_cells (P := Tryz.prog) g 0 (l'.flatMap stE.c) 0 w (fun j hj => by
  rw [show 0 + 0 + j = j by omega, hrow.cell j (List.getElem?_eq_getElem (by rw [Array.length_toList]; omega))]
  rfl) (fun j _ => hrow.frozen _) (stE.one_all l')
 rw [Nat.add_zero] at hst
 refine ⟨_, ?_, h.setAll hs.1, ch_setCells g _ 0 w⟩
 rcases ha with rfl | ⟨b, off, rfl⟩
 ·
  have hl : l' = [] := by
   cases l' with
   | nil => rfl
   | cons y r => obtain ⟨_, _, e, _⟩ := hs.2 0 y rfl; cases e
  subst hl
  have hn0 : n = 0 := hs.1.symm
  subst hn0
  simp [Builtin.copy_, run_underlying hu, Builtin.lenOf, Builtin.firstCells, hz, storeCells, World.setCells]
 ·
  have hld := run_loadCells_list (P := Tryz.prog) w ⟨b, off, none⟩ (l'.flatMap stE.c) hs.news
  rw [hnc] at hld
  simp [Builtin.copy_, run_underlying hu, Builtin.lenOf, Builtin.firstCells, hz, hld, hst]
end
section
set_option linter.unusedSimpArgs false
set_option linter.unusedVariables false
open Go.RowKit Go.Shelf
theorem set_step {l : List StayV} {f : StayV → StayV} {i : Nat} {x : StayV} (hx : l[i]? = some x) : ((l.take i).map f ++ l.drop i).set i (f x) = (l.take (i + 1)).map f ++ l.drop (i + 1) := by
 obtain ⟨hi, he⟩ := List.getElem?_eq_some_iff.1 hx
 have hlen : ((l.take i).map f).length = i := by rw [List.length_map, List.length_take]; omega
 rw [List.set_append_right _ _ (by omega), hlen, Nat.sub_self, List.take_succ_eq_append_getElem hi, he, List.map_append]
 have : l.drop i = x :: l.drop (i + 1) := by rw [← he]; exact (List.getElem_cons_drop hi).symm
 rw [this]
 simp
theorem set_at {l : List StayV} {f : StayV → StayV} {i : Nat} {x : StayV} (hx : l[i]? = some x) : ((l.take i).map f ++ l.drop i)[i]? = some x := by
 obtain ⟨hi, he⟩ := List.getElem?_eq_some_iff.1 hx
 have hlen : ((l.take i).map f).length = i := by rw [List.length_map, List.length_take]; omega
 rw [List.getElem?_append_right (by omega), hlen, Nat.sub_self, List.getElem?_drop]
 exact hx
set_option maxRecDepth 100000 in
set_option maxHeartbeats 3200000 in
theorem changed_any (f : StayV → StayV) (gf : Nat) (lb : Array Value) (eg : ∀ args w, (callFunc gf args).run Tryz.prog w = .ok (.enter gf args) w) (o : Nat → Prop) (J : Nat → World → Prop) (a : Option Addr) (n cap : Nat) (l : List StayV) (w : World) (ha : a = none ∨ ∃ b off, a = some ⟨b, off, none⟩) (hs : SlG stE w a n l) (hn : n ≤ 100000) (ho : ∀ k, o k → k < w.heap.size)
  (hJ0 : ∀ W, Below w.heap.size w W → J 0 W)
  (hstep : ∀ (i : Nat) (x : StayV) (g : Nat) (cur : List StayV) (W : World), l[i]? = some x → cur[i]? = some x → w.heap.size ≤ g → OwnG stE 37 W w.heap.size (.slice (some ⟨g, 0, none⟩) n n) cur → J i W → Calls Tryz.prog gf (#[.pointer (some ⟨g, i * 9, none⟩)] ++ lb) W fun e W' => e = .returned (.tuple #[]) ∧ OwnG stE 37 W' w.heap.size (.slice (some ⟨g, 0, none⟩) n n) (cur.set i (f x)) ∧ J (i + 1) W' ∧ Ch (fun k => k = g ∨ o k) W W') :
  Calls Tryz.prog 36 #[.slice a n cap, .func (.func gf) #[] lb] w fun e w' => ∃ g, e = .returned (.slice (some ⟨g, 0, none⟩) n n) ∧ OwnG stE 37 w' w.heap.size (.slice (some ⟨g, 0, none⟩) n n) (l.map f) ∧ J n w' ∧ Ch o w w' := by
 have hlen := hs.1
 obtain ⟨W1, hmk, hO1, hB1⟩ := run_make_stays n (by omega) w
 obtain ⟨g, hg⟩ : ∃ g, w.heap.size = g := ⟨_, rfl⟩
 rw [hg] at hmk
 have hO1' : OwnG stE 37 W1 w.heap.size (.slice (some ⟨g, 0, none⟩) n n) (List.replicate n ⟨0, 0, 0, 0, 0, 0, 0, false, false⟩) := by rw [← hg]; rw [hg] at hO1 ⊢; exact hO1
 obtain ⟨W2, hcp, hO2, hC2⟩ := run_copy_stays W1 3 w.heap.size g n n a cap _ l hO1' ha (hs.step hB1)
 have HO2 := Lib.hid hO2
 have hgn : w.heap.size ≤ g := by omega
 have HC2 : Hid (Ch (fun k => k = g ∨ o k) w W2) := (Ch.ofB hB1).trans (hC2.mono (fun k _ h => .inl h))
 have HB2 := hC2.below hB1 (fun k h => by omega) hB1.size
 have HJ0 := Lib.hid (hJ0 W2 HB2)
 have HST := Lib.hid hstep
 have HL := Lib.hid hlen
 have HO := Lib.hid ho
 have HG := Lib.hid hg
 clear hO1 hO1' hB1 hO2 hC2 hJ0 hstep hs ho HB2 hg hlen ha
 go_enter Tryz.func36, Tryz.ntmps36
 go_wp2_with fail
 go_loopw [6, 15] (fun _ ix wr => ∃ i : Nat, i ≤ n ∧ ix = .int .i64 i ∧ Hid (OwnG stE 37 wr w.heap.size (.slice (some ⟨g, 0, none⟩) n n) ((l.take i).map f ++ l.drop i)) ∧ Hid (J i wr) ∧ Hid (Ch (fun k => k = g ∨ o k) w wr)) (fun _ ix _ => n - (intOf ix).toNat)
 case atStart => exact ⟨0, Nat.zero_le _, rfl, HO2.out, HJ0.out, HC2.out⟩
 case round =>
  obtain ⟨i, hi, rfl, hO, hJ, hC⟩ := hrel
  by_cases hin : i < n
  ·
   obtain ⟨x, hx⟩ : ∃ x, l[i]? = some x := ⟨_, List.getElem?_eq_getElem (by rw [HL.out]; exact hin)⟩
   have hcall := HST.out i x g _ wr hx (set_at hx) hgn hO.out hJ.out
   have HS2 := Lib.hid (set_step (f := f) hx)
   have i1 : (0 : Int) ≤ (i : Int) := by omega
   have i2 : (i : Int) < (n : Int) := by omega
   clear hx
   go_wp2_with (go_at_fn gf; refine hcall.mono ?_; rintro e w2 ⟨rfl, ho2, hj2, hc2⟩)
   have HO3 : Hid (OwnG stE 37 w2 w.heap.size (.slice (some ⟨g, 0, none⟩) n n) ((l.take (i + 1)).map f ++ l.drop (i + 1))) := by rw [HS2.out] at ho2; exact ho2
   have HJ3 := Lib.hid hj2
   have HC3 : Hid (Ch (fun k => k = g ∨ o k) w w2) := hC.out.trans hc2
   clear ho2 hj2 hc2 hcall
   go_roundw
   case rel => exact ⟨i + 1, by omega, by go_num, HO3.out, HJ3.out, HC3.out⟩
   case measure => simp [intOf]; omega
  ·
   obtain rfl : i = n := by omega
   have hO2 := hO.out
   rw [List.take_of_length_le (by rw [HL.out]; omega), List.drop_of_length_le (by rw [HL.out]; omega), List.append_nil] at hO2
   have HOF := Lib.hid hO2
   have HCF : Hid (Ch o w wr) := hC.out.mono (fun k hk h => h.resolve_left (by omega))
   clear hO2
   go_wp2_with fail
   go_ret
   exact ⟨g, rfl, HOF.out, hJ.out, HCF.out⟩
end
section
set_option linter.unusedSimpArgs false
set_option linter.unusedVariables false
open Go.RowKit Go.Shelf
/-- The cells of stay i of an own slice. -/
theorem own_stay {w : World} {base g n cap i : Nat} {l : List StayV} {x : StayV} (h : OwnG stE 37 w base (.slice (some ⟨g, 0, none⟩) n cap) l) (hi : l[i]? = some x) : g < w.heap.size ∧ (∀ c u, (stE.c x)[c]? = some u → w.cell? ⟨g, i * 9 + c, none⟩ = some u) ∧ ∀ c, w.frozen? ⟨g, c, none⟩ = false := by
 have hil := (List.getElem?_eq_some_iff.1 hi).1
 obtain ⟨g', c', rest, e, _, hr, _⟩ := h.at (by omega)
 simp only [Value.slice.injEq, Option.some.injEq, Addr.mk.injEq] at e
 obtain ⟨⟨rfl, _⟩, rfl, rfl⟩ := e
 refine ⟨hr.lt, fun c u hu => ?_, fun c => hr.frozen c⟩
 have hc : c < 9 := by
  have := (List.getElem?_eq_some_iff.1 hu).1
  rwa [stE.len] at this
 rw [cellS hr hi rfl c hc, hu]
theorem OwnG.put9 {w : World} {base g n cap i c : Nat} {l : List StayV} {x y : StayV} (h : OwnG stE 37 w base (.slice (some ⟨g, 0, none⟩) n cap) l) (hi : l[i]? = some x) (hc : c < 9) (v : Value) (hy : stE.c y = (stE.c x).set c v) : OwnG stE 37 (w.setCell ⟨g, i * 9 + c, none⟩ v) base (.slice (some ⟨g, 0, none⟩) n cap) (l.set i y) := OwnG.put h hi (show c < stE.k from hc) v hy
set_option maxRecDepth 100000 in
set_option maxHeartbeats 3200000 in
theorem arrives_any (id : Int) (bi i g n base : Nat) (x : StayV) (cur : List StayV) (w : World) (hb : Row w bi [.int .i64 id]) (hx : cur[i]? = some x) (ho : OwnG stE 37 w base (.slice (some ⟨g, 0, none⟩) n n) cur) :
  Calls Tryz.prog 37 #[.pointer (some ⟨g, i * 9, none⟩), .pointer (some ⟨bi, 0, none⟩)] w fun e w' => e = .returned (.tuple #[]) ∧ OwnG stE 37 w' base (.slice (some ⟨g, 0, none⟩) n n) (cur.set i { x with inn := x.inn || decide (x.id = id) }) ∧ Ch (fun k => k = g) w w' := by
 obtain ⟨hgl, hcs, hfr⟩ := own_stay ho hx
 have x0 := hcs 0 _ rfl
 have x8 := hcs 8 _ rfl
 have z8 := hfr (i * 9 + 8)
 have b0 := hb.cell 0 rfl
 have hbl := hb.lt
 rw [Nat.add_zero] at x0
 have HO := Lib.hid ho
 have HX := Lib.hid hx
 obtain ⟨inn, hin⟩ : ∃ inn, x.inn = inn := ⟨_, rfl⟩
 rw [hin] at x8
 have HIN := Lib.hid hin
 clear ho hx hin hcs hfr hb
 cases inn with
 | true =>
  go_enter Tryz.func37, Tryz.ntmps37
  go_wp2_with fail
  go_region
  go_end0
  refine ⟨rfl, ?_, (Ch.refl (fun k => k = g) w).setCell (p := ⟨g, i * 9 + 8, none⟩) rfl _ |>.drew⟩
  rw [HIN.out, Bool.true_or]
  exact HO.out.put9 HX.out (show 8 < 9 by omega) (.bool true) rfl
 | false =>
  go_enter Tryz.func37, Tryz.ntmps37
  go_wp2_with fail
  go_region
  go_end0
  refine ⟨rfl, ?_, (Ch.refl (fun k => k = g) w).setCell (p := ⟨g, i * 9 + 8, none⟩) rfl _ |>.drew⟩
  rw [HIN.out, Bool.false_or]
  exact HO.out.put9 HX.out (show 8 < 9 by omega) (.bool (decide (x.id = id))) rfl
set_option maxRecDepth 100000 in
set_option maxHeartbeats 3200000 in
theorem removes_any (id : Int) (bi i g n base : Nat) (x : StayV) (cur : List StayV) (w : World) (h1 : id ≠ 0) (hwt : x.wt = 0) (hb : Row w bi [.int .i64 id]) (hx : cur[i]? = some x) (ho : OwnG stE 37 w base (.slice (some ⟨g, 0, none⟩) n n) cur) :
  Calls Tryz.prog 42 #[.pointer (some ⟨g, i * 9, none⟩), .pointer (some ⟨bi, 0, none⟩)] w fun e w' => e = .returned (.tuple #[]) ∧ OwnG stE 37 w' base (.slice (some ⟨g, 0, none⟩) n n) (cur.set i x) ∧ Ch (fun k => k = g) w w' := by
 obtain ⟨hgl, hcs, hfr⟩ := own_stay ho hx
 have x6 := hcs 6 _ rfl
 have z6 := hfr (i * 9 + 6)
 have b0 := hb.cell 0 rfl
 have hbl := hb.lt
 rw [hwt] at x6
 have h2 : ¬ (0 = id) := fun e => h1 e.symm
 have HO := Lib.hid ho
 have HX : Hid (cur.set i x = cur) := by
  show _ = _
  apply List.ext_getElem?
  intro j
  by_cases e : i = j
  ·
   subst e
   rw [List.getElem?_set_self (List.getElem?_eq_some_iff.1 hx).1, hx]
  ·
   rw [List.getElem?_set_ne e]
 clear ho hx hcs hfr hb hwt
 go_enter Tryz.func42, Tryz.ntmps42
 go_wp2_with fail
 go_region
 go_wp2_with fail
 go_end0
 exact ⟨rfl, by rw [HX.out]; exact HO.out, (Ch.refl _ _).drew⟩
theorem isStay_yes (s : StayV) (hg : s.Good) (w : World) : Calls Tryz.prog 28 #[.agg #[.int .i64 s.id, .int .i64 s.kd, .int .i64 s.fr, .int .i64 s.un, .int .i64 s.ps, .int .i64 s.rm, .int .i64 s.wt, .bool s.ac, .bool s.inn]] w fun e w' => e = .returned (.bool true) ∧ Below w.heap.size w w' := by
 have hwt : s.wt = 0 := hg.2.2.2.2.2.1
 have HG : Hid (GoodL [s]) := ⟨by simpa using hg, by simp, by simp⟩
 clear hg
 have HG2 : Hid (GoodL [{ s with wt := 0 }]) := by
  show GoodL _
  rw [← hwt]
  exact HG.out
 go_enter Tryz.func28, Tryz.ntmps28
 go_wp2_with fail
 refine (sValid_yes (some ⟨w.heap.size + 1, 0, none⟩) 1 1 [{ s with wt := 0 }] _ (SlG.row (rest := []) (Row.new' _ (stE.c { s with wt := 0 }) _ (by simp)) rfl) HG2.out).mono ?_
 rintro e w2 ⟨rfl, hb⟩
 have HB := Lib.hid hb
 clear hb
 go_wp2_with fail
 go_ret
 exact ⟨rfl, by refine Below.trans ?_ (HB.out.mono ?_) <;> first | (repeat' (first | (with_reducible first | exact Below.refl _ _ | assumption | exact Bw.out (by assumption) | refine bw_alloc ?_ _ | refine bw_step ?_ (by assumption) | refine Below.alloc ?_ ?_ _ | refine Below.drew ?_ | refine below_drewN ?_ _ | refine Below.setCell ?_ ?_ _ | refine below_step ?_ (by assumption) ?_ | exact Nat.le_refl _) | omega | (simp; omega) | (simp; done))) | simp⟩
theorem index2_any (b : Nat) (x y z : Int) (w : World) (hr : Row w b [.int .i64 x, .int .i64 y]) :
  Calls Tryz.prog 58 #[.slice (some ⟨b, 0, none⟩) 2 2, .int .i64 z] w fun e w' => ∃ r : Int, e = .returned (.int .i64 r) ∧ (decide (0 ≤ r) = (decide (x = z) || decide (y = z))) ∧ w' = w := by
 have c0 := hr.cell 0 rfl
 have c1 := hr.cell 1 rfl
 have hl := hr.lt
 clear hr
 go_enter Tryz.func58, Tryz.ntmps58
 go_wp2_with fail
 go_loopw [5, 8] (fun _ ix wr => ∃ i : Nat, ix = .int .i64 i ∧ wr = w ∧ (i = 0 ∨ (i = 1 ∧ Hid (x ≠ z)) ∨ (i = 2 ∧ Hid (x ≠ z ∧ y ≠ z)))) (fun _ ix _ => 2 - (intOf ix).toNat)
 case atStart => exact ⟨0, rfl, rfl, .inl rfl⟩
 case round =>
  obtain ⟨i, rfl, rfl, hc⟩ := hrel
  rcases hc with rfl | ⟨rfl, h1⟩ | ⟨rfl, h1⟩
  ·
   by_cases hxz : z = x
   ·
    subst hxz
    go_wp2_with fail
    go_ret
    exact ⟨0, rfl, by simp, rfl⟩
   ·
    have hxz' : x ≠ z := fun e => hxz e.symm
    go_wp2_with fail
    go_roundw
    case rel => exact ⟨1, by go_num, trivial, .inr (.inl ⟨rfl, hxz'⟩)⟩
    case measure => simp [intOf]
  ·
   by_cases hyz : z = y
   ·
    subst hyz
    go_wp2_with fail
    go_ret
    exact ⟨1, rfl, by simp, rfl⟩
   ·
    have hyz' : y ≠ z := fun e => hyz e.symm
    have h2 := h1.out
    go_wp2_with fail
    go_roundw
    case rel => exact ⟨2, by go_num, trivial, .inr (.inr ⟨rfl, h1.out, hyz'⟩)⟩
    case measure => simp [intOf]
  ·
   go_wp2_with fail
   go_ret
   exact ⟨-1, rfl, by have := h1.out; simp [this.1, this.2], rfl⟩
end
section
set_option linter.unusedSimpArgs false
set_option linter.unusedVariables false
open Go.RowKit Go.Shelf
theorem Row.setB {w : World} {b : Nat} {u : Value} (h : Row w b [u]) (v : Value) : Row (w.setCell ⟨b, 0, none⟩ v) b [v] := by
 obtain ⟨T, hT⟩ := h
 exact ⟨T, by simp [World.setCell, Array.getElem?_modify, hT]⟩
set_option maxHeartbeats 1600000 in
theorem contains2_any (b : Nat) (x y z : Int) (w : World) (hr : Row w b [.int .i64 x, .int .i64 y]) :
  Calls Tryz.prog 41 #[.slice (some ⟨b, 0, none⟩) 2 2, .int .i64 z] w fun e w' => e = .returned (.bool (decide (x = z) || decide (y = z))) ∧ w' = w := by
 have hc := Lib.hid (index2_any b x y z w hr)
 clear hr
 go_enter Tryz.func41, Tryz.ntmps41
 go_wp2_with fail
 refine hc.out.mono ?_
 rintro e w' ⟨r, rfl, h, rfl⟩
 have HH := Lib.hid h
 clear h hc
 by_cases h0 : 0 ≤ r
 ·
  go_wp2_with fail
  go_ret
  exact ⟨by rw [← HH.out]; simp [h0], rfl⟩
 ·
  go_wp2_with fail
  go_ret
  exact ⟨by rw [← HH.out]; simp [h0], rfl⟩
set_option maxRecDepth 100000 in
set_option maxHeartbeats 3200000 in
/-- A stay of another number: nothing is done. -/
theorem extends_no (id fr un : Int) (bp bm bf bu i g n base : Nat) (x : StayV) (cur : List StayV) (w : World) (hid : x.id ≠ id) (h1 : 1 ≤ x.id) (rp : Row w bp [.int .i64 id, .int .i64 0]) (hx : cur[i]? = some x) (ho : OwnG stE 37 w base (.slice (some ⟨g, 0, none⟩) n n) cur) :
  Calls Tryz.prog 40 #[.pointer (some ⟨g, i * 9, none⟩), .pointer (some ⟨bp, 0, none⟩), .pointer (some ⟨bm, 0, none⟩), .pointer (some ⟨bf, 0, none⟩), .pointer (some ⟨bu, 0, none⟩)] w fun e w' => e = .returned (.tuple #[]) ∧ Below w.heap.size w w' := by
 obtain ⟨hgl, hcs, hfr⟩ := own_stay ho hx
 have x0 := hcs 0 _ rfl
 rw [Nat.add_zero] at x0
 have hc := fun W (h : Row W bp [.int .i64 id, .int .i64 0]) => contains2_any bp id 0 x.id W h
 have e : (decide (id = x.id) || decide (0 = x.id)) = false := by simp; omega
 rw [e] at hc
 have HC := Lib.hid (hc w.drew rp.drew)
 have c0 := rp.cell 0 rfl
 have c1 := rp.cell 1 rfl
 have hpl := rp.lt
 clear hc hcs hfr hx ho rp
 go_enter Tryz.func40, Tryz.ntmps40
 go_wp2_with fail
 refine AnyJ.beginP (fun w' : World => w'.cell? ⟨g, i * 9, none⟩ = some (.int .i64 x.id) ∧ w'.cell? ⟨bp, 0, none⟩ = some (.int .i64 id) ∧ w'.cell? ⟨bp, 1, none⟩ = some (.int .i64 0)) (fun _ => true) (by kernel_rfl) ⟨x0, c0, c1⟩ (fun hS => ?_)
 refine AnyJ.takeD (i := 0) (d := some 6) (v := ?_) rfl (by kernel_rfl) (by kernel_rfl) (by kernel_rfl) (by kernel_rfl) (by kernel_rfl) (fun _ _ _ h => h) (Or.inl ⟨by kernel_rfl, ?_⟩) hS ?_
 rotate_left
 ·
  intro w' hS
  obtain ⟨e0, e1, e2⟩ := hS
  go_simp
  try with_reducible rfl
 refine AnyJ.takeD (i := 1) (d := some 7) (v := ?_) rfl (by kernel_rfl) (by kernel_rfl) (by kernel_rfl) (by kernel_rfl) (by kernel_rfl) (fun _ _ _ h => h) (Or.inl ⟨by kernel_rfl, ?_⟩) hS ?_
 rotate_left
 ·
  intro w' hS
  obtain ⟨e0, e1, e2⟩ := hS
  go_simp
  try with_reducible rfl
 refine AnyJ.takeD (i := 2) (d := some 8) (v := ?_) rfl (by kernel_rfl) (by kernel_rfl) (by kernel_rfl) (by kernel_rfl) (by kernel_rfl) (fun _ _ _ h => h) (Or.inl ⟨by kernel_rfl, ?_⟩) hS ?_
 rotate_left
 ·
  intro w' hS
  obtain ⟨e0, e1, e2⟩ := hS
  go_simp
  try with_reducible rfl
 refine AnyJ.takeD (i := 3) (d := some 9) (v := ?_) rfl (by kernel_rfl) (by kernel_rfl) (by kernel_rfl) (by kernel_rfl) (by kernel_rfl) (fun _ _ _ h => h) (Or.inl ⟨by kernel_rfl, ?_⟩) hS ?_
 rotate_left
 ·
  intro w' hS
  obtain ⟨e0, e1, e2⟩ := hS
  go_simp
  try with_reducible rfl
 refine AnyJ.takeD (i := 4) (d := some 10) (v := ?_) rfl (by kernel_rfl) (by kernel_rfl) (by kernel_rfl) (by kernel_rfl) (by kernel_rfl) (fun _ _ _ h => h) (Or.inl ⟨by kernel_rfl, ?_⟩) hS ?_
 rotate_left
 ·
  intro w' hS
  obtain ⟨e0, e1, e2⟩ := hS
  go_simp
  try with_reducible rfl
 refine AnyJ.one (i := 5) (by kernel_rfl) rfl (fun Kz hKz => ?_)
 go_simp
 refine HC.out.mono ?_
 rintro e w2 ⟨rfl, rfl⟩
 refine hKz _ _ (fun _ => hS) ?_
 clear hKz Kz
 refine AnyJ.one (i := 6) (by kernel_rfl) rfl (fun Kz hKz => ?_)
 go_simp
 refine hKz _ _ (fun _ => hS) ?_
 clear hKz Kz
 refine AnyJ.done (by kernel_rfl) ?_ _
 try simp only [Act.put, List.setIfInBounds_toArray, List.set_cons_zero, List.set_cons_succ]
 go_wp2_with fail
 refine bodyPost_ret (results_none rfl _ _ _) rfl ?_
 exact ⟨rfl, (Below.refl _ _).drew⟩
set_option maxRecDepth 100000 in
set_option maxHeartbeats 3200000 in
theorem extends_yes (id fr un : Int) (bp bm bf bu i g n base : Nat) (x : StayV) (cur : List StayV) (w : World) (mv : Bool) (hid : x.id = id) (rp : Row w bp [.int .i64 id, .int .i64 0]) (rm : Row w bm [.bool mv]) (rf : Row w bf [.int .i64 fr]) (ru : Row w bu [.int .i64 un]) (hmb : bm < base) (hfb : bf < base) (hub : bu < base) (hmf : bm ≠ bf) (hmu : bm ≠ bu) (hx : cur[i]? = some x) (ho : OwnG stE 37 w base (.slice (some ⟨g, 0, none⟩) n n) cur) :
  Calls Tryz.prog 40 #[.pointer (some ⟨g, i * 9, none⟩), .pointer (some ⟨bp, 0, none⟩), .pointer (some ⟨bm, 0, none⟩), .pointer (some ⟨bf, 0, none⟩), .pointer (some ⟨bu, 0, none⟩)] w fun e w' => e = .returned (.tuple #[]) ∧ OwnG stE 37 w' base (.slice (some ⟨g, 0, none⟩) n n) (cur.set i { x with fr := fr, un := un }) ∧ Row w' bm [.bool (mv || (x.inn && x.fr != fr))] ∧ Ch (fun k => k = g ∨ k = bm) w w' := by
 subst hid
 obtain ⟨hgl, hcs, hfr⟩ := own_stay ho hx
 have x0 := hcs 0 _ rfl
 have x2 := hcs 2 _ rfl
 have x3 := hcs 3 _ rfl
 have x8 := hcs 8 _ rfl
 have z2 := hfr (i * 9 + 2)
 have z3 := hfr (i * 9 + 3)
 rw [Nat.add_zero] at x0
 have hc := fun W (h : Row W bp [.int .i64 x.id, .int .i64 0]) => contains2_any bp x.id 0 x.id W h
 have e : (decide (x.id = x.id) || decide (0 = x.id)) = true := by simp
 rw [e] at hc
 have HC := Lib.hid (hc w.drew rp.drew)
 have c0 := rp.cell 0 rfl
 have c1 := rp.cell 1 rfl
 have hpl := rp.lt
 have m0 := rm.cell 0 rfl
 have m1 := rm.frozen 0
 have m2 := rm.lt
 have f0 := rf.cell 0 rfl
 have f2 := rf.lt
 have u0 := ru.cell 0 rfl
 have u2 := ru.lt
 have hbg := ho.form.choose_spec.2.1
 have hgm : g ≠ bm := by omega
 have hgf : g ≠ bf := by omega
 have hgu : g ≠ bu := by omega
 have HO := Lib.hid ho
 have HX := Lib.hid hx
 have HM := Lib.hid rm
 clear hc hcs hfr hx ho rp rm rf ru
 go_enter Tryz.func40, Tryz.ntmps40
 go_wp2_with fail
 refine AnyJ.beginP (fun w' : World => w'.cell? ⟨g, i * 9, none⟩ = some (.int .i64 x.id) ∧ w'.cell? ⟨bp, 0, none⟩ = some (.int .i64 x.id) ∧ w'.cell? ⟨bp, 1, none⟩ = some (.int .i64 0)) (fun _ => true) (by kernel_rfl) ⟨x0, c0, c1⟩ (fun hS => ?_)
 refine AnyJ.takeD (i := 0) (d := some 6) (v := ?_) rfl (by kernel_rfl) (by kernel_rfl) (by kernel_rfl) (by kernel_rfl) (by kernel_rfl) (fun _ _ _ h => h) (Or.inl ⟨by kernel_rfl, ?_⟩) hS ?_
 rotate_left
 ·
  intro w' hS
  obtain ⟨e0, e1, e2⟩ := hS
  go_simp
  try with_reducible rfl
 refine AnyJ.takeD (i := 1) (d := some 7) (v := ?_) rfl (by kernel_rfl) (by kernel_rfl) (by kernel_rfl) (by kernel_rfl) (by kernel_rfl) (fun _ _ _ h => h) (Or.inl ⟨by kernel_rfl, ?_⟩) hS ?_
 rotate_left
 ·
  intro w' hS
  obtain ⟨e0, e1, e2⟩ := hS
  go_simp
  try with_reducible rfl
 refine AnyJ.takeD (i := 2) (d := some 8) (v := ?_) rfl (by kernel_rfl) (by kernel_rfl) (by kernel_rfl) (by kernel_rfl) (by kernel_rfl) (fun _ _ _ h => h) (Or.inl ⟨by kernel_rfl, ?_⟩) hS ?_
 rotate_left
 ·
  intro w' hS
  obtain ⟨e0, e1, e2⟩ := hS
  go_simp
  try with_reducible rfl
 refine AnyJ.takeD (i := 3) (d := some 9) (v := ?_) rfl (by kernel_rfl) (by kernel_rfl) (by kernel_rfl) (by kernel_rfl) (by kernel_rfl) (fun _ _ _ h => h) (Or.inl ⟨by kernel_rfl, ?_⟩) hS ?_
 rotate_left
 ·
  intro w' hS
  obtain ⟨e0, e1, e2⟩ := hS
  go_simp
  try with_reducible rfl
 refine AnyJ.takeD (i := 4) (d := some 10) (v := ?_) rfl (by kernel_rfl) (by kernel_rfl) (by kernel_rfl) (by kernel_rfl) (by kernel_rfl) (fun _ _ _ h => h) (Or.inl ⟨by kernel_rfl, ?_⟩) hS ?_
 rotate_left
 ·
  intro w' hS
  obtain ⟨e0, e1, e2⟩ := hS
  go_simp
  try with_reducible rfl
 refine AnyJ.one (i := 5) (by kernel_rfl) rfl (fun Kz hKz => ?_)
 go_simp
 refine HC.out.mono ?_
 rintro e w2 ⟨rfl, rfl⟩
 refine hKz _ _ (fun _ => hS) ?_
 clear hKz Kz
 refine AnyJ.one (i := 6) (by kernel_rfl) rfl (fun Kz hKz => ?_)
 go_simp
 refine hKz _ _ (fun _ => hS) ?_
 clear hKz Kz
 refine AnyJ.done (by kernel_rfl) ?_ _
 try simp only [Act.put, List.setIfInBounds_toArray, List.set_cons_zero, List.set_cons_succ]
 clear hS HC
 obtain ⟨inn, hin⟩ : ∃ inn, x.inn = inn := ⟨_, rfl⟩
 have HIN := Lib.hid hin
 rw [hin] at x8
 clear hin
 cases mv with
 | true =>
  go_wp2_with fail
  go_region
  go_wp2_with fail
  go_region
  go_end0
  have hO1 := HO.out.ch (Ch.setCell (Ch.refl (fun k => k = bm) w) (p := ⟨bm, 0, none⟩) rfl (.bool true)) (fun k e h => by cases e; exact hgm h)
  have hO2 := hO1.put9 HX.out (show 2 < 9 by omega) (.int .i64 fr) (y := { x with fr := fr }) rfl
  have hO3 := hO2.put9 (List.getElem?_set_self (List.getElem?_eq_some_iff.1 HX.out).1) (show 3 < 9 by omega) (.int .i64 un) (y := { x with fr := fr, un := un }) rfl
  rw [List.set_set] at hO3
  refine ⟨rfl, hO3, ?_, (((Ch.setCell (Ch.refl (fun k => k = g ∨ k = bm) w) (p := ⟨bm, 0, none⟩) (.inr rfl) _).setCell (p := ⟨g, i * 9 + 2, none⟩) (.inl rfl) _).setCell (p := ⟨g, i * 9 + 3, none⟩) (.inl rfl) _).drew.drew.drew⟩
  have hR := (((HM.out.setB (.bool true)).other (a := ⟨g, i * 9 + 2, none⟩) (fun e => hgm e.symm) (.int .i64 fr)).other (a := ⟨g, i * 9 + 3, none⟩) (fun e => hgm e.symm) (.int .i64 un))
  have hV : (true || (x.inn && x.fr != fr)) = true := by simp [HIN.out]
  rw [hV]
  exact hR
 | false =>
  cases inn with
  | false =>
   go_wp2_with fail
   go_region
   go_wp2_with fail
   go_region
   go_end0
   have hO1 := HO.out.ch (Ch.setCell (Ch.refl (fun k => k = bm) w) (p := ⟨bm, 0, none⟩) rfl (.bool false)) (fun k e h => by cases e; exact hgm h)
   have hO2 := hO1.put9 HX.out (show 2 < 9 by omega) (.int .i64 fr) (y := { x with fr := fr }) rfl
   have hO3 := hO2.put9 (List.getElem?_set_self (List.getElem?_eq_some_iff.1 HX.out).1) (show 3 < 9 by omega) (.int .i64 un) (y := { x with fr := fr, un := un }) rfl
   rw [List.set_set] at hO3
   refine ⟨rfl, hO3, ?_, (((Ch.setCell (Ch.refl (fun k => k = g ∨ k = bm) w) (p := ⟨bm, 0, none⟩) (.inr rfl) _).setCell (p := ⟨g, i * 9 + 2, none⟩) (.inl rfl) _).setCell (p := ⟨g, i * 9 + 3, none⟩) (.inl rfl) _).drew.drew.drew⟩
   have hR := (((HM.out.setB (.bool false)).other (a := ⟨g, i * 9 + 2, none⟩) (fun e => hgm e.symm) (.int .i64 fr)).other (a := ⟨g, i * 9 + 3, none⟩) (fun e => hgm e.symm) (.int .i64 un))
   have hV : (false || (x.inn && x.fr != fr)) = false := by simp [HIN.out]
   rw [hV]
   exact hR
  | true =>
   go_wp2_with fail
   go_region
   go_wp2_with fail
   go_region
   go_end0
   have hO1 := HO.out.ch (Ch.setCell (Ch.refl (fun k => k = bm) w) (p := ⟨bm, 0, none⟩) rfl (.bool (x.fr != fr))) (fun k e h => by cases e; exact hgm h)
   have hO2 := hO1.put9 HX.out (show 2 < 9 by omega) (.int .i64 fr) (y := { x with fr := fr }) rfl
   have hO3 := hO2.put9 (List.getElem?_set_self (List.getElem?_eq_some_iff.1 HX.out).1) (show 3 < 9 by omega) (.int .i64 un) (y := { x with fr := fr, un := un }) rfl
   rw [List.set_set] at hO3
   refine ⟨rfl, hO3, ?_, (((Ch.setCell (Ch.refl (fun k => k = g ∨ k = bm) w) (p := ⟨bm, 0, none⟩) (.inr rfl) _).setCell (p := ⟨g, i * 9 + 2, none⟩) (.inl rfl) _).setCell (p := ⟨g, i * 9 + 3, none⟩) (.inl rfl) _).drew.drew.drew⟩
   have hR := (((HM.out.setB (.bool (x.fr != fr))).other (a := ⟨g, i * 9 + 2, none⟩) (fun e => hgm e.symm) (.int .i64 fr)).other (a := ⟨g, i * 9 + 3, none⟩) (fun e => hgm e.symm) (.int .i64 un))
   have hV : (false || (x.inn && x.fr != fr)) = (x.fr != fr) := by simp [HIN.out]
   rw [hV]
   exact hR
end
section
set_option linter.unusedSimpArgs false
set_option linter.unusedVariables false
open Go.RowKit Go.Shelf
section
variable {α : Type} {E : Enc α} {T : TypeId} {w : World} {base g n cap i : Nat} {l : List α}
theorem flat_take (l : List α) (i : Nat) (hi : i ≤ l.length) : (l.flatMap E.c).take (i * E.k) = (l.take i).flatMap E.c := by
 conv => lhs; rw [← List.take_append_drop i l, List.flatMap_append]
 have h : ((l.take i).flatMap E.c).length = i * E.k := by rw [E.flat_len, List.length_take, Nat.min_eq_left hi]
 rw [List.take_append_of_le_length (by omega), List.take_of_length_le (by omega)]
/-- One element taken out, in place. -/
theorem OwnG.del (h : OwnG E T w base (.slice (some ⟨g, 0, none⟩) n cap) l) (hi : i < n) {zs : List Value} (hz : zs.length = E.k) :
  OwnG E T ((w.setCells g (i * E.k) ((l.drop (i + 1)).flatMap E.c)).setCells g ((n - 1) * E.k) zs) base (.slice (some ⟨g, 0, none⟩) (n - 1) cap) (l.eraseIdx i) := by
 obtain ⟨cur, h1, h2, h3, h4, h5, h6, h7⟩ := h.form
 obtain ⟨k, hk⟩ : ∃ k, E.k = k := ⟨_, rfl⟩
 obtain ⟨D, hD⟩ : ∃ D, (l.drop (i + 1)).flatMap E.c = D := ⟨_, rfl⟩
 have hDl : D.length = (n - 1 - i) * k := by rw [← hD, E.flat_len, List.length_drop, h3, hk]; congr 1; omega
 have hft := flat_take (E := E) l i (by omega)
 rw [hk] at h6 h7 hz hft ⊢
 rw [hD]
 have e0 : n * k ≤ cap * k := Nat.mul_le_mul_right _ h4
 have e1 : i * k + (n - 1 - i) * k = (n - 1) * k := by rw [← Nat.add_mul]; congr 1; omega
 have e2 : (n - 1) * k + k = n * k := by rw [← Nat.succ_mul]; congr 1; omega
 obtain ⟨c1, p1, p2⟩ := heap_setCells g D (i * k) w cur h1 (by omega)
 have pl := congrArg List.length p2
 simp only [List.length_append, List.length_take, List.length_drop, Array.length_toList] at pl
 rw [hDl, h6] at pl
 have hc1 : c1.size = cap * k := by omega
 obtain ⟨c2, q1, q2⟩ := heap_setCells g zs ((n - 1) * k) _ c1 p1 (by omega)
 have ql := congrArg List.length q2
 simp only [List.length_append, List.length_take, List.length_drop, Array.length_toList] at ql
 rw [hz, hc1] at ql
 refine OwnG.of c2 q1 h2 (by rw [List.length_eraseIdx_of_lt (by omega)]; omega) (by omega) h5 (by rw [hk]; omega) ?_
 rw [hk, q2, List.take_append_of_le_length (by rw [List.length_take, Array.length_toList]; omega), List.take_take, Nat.min_self, p2, ← List.append_assoc, List.take_append_of_le_length (by rw [List.length_append, List.length_take, Array.length_toList]; omega), List.take_of_length_le (by rw [List.length_append, List.length_take, Array.length_toList]; omega), List.eraseIdx_eq_take_drop_succ, List.flatMap_append, hD, ← hft, ← h7, List.take_take, Nat.min_eq_left (by omega)]
end
theorem run_clear_stay (w : World) (ty : TypeId) (b o c : Nat) (hc : ∀ j, j < 9 → (w.cell? ⟨b, o + j, none⟩).isSome = true) (hf : ∀ j, j < 9 → w.frozen? ⟨b, o + j, none⟩ = false) :
  (Builtin.clear_ #[26] ty #[.slice (some ⟨b, o, none⟩) 1 c]).run Tryz.prog w = .ok (.tuple #[]) (w.setCells b o (stE.c ⟨0, 0, 0, 0, 0, 0, 0, false, false⟩)) := by
 have hu : Tryz.prog.underlying 26 = some (.slice 37) := Tryz.underlying26
 have hz := zero_stay
 have hst := run_storeCells_cells (P := Tryz.prog) b o (stE.c ⟨0, 0, 0, 0, 0, 0, 0, false, false⟩) 0 w (fun j hj => hc j hj) (fun j hj => hf j hj) (stE.one _)
 rw [Nat.add_zero] at hst
 have hzc : (Builtin.zeroCells (Value.agg #[.int .i64 0, .int .i64 0, .int .i64 0, .int .i64 0, .int .i64 0, .int .i64 0, .int .i64 0, .bool false, .bool false]).cells 1).toList = stE.c ⟨0, 0, 0, 0, 0, 0, 0, false, false⟩ := by kernel_rfl
 simp [Builtin.clear_, run_underlying hu, hz, hzc, hst]
theorem SlG.news' {α : Type} {E : Enc α} {w : World} {b off n : Nat} {l : List α} (h : SlG E w (some ⟨b, off, none⟩) n l) {off' : Nat} (e : off' = off) (j : Nat) (u : Value) (hj : (l.flatMap E.c)[j]? = some u) : w.cell? ((⟨b, off', none⟩ : Addr).add j) = some u := by
 subst e
 exact h.news j u hj
set_option maxRecDepth 100000 in
set_option maxHeartbeats 3200000 in
theorem delete_any (base g n cap i : Nat) (l : List StayV) (w : World) (hi : i < n) (hm : cap ≤ 1000000) (ho : OwnG stE 37 w base (.slice (some ⟨g, 0, none⟩) n cap) l) :
  Calls Tryz.prog 43 #[.slice (some ⟨g, 0, none⟩) n cap, .int .i64 (i : Int), .int .i64 ((i : Int) + 1)] w fun e w' => e = .returned (.slice (some ⟨g, 0, none⟩) (n - 1) cap) ∧ OwnG stE 37 w' base (.slice (some ⟨g, 0, none⟩) (n - 1) cap) (l.eraseIdx i) ∧ Ch (fun k => k = g) w w' := by
 have hsz := ho.sizes
 obtain ⟨q, rfl⟩ : ∃ q, n = q + 1 := ⟨n - 1, by omega⟩
 have HO := Lib.hid ho
 clear ho
 have i0 : (0 : Int) ≤ (i : Int) := by omega
 have i1 : (i : Int) + 1 ≤ ((q + 1 : Nat) : Int) := by omega
 have i2 : ((q + 1 : Nat) : Int) ≤ (cap : Int) := by omega
 have i3 : ¬ ((i : Int) = (i : Int) + 1) := by omega
 have i4 : (0 : Int) ≤ (i : Int) + 1 := by omega
 have hqi : ¬ (q < i) := by omega
 by_cases hcc : i + 1 = cap
 ·
  have HCC := Lib.hid hcc
  clear hcc
  go_enter Tryz.func43, Tryz.ntmps43
  go_upto_region 5 with fail
  refine AnyJ.beginP (fun w' : World => True) (fun _ => true) (by kernel_rfl) trivial (fun hS => ?_)
  refine AnyJ.takeD (i := 0) (d := some 20) (v := .slice (some ⟨g, 0, none⟩) (q + 1) cap) rfl (by kernel_rfl) (by kernel_rfl) (by kernel_rfl) (by kernel_rfl) (by kernel_rfl) (fun _ _ _ h => h) (Or.inl ⟨by kernel_rfl, ?_⟩) hS ?_
  ·
   intro w' hS
   go_simp
   try (first | omega | rfl | simp [i4, hqi, HCC.out.symm])
  refine AnyJ.takeD (i := 1) (d := some 21) (v := .int .i64 (i : Int)) rfl (by kernel_rfl) (by kernel_rfl) (by kernel_rfl) (by kernel_rfl) (by kernel_rfl) (fun _ _ _ h => h) (Or.inl ⟨by kernel_rfl, ?_⟩) hS ?_
  ·
   intro w' hS
   go_simp
   try (first | omega | rfl | simp [i4, hqi, HCC.out.symm])
  refine AnyJ.takeD (i := 2) (d := some 22) (v := .slice (some ⟨g, 0, none⟩) i cap) rfl (by kernel_rfl) (by kernel_rfl) (by kernel_rfl) (by kernel_rfl) (by kernel_rfl) (fun _ _ _ h => h) (Or.inl ⟨by kernel_rfl, ?_⟩) hS ?_
  ·
   intro w' hS
   go_simp
   try (first | omega | rfl | simp [i4, hqi, HCC.out.symm])
  refine AnyJ.takeD (i := 3) (d := some 23) (v := .slice (some ⟨g, 0, none⟩) (q + 1) cap) rfl (by kernel_rfl) (by kernel_rfl) (by kernel_rfl) (by kernel_rfl) (by kernel_rfl) (fun _ _ _ h => h) (Or.inl ⟨by kernel_rfl, ?_⟩) hS ?_
  ·
   intro w' hS
   go_simp
   try (first | omega | rfl | simp [i4, hqi, HCC.out.symm])
  refine AnyJ.takeD (i := 4) (d := some 24) (v := .int .i64 ((i : Int) + 1)) rfl (by kernel_rfl) (by kernel_rfl) (by kernel_rfl) (by kernel_rfl) (by kernel_rfl) (fun _ _ _ h => h) (Or.inl ⟨by kernel_rfl, ?_⟩) hS ?_
  ·
   intro w' hS
   go_simp
   try (first | omega | rfl | simp [i4, hqi, HCC.out.symm])
  refine AnyJ.takeD (i := 5) (d := some 25) (v := .slice (some ⟨g, 0, none⟩) (q - i) (cap - (i + 1))) rfl (by kernel_rfl) (by kernel_rfl) (by kernel_rfl) (by kernel_rfl) (by kernel_rfl) (fun _ _ _ h => h) (Or.inl ⟨by kernel_rfl, ?_⟩) hS ?_
  ·
   intro w' hS
   go_simp
   try (first | omega | rfl | simp [i4, hqi, HCC.out.symm])
  obtain ⟨w1, hw1⟩ : ∃ w1, w.drew = w1 := ⟨_, rfl⟩
  have HO1 : Hid (OwnG stE 37 w1 base (.slice (some ⟨g, 0, none⟩) (q + 1) cap) l) := by show OwnG _ _ _ _ _ _; rw [← hw1]; exact HO.out
  have HC1 : Hid (Ch (fun k => k = g) w w1) := by show Ch _ _ _; rw [← hw1]; exact (Ch.refl _ _).drew
  rw [hw1]
  clear hw1 hS
  obtain ⟨cur, f1, f2, f3, f4, f5, f6, f7⟩ := HO1.out.form
  have hrow : Row w1 g cur.toList := ⟨_, by simpa using f1⟩
  have hcs : cur.size = cap * 9 := f6
  have hnl : ((l.drop (i + 1)).flatMap stE.c).length = (q - i) * 9 := by rw [stE.flat_len, List.length_drop, f3]; show _ * 9 = _ * 9; congr 1 <;> omega
  refine AnyJ.one (i := 6) (by kernel_rfl) rfl (fun Kz hKz => ?_)
  refine step_append_room rfl (.tmp 22) (.tmp 25) 26 rfl 37 Tryz.t37 9 Tryz.underlying26 (by kernel_rfl) rfl g 0 i cap (by simp [Act.eval, Act.put]) ⟨g, 0, none⟩ (q - i) (cap - (i + 1)) ((l.drop (i + 1)).flatMap stE.c) (by simp [Act.eval, Act.put]) hnl (fun j u hj => ?_) (stE.one_all _) (by omega) (fun j hj => ?_) ?_
  ·
   have h9 : (l.drop (i + 1)).length = q - i := by rw [List.length_drop, f3]; omega
   have hjl := (List.getElem?_eq_some_iff.1 hj).1
   (exfalso)
   all_goals (have := HCC.out)
   all_goals omega
  ·
   have hjj : 0 + i * 9 + j < cur.toList.length := by rw [Array.length_toList]; omega
   refine ⟨?_, hrow.frozen _⟩
   rw [hrow.cell _ (List.getElem?_eq_getElem hjj)]
   try rfl
  refine hKz _ _ (fun _ => trivial) ?_
  clear hKz Kz
  obtain ⟨w2, hw2⟩ : ∃ w2, w1.setCells g (0 + i * 9) ((l.drop (i + 1)).flatMap stE.c) = w2 := ⟨_, rfl⟩
  have hO3 := HO1.out.del (show i < _ by omega) (zs := stE.c ⟨0, 0, 0, 0, 0, 0, 0, false, false⟩) rfl
  have hw2' : w1.setCells g (i * stE.k) ((l.drop (i + 1)).flatMap stE.c) = w2 := by rw [← hw2, Nat.zero_add]; rfl
  rw [hw2'] at hO3
  have HO3 := Lib.hid hO3
  have HC2 : Hid (Ch (fun k => k = g) w w2) := by show Ch _ _ _; rw [← hw2]; exact HC1.out.trans (ch_setCells g _ _ _)
  obtain ⟨cur2, p1, p2⟩ := heap_setCells g ((l.drop (i + 1)).flatMap stE.c) (0 + i * 9) w1 cur f1 (by omega)
  rw [hw2] at p1 ⊢
  have hrow2 : Row w2 g cur2.toList := ⟨_, by simpa using p1⟩
  have hl2 : cur2.size = cap * 9 := by
   have := congrArg List.length p2
   simp only [List.length_append, List.length_take, List.length_drop, Array.length_toList] at this
   omega
  clear hw2 hw2' hO3 p1 p2 f1 f7 hrow
  refine AnyJ.one (i := 7) (by kernel_rfl) rfl (fun Kz hKz => ?_)
  go_simp
  refine hKz _ _ (fun _ => trivial) ?_
  clear hKz Kz
  refine AnyJ.done (by kernel_rfl) ?_ _
  try simp only [Act.put, List.setIfInBounds_toArray, List.set_cons_zero, List.set_cons_succ]
  have hcl := run_clear_stay w2 0 g (q * 9) (cap - q) (fun j hj => by rw [hrow2.cell _ (List.getElem?_eq_getElem (by rw [Array.length_toList]; omega))]; try rfl) (fun j _ => hrow2.frozen _)
  rw [show i + (q - i) = q by omega]
  have j0 : (0 : Int) ≤ (q : Int) := by omega
  have j1 : (q : Int) ≤ ((q + 1 : Nat) : Int) := by omega
  have j2 : ¬ (cap = q) := by omega
  clear hrow2
  go_wp2_with fail
  go_ret
  exact ⟨rfl, HO3.out, HC2.out.trans (ch_setCells g _ _ _)⟩
 ·
  have hcc2 : ¬ (cap = i + 1) := fun e => hcc e.symm
  go_enter Tryz.func43, Tryz.ntmps43
  go_upto_region 5 with fail
  refine AnyJ.beginP (fun w' : World => True) (fun _ => true) (by kernel_rfl) trivial (fun hS => ?_)
  refine AnyJ.takeD (i := 0) (d := some 20) (v := .slice (some ⟨g, 0, none⟩) (q + 1) cap) rfl (by kernel_rfl) (by kernel_rfl) (by kernel_rfl) (by kernel_rfl) (by kernel_rfl) (fun _ _ _ h => h) (Or.inl ⟨by kernel_rfl, ?_⟩) hS ?_
  ·
   intro w' hS
   go_simp
   try (first | omega | rfl | simp [i4, hqi, hcc2])
  refine AnyJ.takeD (i := 1) (d := some 21) (v := .int .i64 (i : Int)) rfl (by kernel_rfl) (by kernel_rfl) (by kernel_rfl) (by kernel_rfl) (by kernel_rfl) (fun _ _ _ h => h) (Or.inl ⟨by kernel_rfl, ?_⟩) hS ?_
  ·
   intro w' hS
   go_simp
   try (first | omega | rfl | simp [i4, hqi, hcc2])
  refine AnyJ.takeD (i := 2) (d := some 22) (v := .slice (some ⟨g, 0, none⟩) i cap) rfl (by kernel_rfl) (by kernel_rfl) (by kernel_rfl) (by kernel_rfl) (by kernel_rfl) (fun _ _ _ h => h) (Or.inl ⟨by kernel_rfl, ?_⟩) hS ?_
  ·
   intro w' hS
   go_simp
   try (first | omega | rfl | simp [i4, hqi, hcc2])
  refine AnyJ.takeD (i := 3) (d := some 23) (v := .slice (some ⟨g, 0, none⟩) (q + 1) cap) rfl (by kernel_rfl) (by kernel_rfl) (by kernel_rfl) (by kernel_rfl) (by kernel_rfl) (fun _ _ _ h => h) (Or.inl ⟨by kernel_rfl, ?_⟩) hS ?_
  ·
   intro w' hS
   go_simp
   try (first | omega | rfl | simp [i4, hqi, hcc2])
  refine AnyJ.takeD (i := 4) (d := some 24) (v := .int .i64 ((i : Int) + 1)) rfl (by kernel_rfl) (by kernel_rfl) (by kernel_rfl) (by kernel_rfl) (by kernel_rfl) (fun _ _ _ h => h) (Or.inl ⟨by kernel_rfl, ?_⟩) hS ?_
  ·
   intro w' hS
   go_simp
   try (first | omega | rfl | simp [i4, hqi, hcc2])
  refine AnyJ.takeD (i := 5) (d := some 25) (v := .slice (some ⟨g, (i + 1) * 9, none⟩) (q - i) (cap - (i + 1))) rfl (by kernel_rfl) (by kernel_rfl) (by kernel_rfl) (by kernel_rfl) (by kernel_rfl) (fun _ _ _ h => h) (Or.inl ⟨by kernel_rfl, ?_⟩) hS ?_
  ·
   intro w' hS
   go_simp
   try (first | omega | rfl | simp [i4, hqi, hcc2])
  obtain ⟨w1, hw1⟩ : ∃ w1, w.drew = w1 := ⟨_, rfl⟩
  have HO1 : Hid (OwnG stE 37 w1 base (.slice (some ⟨g, 0, none⟩) (q + 1) cap) l) := by show OwnG _ _ _ _ _ _; rw [← hw1]; exact HO.out
  have HC1 : Hid (Ch (fun k => k = g) w w1) := by show Ch _ _ _; rw [← hw1]; exact (Ch.refl _ _).drew
  rw [hw1]
  clear hw1 hS
  obtain ⟨cur, f1, f2, f3, f4, f5, f6, f7⟩ := HO1.out.form
  have hrow : Row w1 g cur.toList := ⟨_, by simpa using f1⟩
  have hcs : cur.size = cap * 9 := f6
  have hnl : ((l.drop (i + 1)).flatMap stE.c).length = (q - i) * 9 := by rw [stE.flat_len, List.length_drop, f3]; show _ * 9 = _ * 9; congr 1 <;> omega
  refine AnyJ.one (i := 6) (by kernel_rfl) rfl (fun Kz hKz => ?_)
  refine step_append_room rfl (.tmp 22) (.tmp 25) 26 rfl 37 Tryz.t37 9 Tryz.underlying26 (by kernel_rfl) rfl g 0 i cap (by simp [Act.eval, Act.put]) ⟨g, (i + 1) * 9, none⟩ (q - i) (cap - (i + 1)) ((l.drop (i + 1)).flatMap stE.c) (by simp [Act.eval, Act.put]) hnl (fun j u hj => ?_) (stE.one_all _) (by omega) (fun j hj => ?_) ?_
  ·
   have h9 : (l.drop (i + 1)).length = q - i := by rw [List.length_drop, f3]; omega
   have hjl := (List.getElem?_eq_some_iff.1 hj).1
   exact (HO1.out.sl.drop (k := i + 1) (by omega)).news' (off' := (i + 1) * 9) (Nat.zero_add _).symm j u hj
   all_goals (have := HCC.out)
   all_goals omega
  ·
   have hjj : 0 + i * 9 + j < cur.toList.length := by rw [Array.length_toList]; omega
   refine ⟨?_, hrow.frozen _⟩
   rw [hrow.cell _ (List.getElem?_eq_getElem hjj)]
   try rfl
  refine hKz _ _ (fun _ => trivial) ?_
  clear hKz Kz
  obtain ⟨w2, hw2⟩ : ∃ w2, w1.setCells g (0 + i * 9) ((l.drop (i + 1)).flatMap stE.c) = w2 := ⟨_, rfl⟩
  have hO3 := HO1.out.del (show i < _ by omega) (zs := stE.c ⟨0, 0, 0, 0, 0, 0, 0, false, false⟩) rfl
  have hw2' : w1.setCells g (i * stE.k) ((l.drop (i + 1)).flatMap stE.c) = w2 := by rw [← hw2, Nat.zero_add]; rfl
  rw [hw2'] at hO3
  have HO3 := Lib.hid hO3
  have HC2 : Hid (Ch (fun k => k = g) w w2) := by show Ch _ _ _; rw [← hw2]; exact HC1.out.trans (ch_setCells g _ _ _)
  obtain ⟨cur2, p1, p2⟩ := heap_setCells g ((l.drop (i + 1)).flatMap stE.c) (0 + i * 9) w1 cur f1 (by omega)
  rw [hw2] at p1 ⊢
  have hrow2 : Row w2 g cur2.toList := ⟨_, by simpa using p1⟩
  have hl2 : cur2.size = cap * 9 := by
   have := congrArg List.length p2
   simp only [List.length_append, List.length_take, List.length_drop, Array.length_toList] at this
   omega
  clear hw2 hw2' hO3 p1 p2 f1 f7 hrow
  refine AnyJ.one (i := 7) (by kernel_rfl) rfl (fun Kz hKz => ?_)
  go_simp
  refine hKz _ _ (fun _ => trivial) ?_
  clear hKz Kz
  refine AnyJ.done (by kernel_rfl) ?_ _
  try simp only [Act.put, List.setIfInBounds_toArray, List.set_cons_zero, List.set_cons_succ]
  have hcl := run_clear_stay w2 0 g (q * 9) (cap - q) (fun j hj => by rw [hrow2.cell _ (List.getElem?_eq_getElem (by rw [Array.length_toList]; omega))]; try rfl) (fun j _ => hrow2.frozen _)
  rw [show i + (q - i) = q by omega]
  have j0 : (0 : Int) ≤ (q : Int) := by omega
  have j1 : (q : Int) ≤ ((q + 1 : Nat) : Int) := by omega
  have j2 : ¬ (cap = q) := by omega
  clear hrow2
  go_wp2_with fail
  go_ret
  exact ⟨rfl, HO3.out, HC2.out.trans (ch_setCells g _ _ _)⟩
end
end Go.Proofs.YtlmajlfhjbhdpaaGreat
