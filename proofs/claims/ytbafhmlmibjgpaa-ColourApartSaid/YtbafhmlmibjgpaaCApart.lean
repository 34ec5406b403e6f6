/-
  The law ColourApart.
-/
import Derived.Test.YtbafhmlmibjgpaaColM
namespace Go.Proofs.Ytbafhmlmibjgpaa
set_option linter.unusedSimpArgs false
set_option linter.unusedVariables false
open Go.ChangeShapes Go.WideShapes Go.ChangeAt Go.RowKit

theorem info_bool : (Try.prog.info? 4).map (fun i => (i.zero, i.size, i.bytes)) = some (some (.bool false), 1, 1) := by kernel_rfl
theorem Row.bools (w : World) (n : Nat) : Row (w.alloc (.cells (madeCells #[.bool false] n) 4)) w.heap.size ((List.replicate n false).map Value.bool) := by
  have e : (madeCells #[.bool false] n).toList = (List.replicate n false).map Value.bool := by
    refine List.ext_getElem? (fun i => ?_)
    rw [List.map_replicate]
    by_cases hi : i < n
    · simp [madeCells, hi, Nat.mod_one, List.getElem?_replicate]
    · simp [madeCells, hi, List.getElem?_replicate]
  refine ⟨4, ?_⟩
  rw [World.alloc_heap_new, ← e]
theorem Row.setB {w : World} {g : Nat} {us : List Bool} (h : Row w g (us.map Value.bool)) (i : Nat) (b : Bool) : Row (w.setCell ⟨g, i, none⟩ (.bool b)) g ((us.set i b).map Value.bool) := by
  obtain ⟨T, hT⟩ := h
  refine ⟨T, ?_⟩
  simp only [World.setCell, Array.getElem?_modify, hT]
  simp [List.map_set]
theorem cell_bool {w : World} {g : Nat} {us : List Bool} (h : Row w g (us.map Value.bool)) {i : Nat} (hi : i < us.length) : w.cell? ⟨g, i, none⟩ = some (.bool (us.getD i false)) := by
  refine h.cell i ?_
  rw [List.getElem?_map]
  simp [List.getD, hi]
theorem set_hit {us : List Bool} {x c : Nat} (h : us.getD c false = true ∨ (c = x ∧ x < us.length)) : (us.set x true).getD c false = true := by
  by_cases e : c = x
  · subst e
    have hc : c < us.length := by
      rcases h with h | h
      · by_cases hl : c < us.length
        · exact hl
        · simp [List.getD, List.getElem?_eq_none (Nat.le_of_not_lt hl)] at h
      · exact h.2
    simp [List.getD, hc]
  · rcases h with h | h
    · rw [← h]; simp [List.getD, List.getElem?_set, Ne.symm e]
    · exact absurd h.1 e
theorem colAt_get {O : List Int} {k : Nat} : colAt O k = O.getD k 0 := by unfold colAt; rw [Int.toNat_natCast]

set_option maxRecDepth 100000 in
set_option maxHeartbeats 6400000 in
theorem colourApart_walk (a : Option Addr) (n cap : Nat) (l : List SpV) (wf : ∀ x ∈ l, SpanWf x) (w : World) (h : SlP w a n l ∧ n ≤ cap ∧ cap ≤ maxLen) :
    Calls Try.prog 4 #[.slice a n cap] w fun e w' => e = .returned (.bool true) ∧ Below w.heap.size w w' := by
  have hn := SlP.cap h
  have HS := Lib.hid h.1
  have HL := Lib.hid h.1.1
  clear h wf
  by_cases hu : usS l = true
  · obtain ⟨h1, h2, h3⟩ := usS_in hu
    have hn100 : n ≤ 100 := by have := HL.out; omega
    obtain ⟨M, hM⟩ : ∃ M, (colE l).length = M := ⟨_, rfl⟩
    have hMn : M ≤ n := by rw [← hM, ← HL.out]; exact colE_le
    have iMn : (M : Int) ≤ (n : Int) := by omega
    obtain ⟨ib, hi, hz0, hz1, hz2⟩ := info_parts info_bool
    have HI := Lib.hid (And.intro hi (And.intro hz0 (And.intro hz1 hz2)))
    have HU := Lib.hid hu
    have HE := Lib.hid h2
    have HO := Lib.hid h3
    have HM := Lib.hid hM
    clear hu h1 h2 h3 hM hi hz0 hz1 hz2
    go_enter Try.func4, Try.ntmps4
    go_wp2_with fail
    refine (c_head_any _).mono ?_
    rintro e w1 ⟨rfl, hb1⟩
    have HB1 : Below w.heap.size w w1 := by (repeat' (first | (with_reducible exact Below.refl _ _) | (with_reducible assumption) | (with_reducible exact Bw.out (by with_reducible assumption)) | (with_reducible refine bw_alloc ?_ _) | (with_reducible refine bw_step ?_ (by with_reducible assumption)) | (with_reducible refine Below.alloc ?_ ?_ _) | (with_reducible refine Below.drew ?_) | (with_reducible refine below_drewN ?_ _) | (with_reducible refine Below.setCell ?_ ?_ _) | (with_reducible refine below_step ?_ (by with_reducible assumption) ?_) | (with_reducible exact Nat.le_refl _) | omega | (simp; omega) | (simp; done)))
    go_wp2_with fail
    refine (usable_c a n cap l _ hn (HS.out.below (by (repeat' (first | (with_reducible exact Below.refl _ _) | (with_reducible assumption) | (with_reducible exact Bw.out (by with_reducible assumption)) | (with_reducible refine bw_alloc ?_ _) | (with_reducible refine bw_step ?_ (by with_reducible assumption)) | (with_reducible refine Below.alloc ?_ ?_ _) | (with_reducible refine Below.drew ?_) | (with_reducible refine below_drewN ?_ _) | (with_reducible refine Below.setCell ?_ ?_ _) | (with_reducible refine below_step ?_ (by with_reducible assumption) ?_) | (with_reducible exact Nat.le_refl _) | omega | (simp; omega) | (simp; done))))) true HU.out).mono ?_
    rintro e w2 ⟨rfl, hb2⟩
    have HB2 : Below w.heap.size w w2 := by (repeat' (first | (with_reducible exact Below.refl _ _) | (with_reducible assumption) | (with_reducible exact Bw.out (by with_reducible assumption)) | (with_reducible refine bw_alloc ?_ _) | (with_reducible refine bw_step ?_ (by with_reducible assumption)) | (with_reducible refine Below.alloc ?_ ?_ _) | (with_reducible refine Below.drew ?_) | (with_reducible refine below_drewN ?_ _) | (with_reducible refine Below.setCell ?_ ?_ _) | (with_reducible refine below_step ?_ (by with_reducible assumption) ?_) | (with_reducible exact Nat.le_refl _) | omega | (simp; omega) | (simp; done)))
    clear hb1 HB1
    go_wp2_with fail
    refine (Colours_c a n cap l _ (by omega) (HS.out.below (by (repeat' (first | (with_reducible exact Below.refl _ _) | (with_reducible assumption) | (with_reducible exact Bw.out (by with_reducible assumption)) | (with_reducible refine bw_alloc ?_ _) | (with_reducible refine bw_step ?_ (by with_reducible assumption)) | (with_reducible refine Below.alloc ?_ ?_ _) | (with_reducible refine Below.drew ?_) | (with_reducible refine below_drewN ?_ _) | (with_reducible refine Below.setCell ?_ ?_ _) | (with_reducible refine below_step ?_ (by with_reducible assumption) ?_) | (with_reducible exact Nat.le_refl _) | omega | (simp; omega) | (simp; done))))) HE.out M HM.out).mono ?_
    rintro e w3 ⟨a2, d2, rfl, V2, hb3⟩
    have HB3 : Below w.heap.size w w3 := by (repeat' (first | (with_reducible exact Below.refl _ _) | (with_reducible assumption) | (with_reducible exact Bw.out (by with_reducible assumption)) | (with_reducible refine bw_alloc ?_ _) | (with_reducible refine bw_step ?_ (by with_reducible assumption)) | (with_reducible refine Below.alloc ?_ ?_ _) | (with_reducible refine Below.drew ?_) | (with_reducible refine below_drewN ?_ _) | (with_reducible refine Below.setCell ?_ ?_ _) | (with_reducible refine below_step ?_ (by with_reducible assumption) ?_) | (with_reducible exact Nat.le_refl _) | omega | (simp; omega) | (simp; done)))
    clear hb2 HB2
    have HV := Lib.hid V2.sli.1
    have HB3' := Lib.hid HB3
    go_upto_region 8 with (refine wpList_make_row _ rfl _ _ 33 rfl 4 ib (.bool false) Try.underlying33 HI.out.1 HI.out.2.1 HI.out.2.2.1 rfl .i64 .i64 M rfl rfl (by rw [HI.out.2.2.2]; omega) (by omega) ?_)
    have hU4 := Row.bools w3 M
    have hb4 : Below w3.heap.size w3 (w3.alloc (.cells (madeCells #[.bool false] M) 4)) := by (repeat' (first | (with_reducible exact Below.refl _ _) | (with_reducible assumption) | (with_reducible exact Bw.out (by with_reducible assumption)) | (with_reducible refine bw_alloc ?_ _) | (with_reducible refine bw_step ?_ (by with_reducible assumption)) | (with_reducible refine Below.alloc ?_ ?_ _) | (with_reducible refine Below.drew ?_) | (with_reducible refine below_drewN ?_ _) | (with_reducible refine Below.setCell ?_ ?_ _) | (with_reducible refine below_step ?_ (by with_reducible assumption) ?_) | (with_reducible exact Nat.le_refl _) | omega | (simp; omega) | (simp; done)))
    obtain ⟨w4, hw4⟩ : ∃ W, w3.alloc (.cells (madeCells #[.bool false] M) 4) = W := ⟨_, rfl⟩
    rw [hw4] at hU4 hb4 ⊢
    obtain ⟨g, hg⟩ : ∃ g, w3.heap.size = g := ⟨_, rfl⟩
    have hg3 : w.heap.size ≤ g := by have := HB3'.out.size; omega
    rw [hg] at hU4 hb4
    try rw [hg]
    have HU4 := Lib.hid hU4
    have HB4 := Lib.hid hb4
    have hg4 := hU4.lt
    clear hw4 hU4 hb4
    go_wp2_with fail
    go_loopw [3, 47] (fun vu vi wr => ∃ (i : Nat) (us : List Bool), i ≤ n ∧ vu = .bool true ∧ vi = .int .i64 i ∧ Hid (Row wr g (us.map Value.bool)) ∧ Hid (us.length = M) ∧ Hid (∀ j : Nat, j < i → us.getD (colAt (colO l) j).toNat false = true) ∧ Hid (Below g w3 wr)) (fun _ vi _ => n - (intOf vi).toNat)
    case atStart => exact ⟨0, List.replicate M false, Nat.zero_le _, rfl, rfl, HU4.out, List.length_replicate, fun j hj => absurd hj (Nat.not_lt_zero _), HB4.out⟩
    case round =>
      obtain ⟨i, us, hi, rfl, rfl, hU, hUL, hSet, hB⟩ := hrel
      have hBg : Hid (Below w3.heap.size w3 wr) := by show Below _ _ _; rw [hg]; exact hB.out
      have hBw : Hid (Below w.heap.size w wr) := HB3'.out.trans (hB.out.mono hg3)
      by_cases hlt : i < n
      · obtain ⟨bc, oc, x, e9, _, c9, z9, _⟩ := (HV.out.below hBg.out).get hlt
        subst e9
        have hx : colAt (colO l) i = x := by rw [colAt_get]; exact z9.out
        have hin := colO_in HO.out (i := i) (by omega) (by rw [HL.out]; omega)
        rw [hx, HM.out] at hin
        obtain ⟨x0, x1⟩ := hin
        obtain ⟨xn, rfl⟩ := Int.eq_ofNat_of_zero_le x0
        have HX := Lib.hid hx
        have xl : xn < us.length := by rw [hUL.out]; omega
        have c5 := cell_bool hU.out xl
        have z5 := hU.out.frozen xn
        have l5 := hU.out.lt
        have HU5 := Lib.hid (hU.out.setB xn true)
        have HB5 := Lib.hid (Below.setCell hB.out (show g ≤ (⟨g, xn, none⟩ : Addr).block from Nat.le_refl _) (.bool true))
        have HS5 : Hid (∀ j : Nat, j < i + 1 → (us.set xn true).getD (colAt (colO l) j).toNat false = true) := fun j hj => set_hit (by
          by_cases hji : j = i
          · subst hji; right; rw [HX.out, Int.toNat_natCast]; exact ⟨rfl, xl⟩
          · left; exact hSet.out j (by omega))
        have HL5 : Hid ((us.set xn true).length = M) := by show _ = _; rw [List.length_set]; exact hUL.out
        have i1 : (0 : Int) ≤ (i : Int) := by omega
        have i2 : (i : Int) < (n : Int) := by omega
        have n1 : ¬ (M : Int) ≤ (xn : Int) := by omega
        have n2 : ¬ (xn : Int) < 0 := by omega
        clear hx x0 xl z9 hSet hUL
        go_upto_region 14 with fail
        obtain ⟨w5, hw5⟩ : ∃ W, wr.setCell ⟨g, xn, none⟩ (.bool true) = W := ⟨_, rfl⟩
        rw [hw5] at HU5 HB5
        try rw [hw5]
        have HBw5 : Hid (Below w.heap.size w w5) := HB3'.out.trans (HB5.out.mono hg3)
        have HBg5 : Hid (Below w3.heap.size w3 w5) := by show Below _ _ _; rw [hg]; exact HB5.out
        clear c5 z5 c9 hU hB hw5
        go_wp2_with fail
        go_loopw [3, 63] (fun vu vi ws => ∃ m : Nat, m ≤ i ∧ vu = .bool true ∧ vi = .int .i64 m ∧ Hid (Row ws g ((us.set xn true).map Value.bool)) ∧ Hid (Below w5.heap.size w5 ws)) (fun _ vi _ => i - (intOf vi).toNat)
        case atStart => exact ⟨0, Nat.zero_le _, rfl, rfl, HU5.out, Below.refl _ _⟩
        case round =>
          obtain ⟨m, hm, rfl, rfl, hUs, hBs⟩ := hrel
          have hws : Hid (Below w.heap.size w wr) := HBw5.out.trans (hBs.out.mono HBw5.out.size)
          by_cases hlm : m < i
          · obtain ⟨f, u, bl, ol, hx1, _, _, ha, _, c0, c1⟩ := (HS.out.below hws.out).get hlt
            subst ha
            obtain ⟨fm, um, b7, o7, hx2, _, _, ha2, _, e0, e1⟩ := (HS.out.below hws.out).get (show m < n by omega)
            cases ha2
            obtain ⟨b8, o8, xm, e8, _, cm, z8, _⟩ := (HV.out.below (HBg5.out.trans (hBs.out.mono HBg5.out.size))).get (show m < n by omega)
            cases e8
            have fi : frP l i = f ∧ unP l i = u := by simp only [frP, unP, Int.toNat_natCast, hx1.out, and_self]
            have fj : frP l m = fm ∧ unP l m = um := by simp only [frP, unP, Int.toNat_natCast, hx2.out, and_self]
            have hxm : colAt (colO l) m = xm := by rw [colAt_get]; exact z8.out
            have hap : meetB (f, u) (fm, um) = true → (xn : Int) ≠ xm := fun hm2 => by
              rw [← HX.out, ← hxm]
              refine col_apart HO.out (by omega) (by rw [HL.out]; omega) (by omega) (by rw [HL.out]; omega) (by omega) ?_
              simp only [meetB, Bool.and_eq_true, decide_eq_true_eq] at hm2
              rw [fi.1, fi.2, fj.1, fj.2]; exact hm2
            have HAP := Lib.hid hap
            have m1 : (0 : Int) ≤ (m : Int) := by omega
            have m2 : (m : Int) < (n : Int) := by omega
            have m3 : (m : Int) < (i : Int) := by omega
            clear hx1 hx2 z8 fi fj hxm hap
            obtain ⟨B, hB⟩ : ∃ B, meetB (f, u) (fm, um) = B := ⟨_, rfl⟩
            have HMB := Lib.hid hB
            cases B with
            | true =>
              have hne := HAP.out hB
              have hne2 : ((xn : Int) != xm) = true := by simpa using hne
              clear hB
              go_wp2_with fail
              refine AnyJ.beginP (fun w' : World => w'.cell? ⟨bl, ol + i * 2, none⟩ = some (.int .i64 f) ∧ w'.cell? ⟨bl, ol + i * 2 + 1, none⟩ = some (.int .i64 u) ∧ w'.cell? ⟨bl, ol + m * 2, none⟩ = some (.int .i64 fm) ∧ w'.cell? ⟨bl, ol + m * 2 + 1, none⟩ = some (.int .i64 um) ∧ w'.cell? ⟨bc, oc + m, none⟩ = some (.int .i64 xm)) (fun _ => true) (by kernel_rfl) ⟨c0, c1, e0, e1, cm⟩ (fun hS => ?_)
              refine AnyJ.takeD (i := 0) (d := some 66) (v := ?_) rfl (by kernel_rfl) (by kernel_rfl) (by kernel_rfl) (by kernel_rfl) (by kernel_rfl) (fun _ _ _ h => h) (Or.inl ⟨by kernel_rfl, ?_⟩) hS ?_
              rotate_left
              · intro w' hS
                obtain ⟨sF0, sF1, sF2, sF3, sF4⟩ := hS
                go_simp
                try with_reducible rfl
              refine AnyJ.takeD (i := 1) (d := some 67) (v := ?_) rfl (by kernel_rfl) (by kernel_rfl) (by kernel_rfl) (by kernel_rfl) (by kernel_rfl) (fun _ _ _ h => h) (Or.inl ⟨by kernel_rfl, ?_⟩) hS ?_
              rotate_left
              · intro w' hS
                obtain ⟨sF0, sF1, sF2, sF3, sF4⟩ := hS
                go_simp
                try with_reducible rfl
              refine AnyJ.takeD (i := 2) (d := some 68) (v := ?_) rfl (by kernel_rfl) (by kernel_rfl) (by kernel_rfl) (by kernel_rfl) (by kernel_rfl) (fun _ _ _ h => h) (Or.inl ⟨by kernel_rfl, ?_⟩) hS ?_
              rotate_left
              · intro w' hS
                obtain ⟨sF0, sF1, sF2, sF3, sF4⟩ := hS
                go_simp
                try with_reducible rfl
              refine AnyJ.takeD (i := 3) (d := some 69) (v := ?_) rfl (by kernel_rfl) (by kernel_rfl) (by kernel_rfl) (by kernel_rfl) (by kernel_rfl) (fun _ _ _ h => h) (Or.inl ⟨by kernel_rfl, ?_⟩) hS ?_
              rotate_left
              · intro w' hS
                obtain ⟨sF0, sF1, sF2, sF3, sF4⟩ := hS
                go_simp
                try with_reducible rfl
              refine AnyJ.takeD (i := 4) (d := some 70) (v := ?_) rfl (by kernel_rfl) (by kernel_rfl) (by kernel_rfl) (by kernel_rfl) (by kernel_rfl) (fun _ _ _ h => h) (Or.inl ⟨by kernel_rfl, ?_⟩) hS ?_
              rotate_left
              · intro w' hS
                obtain ⟨sF0, sF1, sF2, sF3, sF4⟩ := hS
                go_simp
                try with_reducible rfl
              refine AnyJ.takeD (i := 5) (d := some 71) (v := ?_) rfl (by kernel_rfl) (by kernel_rfl) (by kernel_rfl) (by kernel_rfl) (by kernel_rfl) (fun _ _ _ h => h) (Or.inl ⟨by kernel_rfl, ?_⟩) hS ?_
              rotate_left
              · intro w' hS
                obtain ⟨sF0, sF1, sF2, sF3, sF4⟩ := hS
                go_simp
                try with_reducible rfl
              refine AnyJ.takeD (i := 6) (d := some 72) (v := ?_) rfl (by kernel_rfl) (by kernel_rfl) (by kernel_rfl) (by kernel_rfl) (by kernel_rfl) (fun _ _ _ h => h) (Or.inl ⟨by kernel_rfl, ?_⟩) hS ?_
              rotate_left
              · intro w' hS
                obtain ⟨sF0, sF1, sF2, sF3, sF4⟩ := hS
                go_simp
                try with_reducible rfl
              refine AnyJ.takeD (i := 7) (d := some 73) (v := ?_) rfl (by kernel_rfl) (by kernel_rfl) (by kernel_rfl) (by kernel_rfl) (by kernel_rfl) (fun _ _ _ h => h) (Or.inl ⟨by kernel_rfl, ?_⟩) hS ?_
              rotate_left
              · intro w' hS
                obtain ⟨sF0, sF1, sF2, sF3, sF4⟩ := hS
                go_simp
                try with_reducible rfl
              refine AnyJ.takeD (i := 8) (d := some 74) (v := ?_) rfl (by kernel_rfl) (by kernel_rfl) (by kernel_rfl) (by kernel_rfl) (by kernel_rfl) (fun _ _ _ h => h) (Or.inl ⟨by kernel_rfl, ?_⟩) hS ?_
              rotate_left
              · intro w' hS
                obtain ⟨sF0, sF1, sF2, sF3, sF4⟩ := hS
                go_simp
                try with_reducible rfl
              refine AnyJ.takeD (i := 9) (d := some 75) (v := ?_) rfl (by kernel_rfl) (by kernel_rfl) (by kernel_rfl) (by kernel_rfl) (by kernel_rfl) (fun _ _ _ h => h) (Or.inl ⟨by kernel_rfl, ?_⟩) hS ?_
              rotate_left
              · intro w' hS
                obtain ⟨sF0, sF1, sF2, sF3, sF4⟩ := hS
                go_simp
                try with_reducible rfl
              refine AnyJ.one (i := 10) (by kernel_rfl) rfl (fun Kz hKz => ?_)
              go_simp
              refine (R_meet_any f u fm um _).mono ?_
              rintro e w9 ⟨rfl, hb9⟩
              rw [HMB.out]
              have hb9' : Below wr.heap.size wr w9 := (Below.refl _ wr).drew.trans hb9
              have hS9 : w9.cell? ⟨bl, ol + i * 2, none⟩ = some (.int .i64 f) ∧ w9.cell? ⟨bl, ol + i * 2 + 1, none⟩ = some (.int .i64 u) ∧ w9.cell? ⟨bl, ol + m * 2, none⟩ = some (.int .i64 fm) ∧ w9.cell? ⟨bl, ol + m * 2 + 1, none⟩ = some (.int .i64 um) ∧ w9.cell? ⟨bc, oc + m, none⟩ = some (.int .i64 xm) :=
                ⟨(hb9'.cell (p := ⟨bl, ol + i * 2, none⟩) (World.block_lt_of_cell? wr _ c0)).trans c0, (hb9'.cell (p := ⟨bl, ol + i * 2 + 1, none⟩) (World.block_lt_of_cell? wr _ c1)).trans c1, (hb9'.cell (p := ⟨bl, ol + m * 2, none⟩) (World.block_lt_of_cell? wr _ e0)).trans e0, (hb9'.cell (p := ⟨bl, ol + m * 2 + 1, none⟩) (World.block_lt_of_cell? wr _ e1)).trans e1, (hb9'.cell (p := ⟨bc, oc + m, none⟩) (World.block_lt_of_cell? wr _ cm)).trans cm⟩
              have HB9 := Lib.hid hb9'
              refine hKz _ _ (fun _ => hS9) ?_
              clear hKz Kz hS hb9 hb9' c0 c1 e0 e1 cm
              refine AnyJ.takeD (i := 11) (d := some 77) (v := ?_) rfl (by kernel_rfl) (by kernel_rfl) (by kernel_rfl) (by kernel_rfl) (by kernel_rfl) (fun _ _ _ h => h) (Or.inl ⟨by kernel_rfl, ?_⟩) hS9 ?_
              rotate_left
              · intro w' hS
                obtain ⟨sF0, sF1, sF2, sF3, sF4⟩ := hS
                go_simp
                try with_reducible rfl
              refine AnyJ.takeD (i := 12) (d := some 78) (v := ?_) rfl (by kernel_rfl) (by kernel_rfl) (by kernel_rfl) (by kernel_rfl) (by kernel_rfl) (fun _ _ _ h => h) (Or.inl ⟨by kernel_rfl, ?_⟩) hS9 ?_
              rotate_left
              · intro w' hS
                obtain ⟨sF0, sF1, sF2, sF3, sF4⟩ := hS
                go_simp
                try with_reducible rfl
              refine AnyJ.takeD (i := 13) (d := some 79) (v := ?_) rfl (by kernel_rfl) (by kernel_rfl) (by kernel_rfl) (by kernel_rfl) (by kernel_rfl) (fun _ _ _ h => h) (Or.inl ⟨by kernel_rfl, ?_⟩) hS9 ?_
              rotate_left
              · intro w' hS
                obtain ⟨sF0, sF1, sF2, sF3, sF4⟩ := hS
                go_simp
                try with_reducible rfl
              refine AnyJ.takeD (i := 14) (d := some 80) (v := ?_) rfl (by kernel_rfl) (by kernel_rfl) (by kernel_rfl) (by kernel_rfl) (by kernel_rfl) (fun _ _ _ h => h) (Or.inl ⟨by kernel_rfl, ?_⟩) hS9 ?_
              rotate_left
              · intro w' hS
                obtain ⟨sF0, sF1, sF2, sF3, sF4⟩ := hS
                go_simp
                try with_reducible rfl
              refine AnyJ.takeD (i := 15) (d := some 81) (v := ?_) rfl (by kernel_rfl) (by kernel_rfl) (by kernel_rfl) (by kernel_rfl) (by kernel_rfl) (fun _ _ _ h => h) (Or.inl ⟨by kernel_rfl, ?_⟩) hS9 ?_
              rotate_left
              · intro w' hS
                obtain ⟨sF0, sF1, sF2, sF3, sF4⟩ := hS
                go_simp
                try with_reducible rfl
              refine AnyJ.takeD (i := 16) (d := some 82) (v := ?_) rfl (by kernel_rfl) (by kernel_rfl) (by kernel_rfl) (by kernel_rfl) (by kernel_rfl) (fun _ _ _ h => h) (Or.inl ⟨by kernel_rfl, ?_⟩) hS9 ?_
              rotate_left
              · intro w' hS
                obtain ⟨sF0, sF1, sF2, sF3, sF4⟩ := hS
                go_simp
                try with_reducible rfl
              refine AnyJ.takeD (i := 17) (d := some 83) (v := ?_) rfl (by kernel_rfl) (by kernel_rfl) (by kernel_rfl) (by kernel_rfl) (by kernel_rfl) (fun _ _ _ h => h) (Or.inl ⟨by kernel_rfl, ?_⟩) hS9 ?_
              rotate_left
              · intro w' hS
                obtain ⟨sF0, sF1, sF2, sF3, sF4⟩ := hS
                go_simp
                try with_reducible rfl
              refine AnyJ.takeD (i := 18) (d := some 84) (v := ?_) rfl (by kernel_rfl) (by kernel_rfl) (by kernel_rfl) (by kernel_rfl) (by kernel_rfl) (fun _ _ _ h => h) (Or.inl ⟨by kernel_rfl, ?_⟩) hS9 ?_
              rotate_left
              · intro w' hS
                obtain ⟨sF0, sF1, sF2, sF3, sF4⟩ := hS
                go_simp
                try with_reducible rfl
              refine AnyJ.takeD (i := 19) (d := some 85) (v := ?_) rfl (by kernel_rfl) (by kernel_rfl) (by kernel_rfl) (by kernel_rfl) (by kernel_rfl) (fun _ _ _ h => h) (Or.inl ⟨by kernel_rfl, ?_⟩) hS9 ?_
              rotate_left
              · intro w' hS
                obtain ⟨sF0, sF1, sF2, sF3, sF4⟩ := hS
                go_simp
                try with_reducible rfl
              refine AnyJ.takeD (i := 20) (d := some 86) (v := ?_) rfl (by kernel_rfl) (by kernel_rfl) (by kernel_rfl) (by kernel_rfl) (by kernel_rfl) (fun _ _ _ h => h) (Or.inl ⟨by kernel_rfl, ?_⟩) hS9 ?_
              rotate_left
              · intro w' hS
                obtain ⟨sF0, sF1, sF2, sF3, sF4⟩ := hS
                go_simp
                try with_reducible rfl
              refine AnyJ.takeD (i := 21) (d := some 3) (v := ?_) rfl (by kernel_rfl) (by kernel_rfl) (by kernel_rfl) (by kernel_rfl) (by kernel_rfl) (fun _ _ _ h => h) (Or.inl ⟨by kernel_rfl, ?_⟩) hS9 ?_
              rotate_left
              · intro w' hS
                obtain ⟨sF0, sF1, sF2, sF3, sF4⟩ := hS
                go_simp
                try with_reducible rfl
              refine AnyJ.done (by kernel_rfl) ?_ _
              try simp only [Act.put, List.setIfInBounds_toArray, List.set_cons_zero, List.set_cons_succ]
              clear hS9
              go_wp2_with fail
              refine ⟨⟨m + 1, by omega, rfl, by go_num, hUs.out.step HB9.out, hBs.out.trans (HB9.out.mono hBs.out.size)⟩, ?_⟩
              simp [intOf]; omega
            | false =>
              clear hB HAP
              go_wp2_with fail
              refine AnyJ.beginP (fun w' : World => w'.cell? ⟨bl, ol + i * 2, none⟩ = some (.int .i64 f) ∧ w'.cell? ⟨bl, ol + i * 2 + 1, none⟩ = some (.int .i64 u) ∧ w'.cell? ⟨bl, ol + m * 2, none⟩ = some (.int .i64 fm) ∧ w'.cell? ⟨bl, ol + m * 2 + 1, none⟩ = some (.int .i64 um) ∧ w'.cell? ⟨bc, oc + m, none⟩ = some (.int .i64 xm)) (fun _ => true) (by kernel_rfl) ⟨c0, c1, e0, e1, cm⟩ (fun hS => ?_)
              refine AnyJ.takeD (i := 0) (d := some 66) (v := ?_) rfl (by kernel_rfl) (by kernel_rfl) (by kernel_rfl) (by kernel_rfl) (by kernel_rfl) (fun _ _ _ h => h) (Or.inl ⟨by kernel_rfl, ?_⟩) hS ?_
              rotate_left
              · intro w' hS
                obtain ⟨sF0, sF1, sF2, sF3, sF4⟩ := hS
                go_simp
                try with_reducible rfl
              refine AnyJ.takeD (i := 1) (d := some 67) (v := ?_) rfl (by kernel_rfl) (by kernel_rfl) (by kernel_rfl) (by kernel_rfl) (by kernel_rfl) (fun _ _ _ h => h) (Or.inl ⟨by kernel_rfl, ?_⟩) hS ?_
              rotate_left
              · intro w' hS
                obtain ⟨sF0, sF1, sF2, sF3, sF4⟩ := hS
                go_simp
                try with_reducible rfl
              refine AnyJ.takeD (i := 2) (d := some 68) (v := ?_) rfl (by kernel_rfl) (by kernel_rfl) (by kernel_rfl) (by kernel_rfl) (by kernel_rfl) (fun _ _ _ h => h) (Or.inl ⟨by kernel_rfl, ?_⟩) hS ?_
              rotate_left
              · intro w' hS
                obtain ⟨sF0, sF1, sF2, sF3, sF4⟩ := hS
                go_simp
                try with_reducible rfl
              refine AnyJ.takeD (i := 3) (d := some 69) (v := ?_) rfl (by kernel_rfl) (by kernel_rfl) (by kernel_rfl) (by kernel_rfl) (by kernel_rfl) (fun _ _ _ h => h) (Or.inl ⟨by kernel_rfl, ?_⟩) hS ?_
              rotate_left
              · intro w' hS
                obtain ⟨sF0, sF1, sF2, sF3, sF4⟩ := hS
                go_simp
                try with_reducible rfl
              refine AnyJ.takeD (i := 4) (d := some 70) (v := ?_) rfl (by kernel_rfl) (by kernel_rfl) (by kernel_rfl) (by kernel_rfl) (by kernel_rfl) (fun _ _ _ h => h) (Or.inl ⟨by kernel_rfl, ?_⟩) hS ?_
              rotate_left
              · intro w' hS
                obtain ⟨sF0, sF1, sF2, sF3, sF4⟩ := hS
                go_simp
                try with_reducible rfl
              refine AnyJ.takeD (i := 5) (d := some 71) (v := ?_) rfl (by kernel_rfl) (by kernel_rfl) (by kernel_rfl) (by kernel_rfl) (by kernel_rfl) (fun _ _ _ h => h) (Or.inl ⟨by kernel_rfl, ?_⟩) hS ?_
              rotate_left
              · intro w' hS
                obtain ⟨sF0, sF1, sF2, sF3, sF4⟩ := hS
                go_simp
                try with_reducible rfl
              refine AnyJ.takeD (i := 6) (d := some 72) (v := ?_) rfl (by kernel_rfl) (by kernel_rfl) (by kernel_rfl) (by kernel_rfl) (by kernel_rfl) (fun _ _ _ h => h) (Or.inl ⟨by kernel_rfl, ?_⟩) hS ?_
              rotate_left
              · intro w' hS
                obtain ⟨sF0, sF1, sF2, sF3, sF4⟩ := hS
                go_simp
                try with_reducible rfl
              refine AnyJ.takeD (i := 7) (d := some 73) (v := ?_) rfl (by kernel_rfl) (by kernel_rfl) (by kernel_rfl) (by kernel_rfl) (by kernel_rfl) (fun _ _ _ h => h) (Or.inl ⟨by kernel_rfl, ?_⟩) hS ?_
              rotate_left
              · intro w' hS
                obtain ⟨sF0, sF1, sF2, sF3, sF4⟩ := hS
                go_simp
                try with_reducible rfl
              refine AnyJ.takeD (i := 8) (d := some 74) (v := ?_) rfl (by kernel_rfl) (by kernel_rfl) (by kernel_rfl) (by kernel_rfl) (by kernel_rfl) (fun _ _ _ h => h) (Or.inl ⟨by kernel_rfl, ?_⟩) hS ?_
              rotate_left
              · intro w' hS
                obtain ⟨sF0, sF1, sF2, sF3, sF4⟩ := hS
                go_simp
                try with_reducible rfl
              refine AnyJ.takeD (i := 9) (d := some 75) (v := ?_) rfl (by kernel_rfl) (by kernel_rfl) (by kernel_rfl) (by kernel_rfl) (by kernel_rfl) (fun _ _ _ h => h) (Or.inl ⟨by kernel_rfl, ?_⟩) hS ?_
              rotate_left
              · intro w' hS
                obtain ⟨sF0, sF1, sF2, sF3, sF4⟩ := hS
                go_simp
                try with_reducible rfl
              refine AnyJ.one (i := 10) (by kernel_rfl) rfl (fun Kz hKz => ?_)
              go_simp
              refine (R_meet_any f u fm um _).mono ?_
              rintro e w9 ⟨rfl, hb9⟩
              rw [HMB.out]
              have hb9' : Below wr.heap.size wr w9 := (Below.refl _ wr).drew.trans hb9
              have hS9 : w9.cell? ⟨bl, ol + i * 2, none⟩ = some (.int .i64 f) ∧ w9.cell? ⟨bl, ol + i * 2 + 1, none⟩ = some (.int .i64 u) ∧ w9.cell? ⟨bl, ol + m * 2, none⟩ = some (.int .i64 fm) ∧ w9.cell? ⟨bl, ol + m * 2 + 1, none⟩ = some (.int .i64 um) ∧ w9.cell? ⟨bc, oc + m, none⟩ = some (.int .i64 xm) :=
                ⟨(hb9'.cell (p := ⟨bl, ol + i * 2, none⟩) (World.block_lt_of_cell? wr _ c0)).trans c0, (hb9'.cell (p := ⟨bl, ol + i * 2 + 1, none⟩) (World.block_lt_of_cell? wr _ c1)).trans c1, (hb9'.cell (p := ⟨bl, ol + m * 2, none⟩) (World.block_lt_of_cell? wr _ e0)).trans e0, (hb9'.cell (p := ⟨bl, ol + m * 2 + 1, none⟩) (World.block_lt_of_cell? wr _ e1)).trans e1, (hb9'.cell (p := ⟨bc, oc + m, none⟩) (World.block_lt_of_cell? wr _ cm)).trans cm⟩
              have HB9 := Lib.hid hb9'
              refine hKz _ _ (fun _ => hS9) ?_
              clear hKz Kz hS hb9 hb9' c0 c1 e0 e1 cm
              refine AnyJ.takeD (i := 11) (d := some 77) (v := ?_) rfl (by kernel_rfl) (by kernel_rfl) (by kernel_rfl) (by kernel_rfl) (by kernel_rfl) (fun _ _ _ h => h) (Or.inl ⟨by kernel_rfl, ?_⟩) hS9 ?_
              rotate_left
              · intro w' hS
                obtain ⟨sF0, sF1, sF2, sF3, sF4⟩ := hS
                go_simp
                try with_reducible rfl
              refine AnyJ.takeD (i := 12) (d := some 78) (v := ?_) rfl (by kernel_rfl) (by kernel_rfl) (by kernel_rfl) (by kernel_rfl) (by kernel_rfl) (fun _ _ _ h => h) (Or.inl ⟨by kernel_rfl, ?_⟩) hS9 ?_
              rotate_left
              · intro w' hS
                obtain ⟨sF0, sF1, sF2, sF3, sF4⟩ := hS
                go_simp
                try with_reducible rfl
              refine AnyJ.takeD (i := 13) (d := some 79) (v := undef) rfl (by kernel_rfl) (by kernel_rfl) (by kernel_rfl) (by kernel_rfl) (by kernel_rfl) (fun _ _ _ h => h) (Or.inr ⟨by kernel_rfl, rfl⟩) hS9 ?_
              refine AnyJ.takeD (i := 14) (d := some 80) (v := undef) rfl (by kernel_rfl) (by kernel_rfl) (by kernel_rfl) (by kernel_rfl) (by kernel_rfl) (fun _ _ _ h => h) (Or.inr ⟨by kernel_rfl, rfl⟩) hS9 ?_
              refine AnyJ.takeD (i := 15) (d := some 81) (v := undef) rfl (by kernel_rfl) (by kernel_rfl) (by kernel_rfl) (by kernel_rfl) (by kernel_rfl) (fun _ _ _ h => h) (Or.inr ⟨by kernel_rfl, rfl⟩) hS9 ?_
              refine AnyJ.takeD (i := 16) (d := some 82) (v := undef) rfl (by kernel_rfl) (by kernel_rfl) (by kernel_rfl) (by kernel_rfl) (by kernel_rfl) (fun _ _ _ h => h) (Or.inr ⟨by kernel_rfl, rfl⟩) hS9 ?_
              refine AnyJ.takeD (i := 17) (d := some 83) (v := undef) rfl (by kernel_rfl) (by kernel_rfl) (by kernel_rfl) (by kernel_rfl) (by kernel_rfl) (fun _ _ _ h => h) (Or.inr ⟨by kernel_rfl, rfl⟩) hS9 ?_
              refine AnyJ.takeD (i := 18) (d := some 84) (v := undef) rfl (by kernel_rfl) (by kernel_rfl) (by kernel_rfl) (by kernel_rfl) (by kernel_rfl) (fun _ _ _ h => h) (Or.inr ⟨by kernel_rfl, rfl⟩) hS9 ?_
              refine AnyJ.takeD (i := 19) (d := some 85) (v := ?_) rfl (by kernel_rfl) (by kernel_rfl) (by kernel_rfl) (by kernel_rfl) (by kernel_rfl) (fun _ _ _ h => h) (Or.inl ⟨by kernel_rfl, ?_⟩) hS9 ?_
              rotate_left
              · intro w' hS
                obtain ⟨sF0, sF1, sF2, sF3, sF4⟩ := hS
                go_simp
                try with_reducible rfl
              refine AnyJ.takeD (i := 20) (d := some 86) (v := ?_) rfl (by kernel_rfl) (by kernel_rfl) (by kernel_rfl) (by kernel_rfl) (by kernel_rfl) (fun _ _ _ h => h) (Or.inl ⟨by kernel_rfl, ?_⟩) hS9 ?_
              rotate_left
              · intro w' hS
                obtain ⟨sF0, sF1, sF2, sF3, sF4⟩ := hS
                go_simp
                try with_reducible rfl
              refine AnyJ.takeD (i := 21) (d := some 3) (v := ?_) rfl (by kernel_rfl) (by kernel_rfl) (by kernel_rfl) (by kernel_rfl) (by kernel_rfl) (fun _ _ _ h => h) (Or.inl ⟨by kernel_rfl, ?_⟩) hS9 ?_
              rotate_left
              · intro w' hS
                obtain ⟨sF0, sF1, sF2, sF3, sF4⟩ := hS
                go_simp
                try with_reducible rfl
              refine AnyJ.done (by kernel_rfl) ?_ _
              try simp only [Act.put, List.setIfInBounds_toArray, List.set_cons_zero, List.set_cons_succ]
              clear hS9
              go_wp2_with fail
              refine ⟨⟨m + 1, by omega, rfl, by go_num, hUs.out.step HB9.out, hBs.out.trans (HB9.out.mono hBs.out.size)⟩, ?_⟩
              simp [intOf]; omega
          · obtain rfl : i = m := by omega
            go_wp2_with fail
            refine ⟨⟨i + 1, _, by omega, rfl, by go_num, hUs.out, HL5.out, HS5.out, HB5.out.trans (hBs.out.mono (Nat.le_of_lt HU5.out.lt))⟩, ?_⟩
            simp [intOf]; omega
      · obtain rfl : n = i := by omega
        have HA : Hid (∀ c : Nat, c < M → us.getD c false = true) := fun c hc => by
          obtain ⟨j, j0, j1, j2⟩ := col_used HO.out (c := c) (by rw [HM.out]; exact hc)
          obtain ⟨jn, rfl⟩ := Int.eq_ofNat_of_zero_le j0
          have := hSet.out jn (by have := HL.out; omega)
          rwa [j2, Int.toNat_natCast] at this
        clear hSet
        go_wp2_with fail
        go_loopw [3, 91] (fun vu vi ws => ∃ m : Nat, m ≤ M ∧ vu = .bool true ∧ vi = .int .i64 m ∧ Hid (ws = wr)) (fun _ vi _ => M - (intOf vi).toNat)
        case atStart => exact ⟨0, Nat.zero_le _, rfl, rfl, rfl⟩
        case round =>
          obtain ⟨m, hm, rfl, rfl, hW⟩ := hrel
          have hW := hW.out
          subst hW
          by_cases hlm : m < M
          · have cm := cell_bool hU.out (show m < us.length by rw [hUL.out]; exact hlm)
            rw [HA.out m hlm] at cm
            have m1 : (0 : Int) ≤ (m : Int) := by omega
            have m2 : (m : Int) < (M : Int) := by omega
            have lg := hU.out.lt
            go_wp2_with fail
            go_roundw
            case rel => exact ⟨m + 1, by omega, rfl, by go_num, by first | rfl | exact trivial⟩
            case measure => simp [intOf]; omega
          · obtain rfl : M = m := by omega
            go_wp2_with fail
            go_ret
            exact ⟨rfl, hBw.out⟩
  · have HU := Lib.hid (show usS l = false by simpa using hu)
    clear hu
    go_enter Try.func4, Try.ntmps4
    go_wp2_with fail
    refine (c_head_any _).mono ?_
    rintro e w1 ⟨rfl, hb1⟩
    have HB1 : Below w.heap.size w w1 := by (repeat' (first | (with_reducible exact Below.refl _ _) | (with_reducible assumption) | (with_reducible exact Bw.out (by with_reducible assumption)) | (with_reducible refine bw_alloc ?_ _) | (with_reducible refine bw_step ?_ (by with_reducible assumption)) | (with_reducible refine Below.alloc ?_ ?_ _) | (with_reducible refine Below.drew ?_) | (with_reducible refine below_drewN ?_ _) | (with_reducible refine Below.setCell ?_ ?_ _) | (with_reducible refine below_step ?_ (by with_reducible assumption) ?_) | (with_reducible exact Nat.le_refl _) | omega | (simp; omega) | (simp; done)))
    go_wp2_with fail
    refine (usable_c a n cap l _ hn (HS.out.below (by (repeat' (first | (with_reducible exact Below.refl _ _) | (with_reducible assumption) | (with_reducible exact Bw.out (by with_reducible assumption)) | (with_reducible refine bw_alloc ?_ _) | (with_reducible refine bw_step ?_ (by with_reducible assumption)) | (with_reducible refine Below.alloc ?_ ?_ _) | (with_reducible refine Below.drew ?_) | (with_reducible refine below_drewN ?_ _) | (with_reducible refine Below.setCell ?_ ?_ _) | (with_reducible refine below_step ?_ (by with_reducible assumption) ?_) | (with_reducible exact Nat.le_refl _) | omega | (simp; omega) | (simp; done))))) false HU.out).mono ?_
    rintro e w2 ⟨rfl, hb2⟩
    have HB2 : Below w.heap.size w w2 := by (repeat' (first | (with_reducible exact Below.refl _ _) | (with_reducible assumption) | (with_reducible exact Bw.out (by with_reducible assumption)) | (with_reducible refine bw_alloc ?_ _) | (with_reducible refine bw_step ?_ (by with_reducible assumption)) | (with_reducible refine Below.alloc ?_ ?_ _) | (with_reducible refine Below.drew ?_) | (with_reducible refine below_drewN ?_ _) | (with_reducible refine Below.setCell ?_ ?_ _) | (with_reducible refine below_step ?_ (by with_reducible assumption) ?_) | (with_reducible exact Nat.le_refl _) | omega | (simp; omega) | (simp; done)))
    clear hb1 HB1
    go_wp2_with fail
    go_ret
    refine ⟨(by first | rfl | exact ret_bool (by first | rfl | (simp; done) | (simp; omega))), ?_⟩
    (repeat' (first | (with_reducible exact Below.refl _ _) | (with_reducible assumption) | (with_reducible exact Bw.out (by with_reducible assumption)) | (with_reducible refine bw_alloc ?_ _) | (with_reducible refine bw_step ?_ (by with_reducible assumption)) | (with_reducible refine Below.alloc ?_ ?_ _) | (with_reducible refine Below.drew ?_) | (with_reducible refine below_drewN ?_ _) | (with_reducible refine Below.setCell ?_ ?_ _) | (with_reducible refine below_step ?_ (by with_reducible assumption) ?_) | (with_reducible exact Nat.le_refl _) | omega | (simp; omega) | (simp; done)))


set_option maxRecDepth 100000 in
theorem colourApart_lifted (os : Os) (started : os.Started) (H : Type) (enc : TypeId × Value → H) :
    ReturnsInHanded {} Try.checked os 4 .any (Rows.colourApartSpec.pre6 enc Try.prog Try.f4 Rows.colourApartRow.domain false) (Rows.colourApartSpec.post enc Try.prog Try.f4 false true false false) := by
  refine returnsInHanded_of_change (C := Try.checked) own started (by kernel_rfl) Try.func4
    (ChangeSpec.witness6 (enc := enc) (C := Try.checked) false ⟨#[], #[.slice none 0 0], []⟩ 8 (by kernel_rfl) (by kernel_rfl) (by kernel_rfl) (by kernel_rfl)) ?_
  intro W base args ds gs before hval0 hW _ _
  have hval : ∀ (j : Nat) t v, Try.f4.params[j]? = some t → args[j]? = some v → Value.okWide Try.prog W .any base t v := hval0
  have hW' := hW
  obtain ⟨p, q, hA0, hV, rfl, hfz, hnd⟩ := hW
  obtain ⟨rfl, rfl⟩ := trodVars_none hV
  have hA : DataW.TrodAll enc Try.prog W 0 (fun _ => true) true Try.f4.params.toList args.toList ds p := hA0
  rw [Try.params4] at hA hval
  obtain ⟨v0, vs0, d0, ds0, p0, q0, hargs, rfl, rfl, h0, r0⟩ := trodAll_cons hA
  obtain ⟨rfl, rfl, rfl⟩ := trodAll_nil r0
  obtain rfl : args = #[v0] := by cases args; simp_all
  obtain ⟨a0_l, n0_l, c0_l, rfl⟩ := okWide_slice Try.underlying22 (hval 0 22 v0 rfl rfl)
  obtain ⟨fu_l, hf_l⟩ := h0
  obtain ⟨a_l, n_l, c_l, l_l, e_l, g1_l, g2_l, hs_l, wf_l⟩ := slp_of_spans (by simpa [Value.cells] using hf_l)
  cases e_l
  clear hA0 hval0
  refine (colourApart_walk _ _ _ l_l wf_l W ⟨hs_l, g1_l, g2_l⟩).mono fun e W' ⟨he, hb⟩ => ?_
  subst he
  exact ⟨_, rfl, law_post (B := 4) laidOut (by rw [Try.params4]; simp only [List.mem_cons, List.not_mem_nil, or_false, forall_eq_or_imp, forall_eq]; first | exact readable_colourApart | (repeat' apply And.intro) <;> first | exact of_decide_eq_true (by kernel_rfl) | kernel_rfl) rfl Try.underlying4 rfl rfl hW' hb⟩

theorem colourApart_over : Rows.colourApartRow.holds Try.pinned (OpenSpec.ofChange Rows.colourApartSpec) :=
  OpenClaim.holds_of_wide 4 Try.f4 rfl rfl rfl rfl rfl rfl rfl ⟨rfl, rfl, rfl, rfl, rfl⟩ rfl rfl rfl rfl rfl (by kernel_rfl) Try.func4 (by kernel_rfl)
    (of_decide_eq_true (by kernel_rfl)) (by unfold Func.isWrapper; first | (rw [if_pos (by decide +kernel)]; kernel_rfl) | (rw [if_neg (by decide +kernel)]; exact ⟨rfl, rfl⟩))
    (fun os started H enc _ => colourApart_lifted os started H enc)

theorem colourApart_holds : Rows.ColourApartSaid := colourApart_over
#print axioms colourApart_holds
end Go.Proofs.Ytbafhmlmibjgpaa
