/-
  The walk of package colour's Colours.
-/
import Derived.Test.YtbafhmlmibjgpaaColD
namespace Go.Proofs.Ytbafhmlmibjgpaa
set_option linter.unusedSimpArgs false
set_option linter.unusedVariables false
open Go.RowKit Go.Shelf

attribute [local go_sem] Oper.semAt_some

set_option maxRecDepth 100000 in
set_option maxHeartbeats 1600000 in
theorem Colours_err (a : Option Addr) (n cap : Nat) (l : List SpV) (w : World) (hm : n ≤ 9223372036854775807) (hs : SlP w a n l) (E : Int) (hE : chkE l = E) (h0 : E ≠ 0) :
    Calls Try.prog 11 #[.slice a n cap] w fun e w' => e = .returned (.tuple #[.slice none 0 0, .int .i64 0, .int .i64 E]) ∧ Below w.heap.size w w' := by
  have HS := Lib.hid hs
  have HE := Lib.hid hE
  have h1 : (E == 0) = false := by simpa using h0
  clear hs hE
  go_enter Try.func11, Try.ntmps11
  go_wp2_with fail
  refine (ccheck_any a n cap l _ hm (HS.out.below (by (repeat' (first | (with_reducible exact Below.refl _ _) | (with_reducible assumption) | (with_reducible exact Bw.out (by with_reducible assumption)) | (with_reducible refine bw_alloc ?_ _) | (with_reducible refine bw_step ?_ (by with_reducible assumption)) | (with_reducible refine Below.alloc ?_ ?_ _) | (with_reducible refine Below.drew ?_) | (with_reducible refine below_drewN ?_ _) | (with_reducible refine Below.setCell ?_ ?_ _) | (with_reducible refine below_step ?_ (by with_reducible assumption) ?_) | (with_reducible exact Nat.le_refl _) | omega | (simp; omega) | (simp; done))))) E HE.out).mono ?_
  rintro e w1 ⟨rfl, hb1⟩
  have R_b_1 : Row w1 (w.heap.size) [.slice a n cap] := by (repeat' (first | (with_reducible assumption) | (with_reducible refine Row.new' _ _ _ (by first | rfl | (simp; done) | omega)) | (with_reducible refine Row.alloc ?_ _) | (with_reducible refine Row.drew ?_) | (with_reducible refine Row.drewN ?_ _) | (with_reducible refine Row.step ?_ (by with_reducible assumption)) | (with_reducible refine Row.set2' ?_ _ _; first | exact ⟨_, _, by with_reducible assumption⟩ | exact ⟨_, _, Row.alloc (by with_reducible assumption) _⟩ | exact ⟨_, _, Row.alloc (Row.alloc (by with_reducible assumption) _) _⟩) | (with_reducible refine Row.other ?_ (by first | omega | (simp; done) | (simp; omega)) _)))
  have c_b_0_1 := R_b_1.cell 0 rfl
  have l_b_1 := R_b_1.lt
  have HB1 : Below w.heap.size w w1 := by (repeat' (first | (with_reducible exact Below.refl _ _) | (with_reducible assumption) | (with_reducible exact Bw.out (by with_reducible assumption)) | (with_reducible refine bw_alloc ?_ _) | (with_reducible refine bw_step ?_ (by with_reducible assumption)) | (with_reducible refine Below.alloc ?_ ?_ _) | (with_reducible refine Below.drew ?_) | (with_reducible refine below_drewN ?_ _) | (with_reducible refine Below.setCell ?_ ?_ _) | (with_reducible refine below_step ?_ (by with_reducible assumption) ?_) | (with_reducible exact Nat.le_refl _) | omega | (simp; omega) | (simp; done)))
  go_wp2_with fail
  go_ret3
  refine ⟨rfl, ?_⟩
  (repeat' (first | (with_reducible exact Below.refl _ _) | (with_reducible assumption) | (with_reducible exact Bw.out (by with_reducible assumption)) | (with_reducible refine bw_alloc ?_ _) | (with_reducible refine bw_step ?_ (by with_reducible assumption)) | (with_reducible refine Below.alloc ?_ ?_ _) | (with_reducible refine Below.drew ?_) | (with_reducible refine below_drewN ?_ _) | (with_reducible refine Below.setCell ?_ ?_ _) | (with_reducible refine below_step ?_ (by with_reducible assumption) ?_) | (with_reducible exact Nat.le_refl _) | omega | (simp; omega) | (simp; done)))

theorem OwnV.lowC {w : World} {b0 base : Nat} {v : Value} {zs : List Int} (h : OwnV w base v zs) (hb : b0 ≤ base) : OwnV w b0 v zs := by
  obtain ⟨h1, h2⟩ := h
  rcases h2 with h2 | ⟨g, cap, cur, e1, e2, e3⟩
  · exact ⟨h1, Or.inl h2⟩
  · exact ⟨h1, Or.inr ⟨g, cap, cur, e1, by omega, e3⟩⟩
theorem OwnV.blk {w w1 : World} {base : Nat} {v : Value} {zs : List Int} (h : OwnV w base v zs) (hb : ∀ g, v.ownBlock = some g → w1.heap[g]? = w.heap[g]?) : OwnV w1 base v zs := by
  obtain ⟨h1, h2⟩ := h
  refine ⟨h1, ?_⟩
  rcases h2 with h2 | ⟨g, cap, cur, e1, e2, e3, e4⟩
  · exact Or.inl h2
  · exact Or.inr ⟨g, cap, cur, e1, e2, (hb g (by rw [e1]; rfl)).trans e3, e4⟩
theorem OwnV.shape {w : World} {base : Nat} {ad : Option Addr} {n cap : Nat} {zs : List Int} (h : OwnV w base (.slice ad n cap) zs) : zs.length = n ∧ ((ad = none ∧ n = 0 ∧ cap = 0) ∨ ∃ g, ad = some ⟨g, 0, none⟩ ∧ base ≤ g ∧ g < w.heap.size) := by
  obtain ⟨h1, h2⟩ := h
  rcases h2 with ⟨h0, h3⟩ | ⟨g, cap', cur, e1, e2, e3, _⟩
  · simp only [Value.slice.injEq] at h0
    exact ⟨by omega, Or.inl h0⟩
  · simp only [Value.slice.injEq] at e1
    obtain ⟨rfl, rfl, rfl⟩ := e1
    exact ⟨rfl, Or.inr ⟨g, rfl, e2, (Array.getElem?_eq_some_iff.1 e3).1⟩⟩
theorem OwnV.sli {w : World} {base n cap : Nat} {a : Option Addr} {zs : List Int} (h : OwnV w base (.slice a n cap) zs) (hn : zs.length = n) : SlI w a n zs := by
  obtain ⟨ad, cp, e, h1, _, _⟩ := h.sl
  simp only [Value.slice.injEq] at e
  obtain ⟨rfl, rfl, rfl⟩ := e
  rw [hn] at h1
  exact h1
theorem OwnV.sizes {w : World} {base n cap : Nat} {a : Option Addr} {zs : List Int} (h : OwnV w base (.slice a n cap) zs) : n ≤ cap ∧ cap ≤ maxLen := by
  obtain ⟨ad, cp, e, _, h2, h3⟩ := h.sl
  simp only [Value.slice.injEq] at e
  obtain ⟨rfl, rfl, rfl⟩ := e
  exact ⟨h2, h3⟩
theorem OwnV.ownC {w : World} {base : Nat} {v : Value} {zs : List Int} (h : OwnV w base v zs) {c : Nat} (h0 : c < zs.length) :
    ∃ g cap, v = .slice (some ⟨g, 0, none⟩) zs.length cap ∧ base ≤ g ∧ OwnI w g zs ∧ zs.length ≤ cap ∧ cap ≤ maxLen := h.own (by omega)
theorem setC_frame {w : World} {p : Addr} {v : Value} {g : Nat} (h : g ≠ p.block) : (w.setCell p v).heap[g]? = w.heap[g]? := Below.heap_setCell _ _ _ _ h

set_option maxRecDepth 100000 in
set_option maxHeartbeats 6400000 in
theorem Colours_ok (a : Option Addr) (n cap : Nat) (l : List SpV) (w : World) (hm : n ≤ 3000) (hs : SlP w a n l) (hE : chkE l = 0) :
    Calls Try.prog 11 #[.slice a n cap] w fun e w' => ∃ v, e = .returned (.tuple #[v, .int .i64 (colE l).length, .int .i64 0]) ∧ OwnV w' w.heap.size v (colO l) ∧ Below w.heap.size w w' := by
  have HS := Lib.hid hs
  have HE := Lib.hid hE
  have HL := Lib.hid hs.1
  obtain ⟨i0, hi, hz0, hz1, hz2⟩ := info_parts info_int
  have HI := Lib.hid (And.intro hi (And.intro hz0 (And.intro hz1 hz2)))
  clear hs hE hi hz0 hz1 hz2
  go_enter Try.func11, Try.ntmps11
  go_wp2_with fail
  refine (ccheck_any a n cap l _ (by omega) (HS.out.below (by (repeat' (first | (with_reducible exact Below.refl _ _) | (with_reducible assumption) | (with_reducible exact Bw.out (by with_reducible assumption)) | (with_reducible refine bw_alloc ?_ _) | (with_reducible refine bw_step ?_ (by with_reducible assumption)) | (with_reducible refine Below.alloc ?_ ?_ _) | (with_reducible refine Below.drew ?_) | (with_reducible refine below_drewN ?_ _) | (with_reducible refine Below.setCell ?_ ?_ _) | (with_reducible refine below_step ?_ (by with_reducible assumption) ?_) | (with_reducible exact Nat.le_refl _) | omega | (simp; omega) | (simp; done))))) 0 HE.out).mono ?_
  rintro e w1 ⟨rfl, hb1⟩
  have R_b_1 : Row w1 (w.heap.size) [.slice a n cap] := by (repeat' (first | (with_reducible assumption) | (with_reducible refine Row.new' _ _ _ (by first | rfl | (simp; done) | omega)) | (with_reducible refine Row.alloc ?_ _) | (with_reducible refine Row.drew ?_) | (with_reducible refine Row.drewN ?_ _) | (with_reducible refine Row.step ?_ (by with_reducible assumption)) | (with_reducible refine Row.set2' ?_ _ _; first | exact ⟨_, _, by with_reducible assumption⟩ | exact ⟨_, _, Row.alloc (by with_reducible assumption) _⟩ | exact ⟨_, _, Row.alloc (Row.alloc (by with_reducible assumption) _) _⟩) | (with_reducible refine Row.other ?_ (by first | omega | (simp; done) | (simp; omega)) _)))
  have c_b_0_1 := R_b_1.cell 0 rfl
  have l_b_1 := R_b_1.lt
  have HB1 : Below w.heap.size w w1 := by (repeat' (first | (with_reducible exact Below.refl _ _) | (with_reducible assumption) | (with_reducible exact Bw.out (by with_reducible assumption)) | (with_reducible refine bw_alloc ?_ _) | (with_reducible refine bw_step ?_ (by with_reducible assumption)) | (with_reducible refine Below.alloc ?_ ?_ _) | (with_reducible refine Below.drew ?_) | (with_reducible refine below_drewN ?_ _) | (with_reducible refine Below.setCell ?_ ?_ _) | (with_reducible refine below_step ?_ (by with_reducible assumption) ?_) | (with_reducible exact Nat.le_refl _) | omega | (simp; omega) | (simp; done)))
  go_upto_region 5 with (refine wpList_make_row _ rfl _ _ 24 rfl 3 i0 (.int .i64 0) Try.underlying24 HI.out.1 HI.out.2.1 HI.out.2.2.1 rfl .i64 .i64 n rfl rfl (by rw [HI.out.2.2.2]; omega) (by omega) ?_)
  have hV2 := OwnV.zeros w1 (n := n) (by unfold maxLen; omega)
  have hb2 : Below w1.heap.size w1 (w1.alloc (.cells (madeCells #[.int .i64 0] n) 3)) := by (repeat' (first | (with_reducible exact Below.refl _ _) | (with_reducible assumption) | (with_reducible exact Bw.out (by with_reducible assumption)) | (with_reducible refine bw_alloc ?_ _) | (with_reducible refine bw_step ?_ (by with_reducible assumption)) | (with_reducible refine Below.alloc ?_ ?_ _) | (with_reducible refine Below.drew ?_) | (with_reducible refine below_drewN ?_ _) | (with_reducible refine Below.setCell ?_ ?_ _) | (with_reducible refine below_step ?_ (by with_reducible assumption) ?_) | (with_reducible exact Nat.le_refl _) | omega | (simp; omega) | (simp; done)))
  obtain ⟨w2, hw2⟩ : ∃ W, w1.alloc (.cells (madeCells #[.int .i64 0] n) 3) = W := ⟨_, rfl⟩
  rw [hw2] at hV2 hb2
  try rw [hw2]
  have R_b_2 : Row w2 (w.heap.size) [.slice a n cap] := by (repeat' (first | (with_reducible assumption) | (with_reducible refine Row.new' _ _ _ (by first | rfl | (simp; done) | omega)) | (with_reducible refine Row.alloc ?_ _) | (with_reducible refine Row.drew ?_) | (with_reducible refine Row.drewN ?_ _) | (with_reducible refine Row.step ?_ (by with_reducible assumption)) | (with_reducible refine Row.set2' ?_ _ _; first | exact ⟨_, _, by with_reducible assumption⟩ | exact ⟨_, _, Row.alloc (by with_reducible assumption) _⟩ | exact ⟨_, _, Row.alloc (Row.alloc (by with_reducible assumption) _) _⟩) | (with_reducible refine Row.other ?_ (by first | omega | (simp; done) | (simp; omega)) _)))
  have c_b_0_2 := R_b_2.cell 0 rfl
  have l_b_2 := R_b_2.lt
  have HB2 : Below w.heap.size w w2 := by (repeat' (first | (with_reducible exact Below.refl _ _) | (with_reducible assumption) | (with_reducible exact Bw.out (by with_reducible assumption)) | (with_reducible refine bw_alloc ?_ _) | (with_reducible refine bw_step ?_ (by with_reducible assumption)) | (with_reducible refine Below.alloc ?_ ?_ _) | (with_reducible refine Below.drew ?_) | (with_reducible refine below_drewN ?_ _) | (with_reducible refine Below.setCell ?_ ?_ _) | (with_reducible refine below_step ?_ (by with_reducible assumption) ?_) | (with_reducible exact Nat.le_refl _) | omega | (simp; omega) | (simp; done)))
  clear R_b_1 c_b_0_1 hb1 HB1
  have hgo : w1.heap.size < w2.heap.size := hV2.ownI.lt
  clear hw2
  go_wp2_with fail
  refine (order_any a n cap l _ (by omega) (HS.out.below (by (repeat' (first | (with_reducible exact Below.refl _ _) | (with_reducible assumption) | (with_reducible exact Bw.out (by with_reducible assumption)) | (with_reducible refine bw_alloc ?_ _) | (with_reducible refine bw_step ?_ (by with_reducible assumption)) | (with_reducible refine Below.alloc ?_ ?_ _) | (with_reducible refine Below.drew ?_) | (with_reducible refine below_drewN ?_ _) | (with_reducible refine Below.setCell ?_ ?_ _) | (with_reducible refine below_step ?_ (by with_reducible assumption) ?_) | (with_reducible exact Nat.le_refl _) | omega | (simp; omega) | (simp; done)))))).mono ?_
  rintro e w3 ⟨gb, rfl, hgb, HOB, hb3⟩
  have R_b_3 : Row w3 (w.heap.size) [.slice a n cap] := by (repeat' (first | (with_reducible assumption) | (with_reducible refine Row.new' _ _ _ (by first | rfl | (simp; done) | omega)) | (with_reducible refine Row.alloc ?_ _) | (with_reducible refine Row.drew ?_) | (with_reducible refine Row.drewN ?_ _) | (with_reducible refine Row.step ?_ (by with_reducible assumption)) | (with_reducible refine Row.set2' ?_ _ _; first | exact ⟨_, _, by with_reducible assumption⟩ | exact ⟨_, _, Row.alloc (by with_reducible assumption) _⟩ | exact ⟨_, _, Row.alloc (Row.alloc (by with_reducible assumption) _) _⟩) | (with_reducible refine Row.other ?_ (by first | omega | (simp; done) | (simp; omega)) _)))
  have c_b_0_3 := R_b_3.cell 0 rfl
  have l_b_3 := R_b_3.lt
  have HB3 : Below w.heap.size w w3 := by (repeat' (first | (with_reducible exact Below.refl _ _) | (with_reducible assumption) | (with_reducible exact Bw.out (by with_reducible assumption)) | (with_reducible refine bw_alloc ?_ _) | (with_reducible refine bw_step ?_ (by with_reducible assumption)) | (with_reducible refine Below.alloc ?_ ?_ _) | (with_reducible refine Below.drew ?_) | (with_reducible refine below_drewN ?_ _) | (with_reducible refine Below.setCell ?_ ?_ _) | (with_reducible refine below_step ?_ (by with_reducible assumption) ?_) | (with_reducible exact Nat.le_refl _) | omega | (simp; omega) | (simp; done)))
  clear R_b_2 c_b_0_2 hb2 HB2
  have hV3 := hV2.step hb3
  obtain ⟨go', hgo'⟩ : ∃ g, w1.heap.size = g := ⟨_, rfl⟩
  rw [hgo'] at hV3
  try rw [hgo'] at hgo
  try rw [hgo']
  have HV3 := Lib.hid hV3
  have HOB3 := Lib.hid HOB
  have HR3 := Lib.hid R_b_3
  have HB3' := Lib.hid HB3
  have hlb : w.heap.size < go' := by omega
  have hgb3 : gb < w3.heap.size := HOB.lt
  have hgogb : go' < gb := by omega
  clear hV2 hV3 HOB R_b_3 HB3 hb3 c_b_0_3
  go_wp2_with fail
  go_loopw [7, 22] (fun ve i wr => ∃ (k : Nat) (v : Value), k ≤ n ∧ i = .int .i64 k ∧ v = ve ∧ Hid (OwnV wr w3.heap.size v (colK l k).1) ∧ Hid (OwnV wr go' (.slice (some ⟨go', 0, none⟩) n n) (colK l k).2) ∧ Hid (OwnI wr gb (ordL l)) ∧ Hid (Below go' w3 wr)) (fun _ i _ => n - (intOf i).toNat)
  case atStart => exact ⟨0, .slice none 0 0, Nat.zero_le _, rfl, rfl, by show OwnV _ _ _ _; simpa [colK] using OwnV.nil w3 w3.heap.size, by show OwnV _ _ _ _; rw [show (colK l 0).2 = List.replicate n 0 by simp [colK, HL.out]]; exact HV3.out, HOB3.out, Below.refl _ _⟩
  case round =>
    obtain ⟨k, v, hk, rfl, rfl, hE1, hO, hOB, hB⟩ := hrel
    have hsz := hB.out.size
    have hBw : Hid (Below w.heap.size w wr) := HB3'.out.trans (hB.out.mono (by omega))
    by_cases hlt : k < n
    · obtain ⟨E, hEd⟩ : ∃ E, (colK l k).1 = E := ⟨_, rfl⟩
      obtain ⟨O, hOd⟩ : ∃ E, (colK l k).2 = E := ⟨_, rfl⟩
      have hlen := colK_length l k (by have := HL.out; omega)
      rw [hEd, hOd] at hlen
      have hke : k < (ordL l).length := by rw [ordL_length, HL.out]; exact hlt
      obtain ⟨i, hi0⟩ := Int.eq_ofNat_of_zero_le (ordL_mem.1 (show (ordL l).getD k 0 ∈ ordL l by simp [List.getD, hke])).1
      have hin : i < n := by have := (ordL_mem.1 (show (ordL l).getD k 0 ∈ ordL l by simp [List.getD, hke])).2; have := HL.out; omega
      have HKS : Hid (colK l (k + 1) = colS l (E, O) i) := by
        show _ = _
        rw [colK_succ (by have := HL.out; omega), hi0, ← hEd, ← hOd]
      have cby := hOB.out.cell hke
      rw [hi0] at cby
      have hE2 := hE1.out
      have hO2 := hO.out
      rw [hEd] at hE2
      rw [hOd] at hO2
      obtain ⟨ae, ce, rfl, hE3⟩ := hE2.form2
      obtain ⟨m, hm1⟩ : ∃ m, E.length = m := ⟨_, rfl⟩
      rw [hm1] at hE3 hlen
      try rw [hm1] at hE2
      try rw [hm1]
      have hm2 : m ≤ 3000 := by omega
      have hRb := HR3.out.below hB.out (by omega)
      have hSl : SlP wr a n l := HS.out.below hBw.out
      have i1 : (0 : Int) ≤ (k : Int) := by omega
      have i2 : (k : Int) < (n : Int) := by omega
      have hal : Below wr.heap.size wr (wr.alloc (.cells #[.int .i64 i] 3)) := by (repeat' (first | (with_reducible exact Below.refl _ _) | (with_reducible assumption) | (with_reducible exact Bw.out (by with_reducible assumption)) | (with_reducible refine bw_alloc ?_ _) | (with_reducible refine bw_step ?_ (by with_reducible assumption)) | (with_reducible refine Below.alloc ?_ ?_ _) | (with_reducible refine Below.drew ?_) | (with_reducible refine below_drewN ?_ _) | (with_reducible refine Below.setCell ?_ ?_ _) | (with_reducible refine below_step ?_ (by with_reducible assumption) ?_) | (with_reducible exact Nat.le_refl _) | omega | (simp; omega) | (simp; done)))
      have hE4 := hE3.step hal
      have hO4 := hO2.step hal
      have hOB4 := hOB.out.step hal
      have hRb4 := hRb.step hal
      have hSl4 := hSl.below hal
      have hQ4 : Row (wr.alloc (.cells #[.int .i64 i] 3)) wr.heap.size [.int .i64 i] := Row.new' _ _ _ rfl
      have hB4 : Below go' w3 (wr.alloc (.cells #[.int .i64 i] 3)) := hB.out.trans (hal.mono (by omega))
      have hs4 : (wr.alloc (.cells #[.int .i64 i] 3)).heap.size = wr.heap.size + 1 := by simp
      clear hE1 hO hOB hE2 hO2 hE3 hRb hSl hal
      go_upto_region 9 with fail
      obtain ⟨w4, hw4⟩ : ∃ W, wr.alloc (.cells #[.int .i64 i] 3) = W := ⟨_, rfl⟩
      rw [hw4] at hE4 hO4 hOB4 hRb4 hSl4 hQ4 hB4 hs4
      try rw [hw4]
      obtain ⟨q, hq⟩ : ∃ q, wr.heap.size = q := ⟨_, rfl⟩
      rw [hq] at hQ4 hs4 hsz
      try rw [hq]
      have HQ4 := Lib.hid hQ4
      have HE4 := Lib.hid hE4
      have HO4 := Lib.hid hO4
      have HOB4 := Lib.hid hOB4
      have HRb4 := Lib.hid hRb4
      have HSl4 := Lib.hid hSl4
      have HB4 := Lib.hid hB4
      have HS4 := Lib.hid hs4
      have HM1 := Lib.hid hm1
      have HLO := Lib.hid hlen.2
      clear hw4 hq hE4 hO4 hOB4 hRb4 hSl4 hQ4 hB4 hs4 hm1 hEd hOd hi0 hke hB hBw cby hlen
      go_wp2_with fail
      refine (index_colours ae m ce E i n cap a l w.heap.size q _ (by omega) (HE4.out.sli HM1.out) HSl4.out hin (HRb4.out.cell 0 rfl) (HQ4.out.cell 0 rfl)).mono ?_
      rintro e w' ⟨rfl, rfl⟩
      rcases idxF_cases (frP l i) E 0 with ⟨hc, _⟩ | ⟨c, hc, hcl, _, _⟩
      · have HC : Hid (colK l (k + 1) = (E ++ [unP l i], O.set i (m : Int))) := by
          show _ = _
          rw [HKS.out]
          unfold colS
          rw [hc, if_pos (by omega), Int.toNat_natCast, HM1.out]
        rw [hc]
        have hmc := HE4.out.sizes.1
        have hmx := HE4.out.sizes.2
        unfold maxLen at hmx
        rcases HE4.out.shape.2 with ⟨rfl, rfl, rfl⟩ | ⟨ge, rfl, _, _⟩
        · go_upto_region 12 with (at_builtin; refine wpList_grow_int rfl _ _ _ rfl Try.underlying24 none 0 E rfl (fun _ => rfl) (HE4.out.alloc _ |>.sli HM1.out) w4.heap.size 1 0 rfl ((Row.new' w4 [_] _ rfl).cell 0 rfl) (by omega) ?_; intro v' w5 hown hbl)
          have hcl : (0 : Nat) < (E ++ [(0 : Int)]).length := by simp
          have hEE : (E ++ [(0 : Int)]).set 0 (unP l i) = E ++ [unP l i] := by rw [List.eq_nil_of_length_eq_zero HM1.out]; rfl
          obtain ⟨ge5, cp5, rfl, hg5, hO5I, _, _⟩ := hown.ownC hcl
          have hE5 : OwnV w5 w3.heap.size (.slice (some ⟨ge5, 0, none⟩) (E ++ [(0 : Int)]).length cp5) (E ++ [(0 : Int)]) := hown.lowC (by have := HS4.out; simp; omega)
          have hal5 : Below w4.heap.size w4 w5 := ((Below.refl w4.heap.size w4).alloc (Nat.le_refl _) _).trans (hbl.mono (by simp))
          obtain ⟨m5, hm5⟩ : ∃ m5, (E ++ [(0 : Int)]).length = m5 := ⟨_, rfl⟩
          rw [hm5] at hE5 hcl ⊢
          obtain ⟨E5, hE5d⟩ : ∃ E5, E ++ [(0 : Int)] = E5 := ⟨_, rfl⟩
          rw [hE5d] at hE5 hEE hm5
          have HEE := Lib.hid hEE
          have HE5 := Lib.hid hE5
          have HM5 := Lib.hid hm5
          have HO5 := Lib.hid (HO4.out.step hal5)
          have HOB5 := Lib.hid (HOB4.out.step hal5)
          have HRb5 := Lib.hid (HRb4.out.step hal5)
          have HSl5 := Lib.hid (HSl4.out.below hal5)
          have HQ5 := Lib.hid (HQ4.out.step hal5)
          have HB5 : Hid (Below go' w3 w5) := HB4.out.trans (hal5.mono (by have := HS4.out; omega))
          have hge5 : w3.heap.size ≤ ge5 := by have := HS4.out; simp at hg5; omega
          clear hown hbl hal5 hO5I hE5 hEE hE5d hm5 hg5 HE4 HO4 HOB4 HRb4 HSl4 HQ4 HB4
          obtain ⟨fi, ui, bl, ol, hx, _, _, ha, hbl2, cf, cu⟩ := HSl5.out.get hin
          subst ha
          have HUN : Hid (unP l i = ui) := by show _ = _; unfold unP; rw [Int.toNat_natCast, hx.out]
          have hci : ((0 : Int) ≤ ((0 : Nat) : Int)) := by omega
          have hci2 : (((0 : Nat) : Int) < (m5 : Int)) := by omega
          have hii : (0 : Int) ≤ (i : Int) := by omega
          have hii2 : (i : Int) < (n : Int) := by omega
          have hS : w5.cell? ⟨q, 0, none⟩ = some (.int .i64 i) ∧ w5.cell? ⟨w.heap.size, 0, none⟩ = some (.slice (some ⟨bl, ol, none⟩) n cap) ∧ w5.cell? ⟨bl, ol + i * 2 + 1, none⟩ = some (.int .i64 ui) := ⟨HQ5.out.cell 0 rfl, HRb5.out.cell 0 rfl, cu⟩
          clear hx cf hbl2 cu
          refine AnyJ.beginP (fun w' : World => w'.cell? ⟨q, 0, none⟩ = some (.int .i64 i) ∧ w'.cell? ⟨w.heap.size, 0, none⟩ = some (.slice (some ⟨bl, ol, none⟩) n cap) ∧ w'.cell? ⟨bl, ol + i * 2 + 1, none⟩ = some (.int .i64 ui)) (fun j => decide (j ≤ 12)) (by kernel_rfl) hS (fun hS => ?_)
          refine AnyJ.takeD (i := 0) (d := some 41) (v := ?_) rfl (by kernel_rfl) (by kernel_rfl) (by kernel_rfl) (by kernel_rfl) (by kernel_rfl) (fun _ _ _ h => h) (Or.inl ⟨by kernel_rfl, ?_⟩) hS ?_
          rotate_left
          · intro w' hS
            obtain ⟨sF0, sF1, sF2⟩ := hS
            go_simp
            try with_reducible rfl
          refine AnyJ.takeD (i := 1) (d := some 42) (v := ?_) rfl (by kernel_rfl) (by kernel_rfl) (by kernel_rfl) (by kernel_rfl) (by kernel_rfl) (fun _ _ _ h => h) (Or.inl ⟨by kernel_rfl, ?_⟩) hS ?_
          rotate_left
          · intro w' hS
            obtain ⟨sF0, sF1, sF2⟩ := hS
            go_simp
            try with_reducible rfl
          refine AnyJ.takeD (i := 2) (d := some 43) (v := ?_) rfl (by kernel_rfl) (by kernel_rfl) (by kernel_rfl) (by kernel_rfl) (by kernel_rfl) (fun _ _ _ h => h) (Or.inl ⟨by kernel_rfl, ?_⟩) hS ?_
          rotate_left
          · intro w' hS
            obtain ⟨sF0, sF1, sF2⟩ := hS
            go_simp
            try with_reducible rfl
          refine AnyJ.takeD (i := 3) (d := some 44) (v := ?_) rfl (by kernel_rfl) (by kernel_rfl) (by kernel_rfl) (by kernel_rfl) (by kernel_rfl) (fun _ _ _ h => h) (Or.inl ⟨by kernel_rfl, ?_⟩) hS ?_
          rotate_left
          · intro w' hS
            obtain ⟨sF0, sF1, sF2⟩ := hS
            go_simp
            try with_reducible rfl
          refine AnyJ.takeD (i := 4) (d := some 45) (v := ?_) rfl (by kernel_rfl) (by kernel_rfl) (by kernel_rfl) (by kernel_rfl) (by kernel_rfl) (fun _ _ _ h => h) (Or.inl ⟨by kernel_rfl, ?_⟩) hS ?_
          rotate_left
          · intro w' hS
            obtain ⟨sF0, sF1, sF2⟩ := hS
            go_simp
            try with_reducible rfl
          refine AnyJ.takeD (i := 5) (d := some 46) (v := ?_) rfl (by kernel_rfl) (by kernel_rfl) (by kernel_rfl) (by kernel_rfl) (by kernel_rfl) (fun _ _ _ h => h) (Or.inl ⟨by kernel_rfl, ?_⟩) hS ?_
          rotate_left
          · intro w' hS
            obtain ⟨sF0, sF1, sF2⟩ := hS
            go_simp
            try with_reducible rfl
          refine AnyJ.takeD (i := 6) (d := some 47) (v := ?_) rfl (by kernel_rfl) (by kernel_rfl) (by kernel_rfl) (by kernel_rfl) (by kernel_rfl) (fun _ _ _ h => h) (Or.inl ⟨by kernel_rfl, ?_⟩) hS ?_
          rotate_left
          · intro w' hS
            obtain ⟨sF0, sF1, sF2⟩ := hS
            go_simp
            try with_reducible rfl
          refine AnyJ.takeD (i := 7) (d := some 48) (v := ?_) rfl (by kernel_rfl) (by kernel_rfl) (by kernel_rfl) (by kernel_rfl) (by kernel_rfl) (fun _ _ _ h => h) (Or.inl ⟨by kernel_rfl, ?_⟩) hS ?_
          rotate_left
          · intro w' hS
            obtain ⟨sF0, sF1, sF2⟩ := hS
            go_simp
            try with_reducible rfl
          refine AnyJ.takeD (i := 8) (d := some 49) (v := ?_) rfl (by kernel_rfl) (by kernel_rfl) (by kernel_rfl) (by kernel_rfl) (by kernel_rfl) (fun _ _ _ h => h) (Or.inl ⟨by kernel_rfl, ?_⟩) hS ?_
          rotate_left
          · intro w' hS
            obtain ⟨sF0, sF1, sF2⟩ := hS
            go_simp
            try with_reducible rfl
          refine AnyJ.takeD (i := 9) (d := some 50) (v := ?_) rfl (by kernel_rfl) (by kernel_rfl) (by kernel_rfl) (by kernel_rfl) (by kernel_rfl) (fun _ _ _ h => h) (Or.inl ⟨by kernel_rfl, ?_⟩) hS ?_
          rotate_left
          · intro w' hS
            obtain ⟨sF0, sF1, sF2⟩ := hS
            go_simp
            try with_reducible rfl
          refine AnyJ.takeD (i := 10) (d := some 51) (v := ?_) rfl (by kernel_rfl) (by kernel_rfl) (by kernel_rfl) (by kernel_rfl) (by kernel_rfl) (fun _ _ _ h => h) (Or.inl ⟨by kernel_rfl, ?_⟩) hS ?_
          rotate_left
          · intro w' hS
            obtain ⟨sF0, sF1, sF2⟩ := hS
            go_simp
            try with_reducible rfl
          have hil : i < O.length := by rw [HLO.out, HL.out]; exact hin
          have oz := HO5.out.ownI.frozen i
          have oc := HO5.out.ownI.cell hil
          have ol' := HO5.out.ownI.lt
          refine AnyJ.one (i := 11) (by kernel_rfl) rfl (fun Kz hKz => ?_)
          go_simp
          obtain ⟨w6, hw6⟩ : ∃ W, (w5.setCell ⟨go', i, none⟩ (.int .i64 0)).drew = W := ⟨_, rfl⟩
          rw [hw6]
          have hgq : go' < q := by omega
          have hO6 : OwnV w6 go' (.slice (some ⟨go', 0, none⟩) n n) (O.set i 0) := by rw [← hw6]; exact HO5.out.setC hil _
          have fr6 : ∀ g, g ≠ go' → w6.heap[g]? = w5.heap[g]? := fun g hg => by rw [← hw6]; exact setC_frame hg
          have hE6 : OwnV w6 w3.heap.size (.slice (some ⟨ge5, 0, none⟩) m5 cp5) E5 := HE5.out.blk (fun g hg => fr6 g (by simp [Value.ownBlock] at hg; omega))
          have hOB6 : OwnI w6 gb (ordL l) := HOB5.out.of_block (fr6 gb (by omega))
          have hRb6 : Row w6 w.heap.size [.slice (some ⟨bl, ol, none⟩) n cap] := HRb5.out.of_block (fr6 _ (by omega))
          have hQ6 : Row w6 q [.int .i64 i] := HQ5.out.of_block (fr6 q (by omega))
          have hB6 : Below go' w3 w6 := by rw [← hw6]; exact (Below.setCell HB5.out (Nat.le_refl _) _).drew
          have hS6 : w6.cell? ⟨q, 0, none⟩ = some (.int .i64 i) ∧ w6.cell? ⟨w.heap.size, 0, none⟩ = some (.slice (some ⟨bl, ol, none⟩) n cap) ∧ w6.cell? ⟨bl, ol + i * 2 + 1, none⟩ = some (.int .i64 ui) := by
            refine ⟨hQ6.cell 0 rfl, hRb6.cell 0 rfl, ?_⟩
            have h1 := hS.2.2
            have hb1 : bl < w.heap.size := by
              obtain ⟨_, _, b9, o9, _, _, _, e9, h9, _, _⟩ := HS.out.get hin
              cases e9
              exact h9
            rw [← h1]
            exact World.cell?_of_block (fr6 bl (by omega))
          have HO6 := Lib.hid hO6
          have HE6 := Lib.hid hE6
          have HOB6 := Lib.hid hOB6
          have HB6 := Lib.hid hB6
          refine hKz _ _ (fun _ => hS6) ?_
          clear hKz Kz hw6 hO6 hOB6 hRb6 hQ6 hB6 hE6 oz oc ol' HO5 HE5 HOB5 HB5 HRb5 HQ5 fr6 hS
          refine AnyJ.takeD (i := 12) (d := some 52) (v := ?_) rfl (by kernel_rfl) (by kernel_rfl) (by kernel_rfl) (by kernel_rfl) (by kernel_rfl) (fun _ _ _ h => h) (Or.inl ⟨by kernel_rfl, ?_⟩) hS6 ?_
          rotate_left
          · intro w' hS
            clear hS
            go_simp
            try with_reducible rfl
          have ez := HE6.out.ownI.frozen 0
          have ec := HE6.out.ownI.cell (i := 0) (by rw [HM5.out]; exact hcl)
          have el := HE6.out.ownI.lt
          refine AnyJ.one (i := 13) (by kernel_rfl) rfl (fun Kz hKz => ?_)
          go_simp
          obtain ⟨w7, hw7⟩ : ∃ W, w6.setCell ⟨ge5, 0, none⟩ (.int .i64 ui) = W := ⟨_, rfl⟩
          rw [hw7]
          have hE7 : OwnV w7 w3.heap.size (.slice (some ⟨ge5, 0, none⟩) m5 cp5) (colK l (k + 1)).1 := by
            rw [HC.out, ← hw7]
            show OwnV _ _ _ (E ++ [unP l i])
            first | rw [← HEE.out, HUN.out] | rw [HUN.out]
            exact HE6.out.setC (by rw [HM5.out]; exact hcl) _
          have fr7 : ∀ g, g ≠ ge5 → w7.heap[g]? = w6.heap[g]? := fun g hg => by rw [← hw7]; exact setC_frame hg
          have hO7 : OwnV w7 go' (.slice (some ⟨go', 0, none⟩) n n) (colK l (k + 1)).2 := by
            rw [HC.out]
            exact HO6.out.blk (fun g hg => fr7 g (by simp [Value.ownBlock] at hg; omega))
          have hOB7 : OwnI w7 gb (ordL l) := HOB6.out.of_block (fr7 gb (by omega))
          have hB7 : Below go' w3 w7 := by rw [← hw7]; exact Below.setCell HB6.out (show go' ≤ ge5 by omega) _
          have HE7 := Lib.hid hE7
          have HO7 := Lib.hid hO7
          have HOB7 := Lib.hid hOB7
          have HB7 := Lib.hid hB7
          refine hKz _ _ (fun h => by simp at h) ?_
          clear hKz Kz hw7 hE7 hO7 hOB7 hB7 fr7 ez ec el hS6 HE6 HO6 HOB6 HB6
          refine AnyJ.done (by kernel_rfl) ?_ _
          try simp only [Act.put, List.setIfInBounds_toArray, List.set_cons_zero, List.set_cons_succ]
          go_wp2_with fail
          go_roundw
          case rel => exact ⟨k + 1, .slice (some ⟨ge5, 0, none⟩) m5 cp5, by omega, by go_num, rfl, HE7.out, HO7.out, HOB7.out, HB7.out⟩
          case measure => simp [intOf]; omega
        · go_upto_region 12 with (at_builtin; refine wpList_grow_int rfl _ _ _ rfl Try.underlying24 (some ⟨ge, 0, none⟩) m E rfl (fun e => by cases e) (HE4.out.alloc _ |>.sli HM1.out) w4.heap.size 1 0 rfl ((Row.new' w4 [_] _ rfl).cell 0 rfl) (by omega) ?_; intro v' w5 hown hbl)
          have hcl : m < (E ++ [(0 : Int)]).length := by rw [List.length_append, HM1.out]; simp
          have hEE : (E ++ [(0 : Int)]).set m (unP l i) = E ++ [unP l i] := by rw [List.set_append_right _ _ (by rw [HM1.out]; exact Nat.le_refl _), HM1.out, Nat.sub_self]; rfl
          obtain ⟨ge5, cp5, rfl, hg5, hO5I, _, _⟩ := hown.ownC hcl
          have hE5 : OwnV w5 w3.heap.size (.slice (some ⟨ge5, 0, none⟩) (E ++ [(0 : Int)]).length cp5) (E ++ [(0 : Int)]) := hown.lowC (by have := HS4.out; simp; omega)
          have hal5 : Below w4.heap.size w4 w5 := ((Below.refl w4.heap.size w4).alloc (Nat.le_refl _) _).trans (hbl.mono (by simp))
          obtain ⟨m5, hm5⟩ : ∃ m5, (E ++ [(0 : Int)]).length = m5 := ⟨_, rfl⟩
          rw [hm5] at hE5 hcl ⊢
          obtain ⟨E5, hE5d⟩ : ∃ E5, E ++ [(0 : Int)] = E5 := ⟨_, rfl⟩
          rw [hE5d] at hE5 hEE hm5
          have HEE := Lib.hid hEE
          have HE5 := Lib.hid hE5
          have HM5 := Lib.hid hm5
          have HO5 := Lib.hid (HO4.out.step hal5)
          have HOB5 := Lib.hid (HOB4.out.step hal5)
          have HRb5 := Lib.hid (HRb4.out.step hal5)
          have HSl5 := Lib.hid (HSl4.out.below hal5)
          have HQ5 := Lib.hid (HQ4.out.step hal5)
          have HB5 : Hid (Below go' w3 w5) := HB4.out.trans (hal5.mono (by have := HS4.out; omega))
          have hge5 : w3.heap.size ≤ ge5 := by have := HS4.out; simp at hg5; omega
          clear hown hbl hal5 hO5I hE5 hEE hE5d hm5 hg5 HE4 HO4 HOB4 HRb4 HSl4 HQ4 HB4
          obtain ⟨fi, ui, bl, ol, hx, _, _, ha, hbl2, cf, cu⟩ := HSl5.out.get hin
          subst ha
          have HUN : Hid (unP l i = ui) := by show _ = _; unfold unP; rw [Int.toNat_natCast, hx.out]
          have hci : ((0 : Int) ≤ ((m : Nat) : Int)) := by omega
          have hci2 : (((m : Nat) : Int) < (m5 : Int)) := by omega
          have hii : (0 : Int) ≤ (i : Int) := by omega
          have hii2 : (i : Int) < (n : Int) := by omega
          have hS : w5.cell? ⟨q, 0, none⟩ = some (.int .i64 i) ∧ w5.cell? ⟨w.heap.size, 0, none⟩ = some (.slice (some ⟨bl, ol, none⟩) n cap) ∧ w5.cell? ⟨bl, ol + i * 2 + 1, none⟩ = some (.int .i64 ui) := ⟨HQ5.out.cell 0 rfl, HRb5.out.cell 0 rfl, cu⟩
          clear hx cf hbl2 cu
          refine AnyJ.beginP (fun w' : World => w'.cell? ⟨q, 0, none⟩ = some (.int .i64 i) ∧ w'.cell? ⟨w.heap.size, 0, none⟩ = some (.slice (some ⟨bl, ol, none⟩) n cap) ∧ w'.cell? ⟨bl, ol + i * 2 + 1, none⟩ = some (.int .i64 ui)) (fun j => decide (j ≤ 12)) (by kernel_rfl) hS (fun hS => ?_)
          refine AnyJ.takeD (i := 0) (d := some 41) (v := ?_) rfl (by kernel_rfl) (by kernel_rfl) (by kernel_rfl) (by kernel_rfl) (by kernel_rfl) (fun _ _ _ h => h) (Or.inl ⟨by kernel_rfl, ?_⟩) hS ?_
          rotate_left
          · intro w' hS
            obtain ⟨sF0, sF1, sF2⟩ := hS
            go_simp
            try with_reducible rfl
          refine AnyJ.takeD (i := 1) (d := some 42) (v := ?_) rfl (by kernel_rfl) (by kernel_rfl) (by kernel_rfl) (by kernel_rfl) (by kernel_rfl) (fun _ _ _ h => h) (Or.inl ⟨by kernel_rfl, ?_⟩) hS ?_
          rotate_left
          · intro w' hS
            obtain ⟨sF0, sF1, sF2⟩ := hS
            go_simp
            try with_reducible rfl
          refine AnyJ.takeD (i := 2) (d := some 43) (v := ?_) rfl (by kernel_rfl) (by kernel_rfl) (by kernel_rfl) (by kernel_rfl) (by kernel_rfl) (fun _ _ _ h => h) (Or.inl ⟨by kernel_rfl, ?_⟩) hS ?_
          rotate_left
          · intro w' hS
            obtain ⟨sF0, sF1, sF2⟩ := hS
            go_simp
            try with_reducible rfl
          refine AnyJ.takeD (i := 3) (d := some 44) (v := ?_) rfl (by kernel_rfl) (by kernel_rfl) (by kernel_rfl) (by kernel_rfl) (by kernel_rfl) (fun _ _ _ h => h) (Or.inl ⟨by kernel_rfl, ?_⟩) hS ?_
          rotate_left
          · intro w' hS
            obtain ⟨sF0, sF1, sF2⟩ := hS
            go_simp
            try with_reducible rfl
          refine AnyJ.takeD (i := 4) (d := some 45) (v := ?_) rfl (by kernel_rfl) (by kernel_rfl) (by kernel_rfl) (by kernel_rfl) (by kernel_rfl) (fun _ _ _ h => h) (Or.inl ⟨by kernel_rfl, ?_⟩) hS ?_
          rotate_left
          · intro w' hS
            obtain ⟨sF0, sF1, sF2⟩ := hS
            go_simp
            try with_reducible rfl
          refine AnyJ.takeD (i := 5) (d := some 46) (v := ?_) rfl (by kernel_rfl) (by kernel_rfl) (by kernel_rfl) (by kernel_rfl) (by kernel_rfl) (fun _ _ _ h => h) (Or.inl ⟨by kernel_rfl, ?_⟩) hS ?_
          rotate_left
          · intro w' hS
            obtain ⟨sF0, sF1, sF2⟩ := hS
            go_simp
            try with_reducible rfl
          refine AnyJ.takeD (i := 6) (d := some 47) (v := ?_) rfl (by kernel_rfl) (by kernel_rfl) (by kernel_rfl) (by kernel_rfl) (by kernel_rfl) (fun _ _ _ h => h) (Or.inl ⟨by kernel_rfl, ?_⟩) hS ?_
          rotate_left
          · intro w' hS
            obtain ⟨sF0, sF1, sF2⟩ := hS
            go_simp
            try with_reducible rfl
          refine AnyJ.takeD (i := 7) (d := some 48) (v := ?_) rfl (by kernel_rfl) (by kernel_rfl) (by kernel_rfl) (by kernel_rfl) (by kernel_rfl) (fun _ _ _ h => h) (Or.inl ⟨by kernel_rfl, ?_⟩) hS ?_
          rotate_left
          · intro w' hS
            obtain ⟨sF0, sF1, sF2⟩ := hS
            go_simp
            try with_reducible rfl
          refine AnyJ.takeD (i := 8) (d := some 49) (v := ?_) rfl (by kernel_rfl) (by kernel_rfl) (by kernel_rfl) (by kernel_rfl) (by kernel_rfl) (fun _ _ _ h => h) (Or.inl ⟨by kernel_rfl, ?_⟩) hS ?_
          rotate_left
          · intro w' hS
            obtain ⟨sF0, sF1, sF2⟩ := hS
            go_simp
            try with_reducible rfl
          refine AnyJ.takeD (i := 9) (d := some 50) (v := ?_) rfl (by kernel_rfl) (by kernel_rfl) (by kernel_rfl) (by kernel_rfl) (by kernel_rfl) (fun _ _ _ h => h) (Or.inl ⟨by kernel_rfl, ?_⟩) hS ?_
          rotate_left
          · intro w' hS
            obtain ⟨sF0, sF1, sF2⟩ := hS
            go_simp
            try with_reducible rfl
          refine AnyJ.takeD (i := 10) (d := some 51) (v := ?_) rfl (by kernel_rfl) (by kernel_rfl) (by kernel_rfl) (by kernel_rfl) (by kernel_rfl) (fun _ _ _ h => h) (Or.inl ⟨by kernel_rfl, ?_⟩) hS ?_
          rotate_left
          · intro w' hS
            obtain ⟨sF0, sF1, sF2⟩ := hS
            go_simp
            try with_reducible rfl
          have hil : i < O.length := by rw [HLO.out, HL.out]; exact hin
          have oz := HO5.out.ownI.frozen i
          have oc := HO5.out.ownI.cell hil
          have ol' := HO5.out.ownI.lt
          refine AnyJ.one (i := 11) (by kernel_rfl) rfl (fun Kz hKz => ?_)
          go_simp
          obtain ⟨w6, hw6⟩ : ∃ W, (w5.setCell ⟨go', i, none⟩ (.int .i64 (m : Int))).drew = W := ⟨_, rfl⟩
          rw [hw6]
          have hgq : go' < q := by omega
          have hO6 : OwnV w6 go' (.slice (some ⟨go', 0, none⟩) n n) (O.set i (m : Int)) := by rw [← hw6]; exact HO5.out.setC hil _
          have fr6 : ∀ g, g ≠ go' → w6.heap[g]? = w5.heap[g]? := fun g hg => by rw [← hw6]; exact setC_frame hg
          have hE6 : OwnV w6 w3.heap.size (.slice (some ⟨ge5, 0, none⟩) m5 cp5) E5 := HE5.out.blk (fun g hg => fr6 g (by simp [Value.ownBlock] at hg; omega))
          have hOB6 : OwnI w6 gb (ordL l) := HOB5.out.of_block (fr6 gb (by omega))
          have hRb6 : Row w6 w.heap.size [.slice (some ⟨bl, ol, none⟩) n cap] := HRb5.out.of_block (fr6 _ (by omega))
          have hQ6 : Row w6 q [.int .i64 i] := HQ5.out.of_block (fr6 q (by omega))
          have hB6 : Below go' w3 w6 := by rw [← hw6]; exact (Below.setCell HB5.out (Nat.le_refl _) _).drew
          have hS6 : w6.cell? ⟨q, 0, none⟩ = some (.int .i64 i) ∧ w6.cell? ⟨w.heap.size, 0, none⟩ = some (.slice (some ⟨bl, ol, none⟩) n cap) ∧ w6.cell? ⟨bl, ol + i * 2 + 1, none⟩ = some (.int .i64 ui) := by
            refine ⟨hQ6.cell 0 rfl, hRb6.cell 0 rfl, ?_⟩
            have h1 := hS.2.2
            have hb1 : bl < w.heap.size := by
              obtain ⟨_, _, b9, o9, _, _, _, e9, h9, _, _⟩ := HS.out.get hin
              cases e9
              exact h9
            rw [← h1]
            exact World.cell?_of_block (fr6 bl (by omega))
          have HO6 := Lib.hid hO6
          have HE6 := Lib.hid hE6
          have HOB6 := Lib.hid hOB6
          have HB6 := Lib.hid hB6
          refine hKz _ _ (fun _ => hS6) ?_
          clear hKz Kz hw6 hO6 hOB6 hRb6 hQ6 hB6 hE6 oz oc ol' HO5 HE5 HOB5 HB5 HRb5 HQ5 fr6 hS
          refine AnyJ.takeD (i := 12) (d := some 52) (v := ?_) rfl (by kernel_rfl) (by kernel_rfl) (by kernel_rfl) (by kernel_rfl) (by kernel_rfl) (fun _ _ _ h => h) (Or.inl ⟨by kernel_rfl, ?_⟩) hS6 ?_
          rotate_left
          · intro w' hS
            clear hS
            go_simp
            try with_reducible rfl
          have ez := HE6.out.ownI.frozen m
          have ec := HE6.out.ownI.cell (i := m) (by rw [HM5.out]; exact hcl)
          have el := HE6.out.ownI.lt
          refine AnyJ.one (i := 13) (by kernel_rfl) rfl (fun Kz hKz => ?_)
          go_simp
          obtain ⟨w7, hw7⟩ : ∃ W, w6.setCell ⟨ge5, m, none⟩ (.int .i64 ui) = W := ⟨_, rfl⟩
          rw [hw7]
          have hE7 : OwnV w7 w3.heap.size (.slice (some ⟨ge5, 0, none⟩) m5 cp5) (colK l (k + 1)).1 := by
            rw [HC.out, ← hw7]
            show OwnV _ _ _ (E ++ [unP l i])
            first | rw [← HEE.out, HUN.out] | rw [HUN.out]
            exact HE6.out.setC (by rw [HM5.out]; exact hcl) _
          have fr7 : ∀ g, g ≠ ge5 → w7.heap[g]? = w6.heap[g]? := fun g hg => by rw [← hw7]; exact setC_frame hg
          have hO7 : OwnV w7 go' (.slice (some ⟨go', 0, none⟩) n n) (colK l (k + 1)).2 := by
            rw [HC.out]
            exact HO6.out.blk (fun g hg => fr7 g (by simp [Value.ownBlock] at hg; omega))
          have hOB7 : OwnI w7 gb (ordL l) := HOB6.out.of_block (fr7 gb (by omega))
          have hB7 : Below go' w3 w7 := by rw [← hw7]; exact Below.setCell HB6.out (show go' ≤ ge5 by omega) _
          have HE7 := Lib.hid hE7
          have HO7 := Lib.hid hO7
          have HOB7 := Lib.hid hOB7
          have HB7 := Lib.hid hB7
          refine hKz _ _ (fun h => by simp at h) ?_
          clear hKz Kz hw7 hE7 hO7 hOB7 hB7 fr7 ez ec el hS6 HE6 HO6 HOB6 HB6
          refine AnyJ.done (by kernel_rfl) ?_ _
          try simp only [Act.put, List.setIfInBounds_toArray, List.set_cons_zero, List.set_cons_succ]
          go_wp2_with fail
          go_roundw
          case rel => exact ⟨k + 1, .slice (some ⟨ge5, 0, none⟩) m5 cp5, by omega, by go_num, rfl, HE7.out, HO7.out, HOB7.out, HB7.out⟩
          case measure => simp [intOf]; omega
      · have HC : Hid (colK l (k + 1) = (E.set c (unP l i), O.set i (c : Int))) := by
          show _ = _
          rw [HKS.out]
          unfold colS
          rw [hc, if_neg (by omega), Int.toNat_natCast, Nat.zero_add, Int.toNat_natCast]
        rw [hc, Nat.zero_add]
        have hmp : 0 < m := by have := HM1.out; omega
        obtain ⟨ge5, rfl, hge5, hgq5⟩ : ∃ g, ae = some ⟨g, 0, none⟩ ∧ w3.heap.size ≤ g ∧ g < w4.heap.size := by
          rcases HE4.out.shape.2 with ⟨_, h, _⟩ | ⟨g, h1, h2, h3⟩
          · omega
          · exact ⟨g, h1, h2, h3⟩
        obtain ⟨w5, hw5⟩ : ∃ wd : World, wd = w4 := ⟨_, rfl⟩
        subst hw5
        have HE5 := HE4
        have HO5 := HO4
        have HOB5 := HOB4
        have HRb5 := HRb4
        have HSl5 := HSl4
        have HQ5 := HQ4
        have HB5 := HB4
        have HM5 := HM1
        have HEE : Hid (E.set c (unP l i) = E.set c (unP l i)) := rfl
        have hcl : c < m := by have := HM1.out; omega
        clear HE4 HO4 HOB4 HRb4 HSl4 HQ4 HB4 hc hmp
        go_upto_region 12 with fail
        obtain ⟨fi, ui, bl, ol, hx, _, _, ha, hbl2, cf, cu⟩ := HSl5.out.get hin
        subst ha
        have HUN : Hid (unP l i = ui) := by show _ = _; unfold unP; rw [Int.toNat_natCast, hx.out]
        have hci : ((0 : Int) ≤ ((c : Nat) : Int)) := by omega
        have hci2 : (((c : Nat) : Int) < (m : Int)) := by omega
        have hii : (0 : Int) ≤ (i : Int) := by omega
        have hii2 : (i : Int) < (n : Int) := by omega
        have hS : w5.cell? ⟨q, 0, none⟩ = some (.int .i64 i) ∧ w5.cell? ⟨w.heap.size, 0, none⟩ = some (.slice (some ⟨bl, ol, none⟩) n cap) ∧ w5.cell? ⟨bl, ol + i * 2 + 1, none⟩ = some (.int .i64 ui) := ⟨HQ5.out.cell 0 rfl, HRb5.out.cell 0 rfl, cu⟩
        clear hx cf hbl2 cu
        refine AnyJ.beginP (fun w' : World => w'.cell? ⟨q, 0, none⟩ = some (.int .i64 i) ∧ w'.cell? ⟨w.heap.size, 0, none⟩ = some (.slice (some ⟨bl, ol, none⟩) n cap) ∧ w'.cell? ⟨bl, ol + i * 2 + 1, none⟩ = some (.int .i64 ui)) (fun j => decide (j ≤ 12)) (by kernel_rfl) hS (fun hS => ?_)
        refine AnyJ.takeD (i := 0) (d := some 41) (v := ?_) rfl (by kernel_rfl) (by kernel_rfl) (by kernel_rfl) (by kernel_rfl) (by kernel_rfl) (fun _ _ _ h => h) (Or.inl ⟨by kernel_rfl, ?_⟩) hS ?_
        rotate_left
        · intro w' hS
          obtain ⟨sF0, sF1, sF2⟩ := hS
          go_simp
          try with_reducible rfl
        refine AnyJ.takeD (i := 1) (d := some 42) (v := ?_) rfl (by kernel_rfl) (by kernel_rfl) (by kernel_rfl) (by kernel_rfl) (by kernel_rfl) (fun _ _ _ h => h) (Or.inl ⟨by kernel_rfl, ?_⟩) hS ?_
        rotate_left
        · intro w' hS
          obtain ⟨sF0, sF1, sF2⟩ := hS
          go_simp
          try with_reducible rfl
        refine AnyJ.takeD (i := 2) (d := some 43) (v := ?_) rfl (by kernel_rfl) (by kernel_rfl) (by kernel_rfl) (by kernel_rfl) (by kernel_rfl) (fun _ _ _ h => h) (Or.inl ⟨by kernel_rfl, ?_⟩) hS ?_
        rotate_left
        · intro w' hS
          obtain ⟨sF0, sF1, sF2⟩ := hS
          go_simp
          try with_reducible rfl
        refine AnyJ.takeD (i := 3) (d := some 44) (v := ?_) rfl (by kernel_rfl) (by kernel_rfl) (by kernel_rfl) (by kernel_rfl) (by kernel_rfl) (fun _ _ _ h => h) (Or.inl ⟨by kernel_rfl, ?_⟩) hS ?_
        rotate_left
        · intro w' hS
          obtain ⟨sF0, sF1, sF2⟩ := hS
          go_simp
          try with_reducible rfl
        refine AnyJ.takeD (i := 4) (d := some 45) (v := ?_) rfl (by kernel_rfl) (by kernel_rfl) (by kernel_rfl) (by kernel_rfl) (by kernel_rfl) (fun _ _ _ h => h) (Or.inl ⟨by kernel_rfl, ?_⟩) hS ?_
        rotate_left
        · intro w' hS
          obtain ⟨sF0, sF1, sF2⟩ := hS
          go_simp
          try with_reducible rfl
        refine AnyJ.takeD (i := 5) (d := some 46) (v := ?_) rfl (by kernel_rfl) (by kernel_rfl) (by kernel_rfl) (by kernel_rfl) (by kernel_rfl) (fun _ _ _ h => h) (Or.inl ⟨by kernel_rfl, ?_⟩) hS ?_
        rotate_left
        · intro w' hS
          obtain ⟨sF0, sF1, sF2⟩ := hS
          go_simp
          try with_reducible rfl
        refine AnyJ.takeD (i := 6) (d := some 47) (v := ?_) rfl (by kernel_rfl) (by kernel_rfl) (by kernel_rfl) (by kernel_rfl) (by kernel_rfl) (fun _ _ _ h => h) (Or.inl ⟨by kernel_rfl, ?_⟩) hS ?_
        rotate_left
        · intro w' hS
          obtain ⟨sF0, sF1, sF2⟩ := hS
          go_simp
          try with_reducible rfl
        refine AnyJ.takeD (i := 7) (d := some 48) (v := ?_) rfl (by kernel_rfl) (by kernel_rfl) (by kernel_rfl) (by kernel_rfl) (by kernel_rfl) (fun _ _ _ h => h) (Or.inl ⟨by kernel_rfl, ?_⟩) hS ?_
        rotate_left
        · intro w' hS
          obtain ⟨sF0, sF1, sF2⟩ := hS
          go_simp
          try with_reducible rfl
        refine AnyJ.takeD (i := 8) (d := some 49) (v := ?_) rfl (by kernel_rfl) (by kernel_rfl) (by kernel_rfl) (by kernel_rfl) (by kernel_rfl) (fun _ _ _ h => h) (Or.inl ⟨by kernel_rfl, ?_⟩) hS ?_
        rotate_left
        · intro w' hS
          obtain ⟨sF0, sF1, sF2⟩ := hS
          go_simp
          try with_reducible rfl
        refine AnyJ.takeD (i := 9) (d := some 50) (v := ?_) rfl (by kernel_rfl) (by kernel_rfl) (by kernel_rfl) (by kernel_rfl) (by kernel_rfl) (fun _ _ _ h => h) (Or.inl ⟨by kernel_rfl, ?_⟩) hS ?_
        rotate_left
        · intro w' hS
          obtain ⟨sF0, sF1, sF2⟩ := hS
          go_simp
          try with_reducible rfl
        refine AnyJ.takeD (i := 10) (d := some 51) (v := ?_) rfl (by kernel_rfl) (by kernel_rfl) (by kernel_rfl) (by kernel_rfl) (by kernel_rfl) (fun _ _ _ h => h) (Or.inl ⟨by kernel_rfl, ?_⟩) hS ?_
        rotate_left
        · intro w' hS
          obtain ⟨sF0, sF1, sF2⟩ := hS
          go_simp
          try with_reducible rfl
        have hil : i < O.length := by rw [HLO.out, HL.out]; exact hin
        have oz := HO5.out.ownI.frozen i
        have oc := HO5.out.ownI.cell hil
        have ol' := HO5.out.ownI.lt
        refine AnyJ.one (i := 11) (by kernel_rfl) rfl (fun Kz hKz => ?_)
        go_simp
        obtain ⟨w6, hw6⟩ : ∃ W, (w5.setCell ⟨go', i, none⟩ (.int .i64 (c : Int))).drew = W := ⟨_, rfl⟩
        rw [hw6]
        have hgq : go' < q := by omega
        have hO6 : OwnV w6 go' (.slice (some ⟨go', 0, none⟩) n n) (O.set i (c : Int)) := by rw [← hw6]; exact HO5.out.setC hil _
        have fr6 : ∀ g, g ≠ go' → w6.heap[g]? = w5.heap[g]? := fun g hg => by rw [← hw6]; exact setC_frame hg
        have hE6 : OwnV w6 w3.heap.size (.slice (some ⟨ge5, 0, none⟩) m ce) E := HE5.out.blk (fun g hg => fr6 g (by simp [Value.ownBlock] at hg; omega))
        have hOB6 : OwnI w6 gb (ordL l) := HOB5.out.of_block (fr6 gb (by omega))
        have hRb6 : Row w6 w.heap.size [.slice (some ⟨bl, ol, none⟩) n cap] := HRb5.out.of_block (fr6 _ (by omega))
        have hQ6 : Row w6 q [.int .i64 i] := HQ5.out.of_block (fr6 q (by omega))
        have hB6 : Below go' w3 w6 := by rw [← hw6]; exact (Below.setCell HB5.out (Nat.le_refl _) _).drew
        have hS6 : w6.cell? ⟨q, 0, none⟩ = some (.int .i64 i) ∧ w6.cell? ⟨w.heap.size, 0, none⟩ = some (.slice (some ⟨bl, ol, none⟩) n cap) ∧ w6.cell? ⟨bl, ol + i * 2 + 1, none⟩ = some (.int .i64 ui) := by
          refine ⟨hQ6.cell 0 rfl, hRb6.cell 0 rfl, ?_⟩
          have h1 := hS.2.2
          have hb1 : bl < w.heap.size := by
            obtain ⟨_, _, b9, o9, _, _, _, e9, h9, _, _⟩ := HS.out.get hin
            cases e9
            exact h9
          rw [← h1]
          exact World.cell?_of_block (fr6 bl (by omega))
        have HO6 := Lib.hid hO6
        have HE6 := Lib.hid hE6
        have HOB6 := Lib.hid hOB6
        have HB6 := Lib.hid hB6
        refine hKz _ _ (fun _ => hS6) ?_
        clear hKz Kz hw6 hO6 hOB6 hRb6 hQ6 hB6 hE6 oz oc ol' HO5 HE5 HOB5 HB5 HRb5 HQ5 fr6 hS
        refine AnyJ.takeD (i := 12) (d := some 52) (v := ?_) rfl (by kernel_rfl) (by kernel_rfl) (by kernel_rfl) (by kernel_rfl) (by kernel_rfl) (fun _ _ _ h => h) (Or.inl ⟨by kernel_rfl, ?_⟩) hS6 ?_
        rotate_left
        · intro w' hS
          clear hS
          go_simp
          try with_reducible rfl
        have ez := HE6.out.ownI.frozen c
        have ec := HE6.out.ownI.cell (i := c) (by rw [HM5.out]; exact hcl)
        have el := HE6.out.ownI.lt
        refine AnyJ.one (i := 13) (by kernel_rfl) rfl (fun Kz hKz => ?_)
        go_simp
        obtain ⟨w7, hw7⟩ : ∃ W, w6.setCell ⟨ge5, c, none⟩ (.int .i64 ui) = W := ⟨_, rfl⟩
        rw [hw7]
        have hE7 : OwnV w7 w3.heap.size (.slice (some ⟨ge5, 0, none⟩) m ce) (colK l (k + 1)).1 := by
          rw [HC.out, ← hw7]
          show OwnV _ _ _ (E.set c (unP l i))
          first | rw [← HEE.out, HUN.out] | rw [HUN.out]
          exact HE6.out.setC (by rw [HM5.out]; exact hcl) _
        have fr7 : ∀ g, g ≠ ge5 → w7.heap[g]? = w6.heap[g]? := fun g hg => by rw [← hw7]; exact setC_frame hg
        have hO7 : OwnV w7 go' (.slice (some ⟨go', 0, none⟩) n n) (colK l (k + 1)).2 := by
          rw [HC.out]
          exact HO6.out.blk (fun g hg => fr7 g (by simp [Value.ownBlock] at hg; omega))
        have hOB7 : OwnI w7 gb (ordL l) := HOB6.out.of_block (fr7 gb (by omega))
        have hB7 : Below go' w3 w7 := by rw [← hw7]; exact Below.setCell HB6.out (show go' ≤ ge5 by omega) _
        have HE7 := Lib.hid hE7
        have HO7 := Lib.hid hO7
        have HOB7 := Lib.hid hOB7
        have HB7 := Lib.hid hB7
        refine hKz _ _ (fun h => by simp at h) ?_
        clear hKz Kz hw7 hE7 hO7 hOB7 hB7 fr7 ez ec el hS6 HE6 HO6 HOB6 HB6
        refine AnyJ.done (by kernel_rfl) ?_ _
        try simp only [Act.put, List.setIfInBounds_toArray, List.set_cons_zero, List.set_cons_succ]
        go_wp2_with fail
        go_roundw
        case rel => exact ⟨k + 1, .slice (some ⟨ge5, 0, none⟩) m ce, by omega, by go_num, rfl, HE7.out, HO7.out, HOB7.out, HB7.out⟩
        case measure => simp [intOf]; omega
    · obtain rfl : n = k := by omega
      have hEn : colE l = (colK l n).1 := by unfold colE; rw [HL.out]
      have hOn : colO l = (colK l n).2 := by unfold colO; rw [HL.out]
      obtain ⟨m, hm1⟩ : ∃ m, (colK l n).1.length = m := ⟨_, rfl⟩
      obtain ⟨ae, ce, rfl, _⟩ := hE1.out.form2
      have HEn : Hid ((colE l).length = m) := by show _ = _; rw [hEn, hm1]
      have HV : Hid (OwnV wr w.heap.size (.slice (some ⟨go', 0, none⟩) n n) (colO l)) := by
        show OwnV _ _ _ _
        rw [hOn]; exact hO.out.lowC (by omega)
      try rw [hm1]
      clear hEn hOn hm1
      go_wp2_with fail
      go_ret3
      exact ⟨_, by rw [HEn.out]; rfl, HV.out, hBw.out⟩

end Go.Proofs.Ytbafhmlmibjgpaa
