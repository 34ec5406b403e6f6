/-
  Package colour's order: the indexes of spans by rising beginning; a slice of zeros.
-/
import Derived.Test.YtbafhmlmibjgpaaColA
import Derived.Test.YtbafhmlmibjgpaaSortF
import Derived.Test.YtbafhmlmibjgpaaTopA
import Derived.Test.YtbafhmlmibjgpaaOwnV
import Derived.Deep.OwnRows
import Derived.Deep.DeepCutAuto
namespace Go.Proofs.Ytbafhmlmibjgpaa
set_option linter.unusedSimpArgs false
set_option linter.unusedVariables false
open Go.RowKit

/-- Where the span with an index begins and ends. -/
def frP (l : List SpV) (i : Int) : Int := (l.getD i.toNat sp0).1
def unP (l : List SpV) (i : Int) : Int := (l.getD i.toNat sp0).2
/-- The indexes by rising beginning. -/
def ordL (l : List SpV) : List Int := srtK (frP l) (upto l.length)
theorem ordL_perm (l : List SpV) : (ordL l).Perm (upto l.length) := srtK_perm _ _
theorem ordL_sorted (l : List SpV) : (ordL l).Pairwise (ltK (frP l)) := srtK_sorted (upto_nodup _)
theorem ordL_length (l : List SpV) : (ordL l).length = l.length := by rw [(ordL_perm l).length_eq, upto_length]
theorem ordL_mem {l : List SpV} {x : Int} : x ∈ ordL l ↔ 0 ≤ x ∧ x < l.length := by rw [(ordL_perm l).mem_iff, mem_upto]
theorem ordL_nodup (l : List SpV) : (ordL l).Nodup := (ordL_perm l).nodup_iff.2 (upto_nodup _)
theorem ordL_unique {l : List SpV} {zs : List Int} (hp : zs.Perm (upto l.length)) (hs : SrtI (frP l) zs 0 l.length) : zs = ordL l := by
  have hl : zs.length = l.length := by rw [hp.length_eq, upto_length]
  exact srt_unique (hp.trans (ordL_perm l).symm) (SrtI.pairwise (by rw [hl]; exact hs)) (ordL_sorted l)

theorem SlP.tch {B n : Nat} {w w' : World} {a : Option Addr} {l : List SpV} (hs : SlP w a n l) (h : Tch B w w') (hne : ∀ b o, a = some ⟨b, o, none⟩ → 0 < n → b ≠ B) : SlP w' a n l := by
  refine ⟨hs.1, fun i x hx => ?_⟩
  obtain ⟨b, off, ha, h1, h2⟩ := hs.2 i x hx
  have hi : i < l.length := (List.getElem?_eq_some_iff.1 hx).1
  have hb := hne b off ha (by have := hs.1; omega)
  exact ⟨b, off, ha, h.cell h1 hb, h.cell h2 hb⟩

/-- A store into a slice of the call's own. -/
theorem OwnV.setC {w : World} {base g n cap : Nat} {zs : List Int} (h : OwnV w base (.slice (some ⟨g, 0, none⟩) n cap) zs) {i : Nat} (hi : i < zs.length) (x : Int) : OwnV (w.setCell ⟨g, i, none⟩ (.int .i64 x)) base (.slice (some ⟨g, 0, none⟩) n cap) (zs.set i x) := by
  obtain ⟨h1, h2⟩ := h
  rcases h2 with ⟨h0, _⟩ | ⟨g', cap', cur, e1, e2, e3, e4, e5, e6, e7⟩
  · simp at h0
  · simp only [Value.slice.injEq, Option.some.injEq, Addr.mk.injEq] at e1
    obtain ⟨⟨rfl, _⟩, rfl, rfl⟩ := e1
    refine ⟨by simp, Or.inr ⟨g, cap, cur.setIfInBounds i (.int .i64 x), by rw [List.length_set], e2, ?_, by rw [List.length_set]; exact e4, e5, by simpa using e6, ?_⟩⟩
    · simp [World.setCell, Array.getElem?_modify, e3]
    · rw [List.length_set, Array.toList_setIfInBounds, List.take_set, e7, List.map_set]
theorem OwnV.ownI {w : World} {base g n cap : Nat} {zs : List Int} (h : OwnV w base (.slice (some ⟨g, 0, none⟩) n cap) zs) : OwnI w g zs := by
  obtain ⟨h1, h2⟩ := h
  rcases h2 with ⟨h0, _⟩ | ⟨g', cap', cur, e1, e2, e3, e4, e5, e6, e7⟩
  · simp at h0
  · simp only [Value.slice.injEq, Option.some.injEq, Addr.mk.injEq] at e1
    obtain ⟨⟨rfl, _⟩, _, _⟩ := e1
    refine ⟨cur.toList.drop (zs.length * 1), 3, ?_⟩
    rw [← e7, List.take_append_drop]
    simpa using e3
theorem OwnV.zeros (w : World) {n : Nat} (hn : n ≤ maxLen) : OwnV (w.alloc (.cells (madeCells #[.int .i64 0] n) 3)) w.heap.size (.slice (some ⟨w.heap.size, 0, none⟩) n n) (List.replicate n 0) := by
  have h := World.ownsRow_lit (base := w.heap.size) (e := 3) (size := 1) w (madeCells #[.int .i64 0] n) n (Nat.le_refl _) hn (by rw [size_madeCells]; omega)
  unfold OwnV
  rw [List.length_replicate]
  have e : (madeCells #[.int .i64 0] n).toList = (List.replicate n (0 : Int)).map (Value.int .i64) := by
    refine List.ext_getElem? (fun i => ?_)
    rw [List.map_replicate]
    by_cases hi : i < n
    · simp [madeCells, hi, Nat.mod_one, List.getElem?_replicate]
    · simp [madeCells, hi, List.getElem?_replicate]
  rw [← e]
  exact h
theorem fill_set (n k : Nat) (hk : k < n) : (upto k ++ List.replicate (n - k) 0).set k (k : Int) = upto (k + 1) ++ List.replicate (n - (k + 1)) 0 := by
  have h : n - k = (n - (k + 1)) + 1 := by omega
  rw [h, List.replicate_succ, List.set_append_right _ _ (by rw [upto_length]; exact Nat.le_refl _), upto_length, Nat.sub_self, List.set_cons_zero, upto_succ, List.append_assoc]
  rfl

set_option maxRecDepth 100000 in
set_option maxHeartbeats 1600000 in
theorem order1_any (a : Option Addr) (n cap : Nat) (l : List SpV) (p : Nat) (w : World) (hs : SlP w a n l) (hp : w.cell? ⟨p, 0, none⟩ = some (.slice a n cap)) (hm : n ≤ 1000000) :
    CmpAt 35 (frP l) n ⟨p, 0, none⟩ w := by
  intro x y x1 x2 y1 y2
  obtain ⟨i, rfl⟩ := Int.eq_ofNat_of_zero_le x1
  obtain ⟨j, rfl⟩ := Int.eq_ofNat_of_zero_le y1
  obtain ⟨f1, u1, b, off, g1, _, _, ha, hb, c1, _⟩ := hs.get (i := i) (by omega)
  obtain ⟨f2, u2, b', off', g2, _, _, ha', hb', c2, _⟩ := hs.get (i := j) (by omega)
  rw [ha] at ha'
  cases ha'
  subst ha
  have e : Hid (cmpI (frP l i) (frP l j) = cmpI f1 f2) := by
    show _ = _
    unfold frP
    simp only [Int.toNat_natCast]
    rw [g1.out, g2.out]
  rw [e.out]
  clear g1 g2 hs
  go_enter Try.func35, Try.ntmps35
  go_wp2_with fail
  go_quiet ((go_at_call 36; exact Calls.quiet_of_same ((compare_int _ _ _).mono fun _ _ h => ⟨h.1, h.2.symm⟩)))
  go_wp2_with fail
  go_ret
  exact ⟨rfl, _, rfl⟩

set_option maxRecDepth 100000 in
set_option maxHeartbeats 1600000 in
theorem order_any (a : Option Addr) (n cap : Nat) (l : List SpV) (w : World) (hm : n ≤ 1000000) (hs : SlP w a n l) :
    Calls Try.prog 22 #[.slice a n cap] w fun e w' => ∃ g, e = .returned (.slice (some ⟨g, 0, none⟩) n n) ∧ w.heap.size ≤ g ∧ OwnI w' g (ordL l) ∧ Below w.heap.size w w' := by
  have HS := Lib.hid (hs.below ((Below.refl _ w).alloc (Nat.le_refl _) (.cells #[.slice a n cap] 22)))
  have HL := Lib.hid hs.1
  obtain ⟨i0, hi, hz0, hz1, hz2⟩ := info_parts info_int
  have HI := Lib.hid (And.intro hi (And.intro hz0 (And.intro hz1 hz2)))
  clear hs hi hz0 hz1 hz2
  go_enter Try.func22, Try.ntmps22
  obtain ⟨w1, hw1⟩ : ∃ W, w.alloc (.cells #[.slice a n cap] 22) = W := ⟨_, rfl⟩
  have R1 : Row w1 w.heap.size [.slice a n cap] := by rw [← hw1]; exact Row.new' _ _ _ rfl
  have B1 : Below w.heap.size w w1 := by rw [← hw1]; (repeat' (first | (with_reducible exact Below.refl _ _) | (with_reducible assumption) | (with_reducible exact Bw.out (by with_reducible assumption)) | (with_reducible refine bw_alloc ?_ _) | (with_reducible refine bw_step ?_ (by with_reducible assumption)) | (with_reducible refine Below.alloc ?_ ?_ _) | (with_reducible refine Below.drew ?_) | (with_reducible refine below_drewN ?_ _) | (with_reducible refine Below.setCell ?_ ?_ _) | (with_reducible refine below_step ?_ (by with_reducible assumption) ?_) | (with_reducible exact Nat.le_refl _) | omega | (simp; omega) | (simp; done)))
  rw [hw1] at HS
  have c1 := R1.cell 0 rfl
  have s1 : w.heap.size < w1.heap.size := R1.lt
  go_upto_region 2 with (refine wpList_make_row _ rfl _ _ 24 rfl 3 i0 (.int .i64 0) Try.underlying24 HI.out.1 HI.out.2.1 HI.out.2.2.1 rfl .i64 .i64 n rfl rfl (by rw [HI.out.2.2.2]; omega) (by omega) ?_)
  have hV2 := OwnV.zeros w1 (n := n) (by unfold maxLen; omega)
  have hB2 : Below w1.heap.size w1 (w1.alloc (.cells (madeCells #[.int .i64 0] n) 3)) := by (repeat' (first | (with_reducible exact Below.refl _ _) | (with_reducible assumption) | (with_reducible exact Bw.out (by with_reducible assumption)) | (with_reducible refine bw_alloc ?_ _) | (with_reducible refine bw_step ?_ (by with_reducible assumption)) | (with_reducible refine Below.alloc ?_ ?_ _) | (with_reducible refine Below.drew ?_) | (with_reducible refine below_drewN ?_ _) | (with_reducible refine Below.setCell ?_ ?_ _) | (with_reducible refine below_step ?_ (by with_reducible assumption) ?_) | (with_reducible exact Nat.le_refl _) | omega | (simp; omega) | (simp; done)))
  obtain ⟨w2, hw2⟩ : ∃ W, w1.alloc (.cells (madeCells #[.int .i64 0] n) 3) = W := ⟨_, rfl⟩
  rw [hw2] at hV2 hB2
  try rw [hw2]
  obtain ⟨g, hg⟩ : ∃ g, w1.heap.size = g := ⟨_, rfl⟩
  rw [hg] at hV2 hB2
  try rw [hg]
  have HV2 := Lib.hid hV2
  have HB2 := Lib.hid hB2
  have HB1 := Lib.hid B1
  have HR1 := Lib.hid R1
  have hgs : w.heap.size < g := by omega
  have hgw : g < w2.heap.size := hV2.ownI.lt
  clear hV2 hB2 hw2 hw1 c1 B1 R1
  go_wp2_with fail
  go_loopw [10] (fun i wr => ∃ k : Nat, k ≤ n ∧ i = .int .i64 k ∧ Hid (OwnV wr g (.slice (some ⟨g, 0, none⟩) n n) (upto k ++ List.replicate (n - k) 0)) ∧ Hid (Below g w1 wr)) (fun i _ => n - (intOf i).toNat)
  case atStart => exact ⟨0, Nat.zero_le _, rfl, by show OwnV _ _ _ _; simpa [upto] using HV2.out, HB2.out⟩
  case round =>
    obtain ⟨k, hk, rfl, hO, hB⟩ := hrel
    by_cases hlt : k < n
    · have hO' := hO.out
      have hkl : k < (upto k ++ List.replicate (n - k) 0).length := by rw [List.length_append, upto_length, List.length_replicate]; omega
      have z1 := hO'.ownI.frozen k
      have c1 := hO'.ownI.cell hkl
      have l1 := hO'.ownI.lt
      have hS := Lib.hid (hO'.setC hkl (k : Int))
      have hB3 := Lib.hid (Below.setCell hB.out (show g ≤ (⟨g, k, none⟩ : Addr).block from Nat.le_refl _) (.int .i64 (k : Int)))
      have i1 : (0 : Int) ≤ (k : Int) := by omega
      have i2 : (k : Int) < (n : Int) := by omega
      clear hO' hkl
      go_wp2_with fail
      go_roundw
      case rel => exact ⟨k + 1, by omega, by go_num, by rw [← fill_set n k hlt]; exact hS.out, hB3.out⟩
      case measure => simp [intOf]; omega
    · obtain rfl : n = k := by omega
      have hOI : Hid (OwnI wr g (upto n)) := by
        have := hO.out.ownI
        rwa [Nat.sub_self, List.replicate_zero, List.append_nil] at this
      have hBw : Hid (Below w.heap.size w wr) := HB1.out.trans (hB.out.mono (by omega))
      have hR := HR1.out.below hB.out (by omega)
      have cx := hR.cell 0 rfl
      have hsep : ∀ b o, a = some ⟨b, o, none⟩ → 0 < n → b ≠ g := fun b o e h0 => by
        obtain ⟨_, _, b', o', _, _, _, e', hlt', _, _⟩ := HS.out.get h0
        rw [e] at e'
        cases e'
        omega
      have hSw : SlP wr a n l := by
        refine ⟨HS.out.1, fun i x hx => ?_⟩
        obtain ⟨b, off, e, h1, h2⟩ := HS.out.2 i x hx
        have hb : b < w1.heap.size := World.block_lt_of_cell? w1 _ h1
        exact ⟨b, off, e, (hB.out.cell (p := ⟨b, off + i * 2, none⟩) (by show b < g; omega)).trans h1, (hB.out.cell (p := ⟨b, off + i * 2 + 1, none⟩) (by show b < g; omega)).trans h2⟩
      have HSw := Lib.hid hSw
      have HSep := Lib.hid hsep
      have HCX := Lib.hid cx
      clear hSw hsep cx hR
      go_wp2_with fail
      refine (sortStable_any g n n n (upto n) (frP l) ⟨w.heap.size, 0, none⟩ _ (upto_length n) hOI.out (fun i hi => by rw [upto_length] at hi; rw [upto_getD hi]; omega)
        (fun w' ht => order1_any a n cap l w.heap.size w' (HSw.out.tch ht HSep.out) (ht.cell HCX.out (by omega)) (by omega)) (by omega) (by omega) (fun i j hij hj => by rw [upto_getD (by omega), upto_getD hj]; omega)).mono ?_
      rintro e w3 ⟨rfl, zs, hp1, hp2, hp3, hp4⟩
      have hZ : zs = ordL l := ordL_unique (by rw [HL.out]; exact hp1) (by rw [HL.out]; exact hp2)
      subst hZ
      have HOl := Lib.hid hp3
      have HB3 := Lib.hid (hp4.below hBw.out (by omega) hBw.out.size)
      clear hp1 hp2 hp3 hp4
      go_wp2_with fail
      go_ret
      exact ⟨g, rfl, by omega, HOl.out, HB3.out⟩

end Go.Proofs.Ytbafhmlmibjgpaa
