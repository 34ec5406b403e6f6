/-
  The walks of package share, third part: a night's channel; a share that grows.
-/
import Derived.Test.YtijbhdpaikajkaaTopC
import Derived.Test.YtijbhdpaikajkaaOwnS
import Derived.Test.YtijbhdpaikajkaaMBase
import Derived.IntWalk
namespace Go.Proofs.Ytijbhdpaikajkaa
set_option linter.unusedSimpArgs false
set_option linter.unusedVariables false
open Go.RowKit

theorem SlI.drop {w : World} {b off n : Nat} {zs : List Int} (h : SlI w (some ⟨b, off, none⟩) n zs) (k : Nat) : SlI w (some ⟨b, off + k, none⟩) (n - k) (zs.drop k) := by
  refine ⟨by rw [List.length_drop, h.1], fun i hi => ?_⟩
  obtain ⟨b', off', e, hc⟩ := h.2 (k + i) (by omega)
  cases e
  refine ⟨b, off + k, rfl, ?_⟩
  rw [Nat.add_assoc, hc]
  simp [List.getD_eq_getElem?_getD, List.getElem?_drop]
theorem SlI.take {w : World} {a : Option Addr} {n : Nat} {zs : List Int} (h : SlI w a n zs) {k : Nat} (hk : k ≤ n) : SlI w a k (zs.take k) := by
  have hl := h.1
  refine ⟨by rw [List.length_take]; omega, fun i hi => ?_⟩
  obtain ⟨b', off', e, hc⟩ := h.2 i (by omega)
  refine ⟨b', off', e, ?_⟩
  rw [hc]
  simp [List.getD_eq_getElem?_getD, List.getElem?_take, hi]

set_option maxHeartbeats 800000 in
theorem has_any (rooms sold ch : Int) (a : Option Addr) (n cap : Nat) (w : World) (hm : n ≤ 9223372036854775807) :
    Calls Try.prog 55 #[.agg #[.int .i64 rooms, .int .i64 sold, .slice a n cap], .int .i64 ch] w
      fun e w' => e = .returned (.bool (decide (0 ≤ ch) && decide (ch < n))) ∧ Below w.heap.size w w' := by
  by_cases h1 : 0 ≤ ch
  · by_cases h2 : ch < n
    · go_enter Try.func55, Try.ntmps55
      go_wp2_with fail
      go_ret
      refine ⟨ret_bool (by simp [h1, h2]), ?_⟩
      (repeat' (first | (with_reducible exact Below.refl _ _) | (with_reducible assumption) | (with_reducible exact Bw.out (by with_reducible assumption)) | (with_reducible refine bw_alloc ?_ _) | (with_reducible refine bw_step ?_ (by with_reducible assumption)) | (with_reducible refine Below.alloc ?_ ?_ _) | (with_reducible refine Below.drew ?_) | (with_reducible refine below_drewN ?_ _) | (with_reducible refine Below.setCell ?_ ?_ _) | (with_reducible refine below_step ?_ (by with_reducible assumption) ?_) | (with_reducible exact Nat.le_refl _) | omega | (simp; omega) | (simp; done)))
    · go_enter Try.func55, Try.ntmps55
      go_wp2_with fail
      go_ret
      refine ⟨ret_bool (by simp [h1, h2]), ?_⟩
      (repeat' (first | (with_reducible exact Below.refl _ _) | (with_reducible assumption) | (with_reducible exact Bw.out (by with_reducible assumption)) | (with_reducible refine bw_alloc ?_ _) | (with_reducible refine bw_step ?_ (by with_reducible assumption)) | (with_reducible refine Below.alloc ?_ ?_ _) | (with_reducible refine Below.drew ?_) | (with_reducible refine below_drewN ?_ _) | (with_reducible refine Below.setCell ?_ ?_ _) | (with_reducible refine below_step ?_ (by with_reducible assumption) ?_) | (with_reducible exact Nat.le_refl _) | omega | (simp; omega) | (simp; done)))
  · go_enter Try.func55, Try.ntmps55
    go_wp2_with fail
    go_ret
    refine ⟨ret_bool (by simp; omega), ?_⟩
    (repeat' (first | (with_reducible exact Below.refl _ _) | (with_reducible assumption) | (with_reducible exact Bw.out (by with_reducible assumption)) | (with_reducible refine bw_alloc ?_ _) | (with_reducible refine bw_step ?_ (by with_reducible assumption)) | (with_reducible refine Below.alloc ?_ ?_ _) | (with_reducible refine Below.drew ?_) | (with_reducible refine below_drewN ?_ _) | (with_reducible refine Below.setCell ?_ ?_ _) | (with_reducible refine below_step ?_ (by with_reducible assumption) ?_) | (with_reducible exact Nat.le_refl _) | omega | (simp; omega) | (simp; done)))

theorem OwnI.other {w : World} {B : Nat} {zs : List Int} (h : OwnI w B zs) {a : Addr} (ha : B ≠ a.block) (v : Value) : OwnI (w.setCell a v) B zs := h.of_block (Below.heap_setCell _ _ _ _ ha)
theorem bcell' {B : Nat} {W w1 : World} (hb : Below B W w1) : (∀ b o, b < B → w1.cell? ⟨b, o, none⟩ = W.cell? ⟨b, o, none⟩) ∧ (∀ b o, b < B → w1.frozen? ⟨b, o, none⟩ = W.frozen? ⟨b, o, none⟩) :=
  ⟨fun b o h => hb.cell (p := ⟨b, o, none⟩) h, fun b o h => hb.frozen (p := ⟨b, o, none⟩) h⟩

set_option maxRecDepth 100000 in
set_option maxHeartbeats 3200000 in
theorem add_any (rooms sold x z : Int) (b off n cap ch : Nat) (zs : List Int) (w : World) (hm : n ≤ 1000000) (hs : SlI w (some ⟨b, off, none⟩) n zs) (hc : ch < n) (hcap : n ≤ cap) (hcap2 : cap ≤ 9223372036854775807)
    (hz : zs.getD ch 0 = z) (z1 : 0 ≤ z) (z2 : z ≤ 400) (x1 : -1000000 ≤ x) (x2 : x ≤ 1000000) :
    Calls Try.prog 57 #[.agg #[.int .i64 rooms, .int .i64 sold, .slice (some ⟨b, off, none⟩) n cap], .int .i64 ch, .int .i64 x] w
      fun e w' => ∃ g cc, e = .returned (.agg #[.int .i64 rooms, .int .i64 sold, .slice (some ⟨g, 0, none⟩) n cc]) ∧ w.heap.size + 1 < g ∧ OwnI w' g (zs.set ch (z + x)) ∧ n ≤ cc ∧ cc ≤ 9223372036854775807 ∧ Below w.heap.size w w' := by
  obtain ⟨b', off', e, hbl, hcells⟩ := hs.at (by omega)
  cases e
  have hcz : w.cell? ⟨b, off + ch, none⟩ = some (.int .i64 z) := by rw [hcells ch hc, hz]
  have HS := Lib.hid hs
  have HZ := Lib.hid hz
  have HSET : Hid (zs.take ch ++ [z + x] ++ zs.drop (ch + 1) = zs.set ch (z + x) ∧ (zs.set ch (z + x)).length = n) := by
    have hl := HS.out.1
    refine ⟨?_, by rw [List.length_set]; exact hl⟩
    rw [List.set_eq_take_append_cons_drop, if_pos (by omega)]
    simp
  have b1 : (0 : Int) ≤ (ch : Int) := by omega
  have b2 : (ch : Int) < (n : Int) := by omega
  have b3 : (ch : Int) + 1 ≤ (n : Int) := by omega
  have b5 : (ch : Int) + 1 ≤ (cap : Int) := by omega
  have b4 : (n : Int) ≤ (cap : Int) := by omega
  clear hs hz hcells
  by_cases hk : cap = ch + 1
  · subst hk
    go_enter Try.func57, Try.ntmps57
    go_wp2_with fail
    generalize hW0 : (w.alloc (.cells #[.int .i64 rooms, .int .i64 sold, .slice (some ⟨b, off, none⟩) n (ch + 1)] 74)).alloc (.cells #[.int .i64 0, .int .i64 0, .slice none 0 0] 74) = W0
    have R0 : Row W0 w.heap.size [.int .i64 rooms, .int .i64 sold, .slice (some ⟨b, off, none⟩) n (ch + 1)] := by rw [← hW0]; (repeat' (first | (with_reducible assumption) | (with_reducible refine Row.new' _ _ _ (by first | rfl | (simp; done) | omega)) | (with_reducible refine Row.alloc ?_ _) | (with_reducible refine Row.drew ?_) | (with_reducible refine Row.drewN ?_ _) | (with_reducible refine Row.step ?_ (by with_reducible assumption))))
    have R1 : Row W0 (w.heap.size + 1) [.int .i64 0, .int .i64 0, .slice none 0 0] := by rw [← hW0]; (repeat' (first | (with_reducible assumption) | (with_reducible refine Row.new' _ _ _ (by first | rfl | (simp; done) | omega)) | (with_reducible refine Row.alloc ?_ _) | (with_reducible refine Row.drew ?_) | (with_reducible refine Row.drewN ?_ _) | (with_reducible refine Row.step ?_ (by with_reducible assumption))))
    have HB0 : Below w.heap.size w W0 := by rw [← hW0]; (repeat' (first | (with_reducible exact Below.refl _ _) | (with_reducible assumption) | (with_reducible exact Bw.out (by with_reducible assumption)) | (with_reducible refine bw_alloc ?_ _) | (with_reducible refine bw_step ?_ (by with_reducible assumption)) | (with_reducible refine Below.alloc ?_ ?_ _) | (with_reducible refine Below.drew ?_) | (with_reducible refine below_drewN ?_ _) | (with_reducible refine Below.setCell ?_ ?_ _) | (with_reducible refine below_step ?_ (by with_reducible assumption) ?_) | (with_reducible exact Nat.le_refl _) | omega | (simp; omega) | (simp; done)))
    clear hW0
    have HT0 := Lib.hid ((HS.out.below HB0).take (k := ch) (by omega))
    have HD0 : Hid (SlI W0 (some ⟨b, off, none⟩) (0) (zs.drop (ch + 1))) := by
      first
        | exact (HS.out.below HB0).drop (ch + 1)
        | (show SlI _ _ _ _; rw [List.drop_of_length_le (by have := HS.out.1; omega)]; exact SlI.nil _ _)
    have cz := (HB0.cell (p := ⟨b, off + ch, none⟩) hbl).trans hcz
    have c0 := R0.cell 2 rfl
    have f0 := R0.frozen 2
    have l0 := R0.lt
    have l1 := R1.lt
    have l2 : w.heap.size < W0.heap.size + 1 := by omega
    have l3 : b < W0.heap.size := by have := HB0.size; omega
    have hw1 : IntKind.i64.wrap (z + x) = z + x := IntWalk.i64_in _ (by omega)
    have hw2 : IntKind.i64.wrap ((ch : Int) + 1) = (ch : Int) + 1 := IntWalk.i64_in _ (by omega)
    have hw3 : (0 : Int) ≤ (ch : Int) + 1 := by omega
    have hw4 : ((ch : Int) + 1).toNat = ch + 1 := by omega
    go_region_law (first
      | (refine step_grow_int rfl (.tmp 14) (.tmp 23) 22 rfl Try.underlying22 ⟨b, off, none⟩ ch (zs.take ch) (by simp [Act.eval, Act.put]) (HT0.out.below (by (repeat' (first | (with_reducible exact Below.refl _ _) | (with_reducible assumption) | (with_reducible exact Bw.out (by with_reducible assumption)) | (with_reducible refine bw_alloc ?_ _) | (with_reducible refine bw_step ?_ (by with_reducible assumption)) | (with_reducible refine Below.alloc ?_ ?_ _) | (with_reducible refine Below.drew ?_) | (with_reducible refine below_drewN ?_ _) | (with_reducible refine Below.setCell ?_ ?_ _) | (with_reducible refine below_step ?_ (by with_reducible assumption) ?_) | (with_reducible exact Nat.le_refl _) | omega | (simp; omega) | (simp; done))))) W0.heap.size 1 (z + x) (by simp [Act.eval, Act.put]) (by simp [go_sem, hw1]) (by omega) ?_; intro v1 w1 hown1 hbel1; obtain ⟨hc1, hz1⟩ := bcell hbel1; have hs1 := hbel1.size; (try simp at hs1); have hx1 : Below W0.heap.size W0 w1 := (by (repeat' (first | (with_reducible exact Below.refl _ _) | (with_reducible assumption) | (with_reducible exact Bw.out (by with_reducible assumption)) | (with_reducible refine bw_alloc ?_ _) | (with_reducible refine bw_step ?_ (by with_reducible assumption)) | (with_reducible refine Below.alloc ?_ ?_ _) | (with_reducible refine Below.drew ?_) | (with_reducible refine below_drewN ?_ _) | (with_reducible refine Below.setCell ?_ ?_ _) | (with_reducible refine below_step ?_ (by with_reducible assumption) ?_) | (with_reducible exact Nat.le_refl _) | omega | (simp; omega) | (simp; done)))); have g1 := (hx1.cell (p := ⟨w.heap.size, 2, none⟩) l0).trans c0; have g1f := (hx1.frozen (p := ⟨w.heap.size, 2, none⟩) l0).trans f0)
      | (refine step_own_ints rfl (.tmp 24) (.tmp 30) 22 rfl Try.underlying22 _ v1 (zs.take ch ++ [z + x]) (by simp [Act.eval, Act.put]) (hown1.step (by (repeat' (first | (with_reducible exact Below.refl _ _) | (with_reducible assumption) | (with_reducible exact Bw.out (by with_reducible assumption)) | (with_reducible refine bw_alloc ?_ _) | (with_reducible refine bw_step ?_ (by with_reducible assumption)) | (with_reducible refine Below.alloc ?_ ?_ _) | (with_reducible refine Below.drew ?_) | (with_reducible refine below_drewN ?_ _) | (with_reducible refine Below.setCell ?_ ?_ _) | (with_reducible refine below_step ?_ (by with_reducible assumption) ?_) | (with_reducible exact Nat.le_refl _) | omega | (simp; omega) | (simp; done))))) ⟨b, off, none⟩ (0) (0) (zs.drop (ch + 1)) (by simp [Act.eval, Act.put]) (HD0.out.below (by (repeat' (first | (with_reducible exact Below.refl _ _) | (with_reducible assumption) | (with_reducible exact Bw.out (by with_reducible assumption)) | (with_reducible refine bw_alloc ?_ _) | (with_reducible refine bw_step ?_ (by with_reducible assumption)) | (with_reducible refine Below.alloc ?_ ?_ _) | (with_reducible refine Below.drew ?_) | (with_reducible refine below_drewN ?_ _) | (with_reducible refine Below.setCell ?_ ?_ _) | (with_reducible refine below_step ?_ (by with_reducible assumption) ?_) | (with_reducible exact Nat.le_refl _) | omega | (simp; omega) | (simp; done))))) (by (try simp); omega) (by (try simp); omega) ?_; intro v2 w2 hown2 hbel2 hs2; have hb3 := hbel2 _ (Below.refl _ _); have g2 := (hb3.cell (p := ⟨w.heap.size, 2, none⟩) (by (try simp); omega)).trans g1; have g2f := (hb3.frozen (p := ⟨w.heap.size, 2, none⟩) (by (try simp); omega)).trans g1f; (try simp at hs2); rw [HSET.out.1] at hown2; obtain ⟨gg, cc, hv2, hge2, hOg2, hcc1, hcc2⟩ := hown2.own (by rw [HSET.out.2]; omega); rw [HSET.out.2] at hv2 hcc1; subst hv2; (try simp at hge2); have hx2 : Below W0.heap.size W0 w2 := hx1.trans (hb3.mono (by (try simp); (try omega))); have HOG := Lib.hid hOg2; have HOV := Lib.hid hown2; clear hOg2 hown2))
    all_goals
      have c00 := (hx2.cell (p := ⟨w.heap.size, 0, none⟩) l0).trans (R0.cell 0 rfl)
      have c01 := (hx2.cell (p := ⟨w.heap.size, 1, none⟩) l0).trans (R0.cell 1 rfl)
      have c10 := (hx2.cell (p := ⟨w.heap.size + 1, 0, none⟩) l1).trans (R1.cell 0 rfl)
      have c11 := (hx2.cell (p := ⟨w.heap.size + 1, 1, none⟩) l1).trans (R1.cell 1 rfl)
      have c12 := (hx2.cell (p := ⟨w.heap.size + 1, 2, none⟩) l1).trans (R1.cell 2 rfl)
      have f10 := (hx2.frozen (p := ⟨w.heap.size + 1, 0, none⟩) l1).trans (R1.frozen 0)
      have f11 := (hx2.frozen (p := ⟨w.heap.size + 1, 1, none⟩) l1).trans (R1.frozen 1)
      have f12 := (hx2.frozen (p := ⟨w.heap.size + 1, 2, none⟩) l1).trans (R1.frozen 2)
      have l5 := Nat.lt_of_lt_of_le l0 hx2.size
      have l6 := Nat.lt_of_lt_of_le l1 hx2.size
      go_wp2_with fail
      refine bodyPost_ret (v := .agg #[.int .i64 rooms, .int .i64 sold, .slice (some ⟨gg, 0, none⟩) n cc]) (by simp [results, Try.results57, go_sem, c10, c11, c12, l6]) rfl ⟨gg, cc, rfl, by omega, ?_, hcc1, hcc2, ?_⟩
      · exact (((HOG.out.other (by simp; omega) _).other (by simp; omega) _).other (by simp; omega) _).other (by simp; omega) _
      · have hb := HB0.trans (hx2.mono HB0.size)
        exact (((hb.setCell (Nat.le_refl _) _).setCell (by simp) _).setCell (by simp) _).setCell (by simp) _
  ·
    go_enter Try.func57, Try.ntmps57
    go_wp2_with fail
    generalize hW0 : (w.alloc (.cells #[.int .i64 rooms, .int .i64 sold, .slice (some ⟨b, off, none⟩) n cap] 74)).alloc (.cells #[.int .i64 0, .int .i64 0, .slice none 0 0] 74) = W0
    have R0 : Row W0 w.heap.size [.int .i64 rooms, .int .i64 sold, .slice (some ⟨b, off, none⟩) n cap] := by rw [← hW0]; (repeat' (first | (with_reducible assumption) | (with_reducible refine Row.new' _ _ _ (by first | rfl | (simp; done) | omega)) | (with_reducible refine Row.alloc ?_ _) | (with_reducible refine Row.drew ?_) | (with_reducible refine Row.drewN ?_ _) | (with_reducible refine Row.step ?_ (by with_reducible assumption))))
    have R1 : Row W0 (w.heap.size + 1) [.int .i64 0, .int .i64 0, .slice none 0 0] := by rw [← hW0]; (repeat' (first | (with_reducible assumption) | (with_reducible refine Row.new' _ _ _ (by first | rfl | (simp; done) | omega)) | (with_reducible refine Row.alloc ?_ _) | (with_reducible refine Row.drew ?_) | (with_reducible refine Row.drewN ?_ _) | (with_reducible refine Row.step ?_ (by with_reducible assumption))))
    have HB0 : Below w.heap.size w W0 := by rw [← hW0]; (repeat' (first | (with_reducible exact Below.refl _ _) | (with_reducible assumption) | (with_reducible exact Bw.out (by with_reducible assumption)) | (with_reducible refine bw_alloc ?_ _) | (with_reducible refine bw_step ?_ (by with_reducible assumption)) | (with_reducible refine Below.alloc ?_ ?_ _) | (with_reducible refine Below.drew ?_) | (with_reducible refine below_drewN ?_ _) | (with_reducible refine Below.setCell ?_ ?_ _) | (with_reducible refine below_step ?_ (by with_reducible assumption) ?_) | (with_reducible exact Nat.le_refl _) | omega | (simp; omega) | (simp; done)))
    clear hW0
    have HT0 := Lib.hid ((HS.out.below HB0).take (k := ch) (by omega))
    have HD0 : Hid (SlI W0 (some ⟨b, off + (ch + 1), none⟩) (n - (ch + 1)) (zs.drop (ch + 1))) := by
      first
        | exact (HS.out.below HB0).drop (ch + 1)
        | (show SlI _ _ _ _; rw [List.drop_of_length_le (by have := HS.out.1; omega)]; exact SlI.nil _ _)
    have cz := (HB0.cell (p := ⟨b, off + ch, none⟩) hbl).trans hcz
    have c0 := R0.cell 2 rfl
    have f0 := R0.frozen 2
    have l0 := R0.lt
    have l1 := R1.lt
    have l2 : w.heap.size < W0.heap.size + 1 := by omega
    have l3 : b < W0.heap.size := by have := HB0.size; omega
    have hw1 : IntKind.i64.wrap (z + x) = z + x := IntWalk.i64_in _ (by omega)
    have hw2 : IntKind.i64.wrap ((ch : Int) + 1) = (ch : Int) + 1 := IntWalk.i64_in _ (by omega)
    have hw3 : (0 : Int) ≤ (ch : Int) + 1 := by omega
    have hw4 : ((ch : Int) + 1).toNat = ch + 1 := by omega
    go_region_law (first
      | (refine step_grow_int rfl (.tmp 14) (.tmp 23) 22 rfl Try.underlying22 ⟨b, off, none⟩ ch (zs.take ch) (by simp [Act.eval, Act.put]) (HT0.out.below (by (repeat' (first | (with_reducible exact Below.refl _ _) | (with_reducible assumption) | (with_reducible exact Bw.out (by with_reducible assumption)) | (with_reducible refine bw_alloc ?_ _) | (with_reducible refine bw_step ?_ (by with_reducible assumption)) | (with_reducible refine Below.alloc ?_ ?_ _) | (with_reducible refine Below.drew ?_) | (with_reducible refine below_drewN ?_ _) | (with_reducible refine Below.setCell ?_ ?_ _) | (with_reducible refine below_step ?_ (by with_reducible assumption) ?_) | (with_reducible exact Nat.le_refl _) | omega | (simp; omega) | (simp; done))))) W0.heap.size 1 (z + x) (by simp [Act.eval, Act.put]) (by simp [go_sem, hw1]) (by omega) ?_; intro v1 w1 hown1 hbel1; obtain ⟨hc1, hz1⟩ := bcell hbel1; have hs1 := hbel1.size; (try simp at hs1); have hx1 : Below W0.heap.size W0 w1 := (by (repeat' (first | (with_reducible exact Below.refl _ _) | (with_reducible assumption) | (with_reducible exact Bw.out (by with_reducible assumption)) | (with_reducible refine bw_alloc ?_ _) | (with_reducible refine bw_step ?_ (by with_reducible assumption)) | (with_reducible refine Below.alloc ?_ ?_ _) | (with_reducible refine Below.drew ?_) | (with_reducible refine below_drewN ?_ _) | (with_reducible refine Below.setCell ?_ ?_ _) | (with_reducible refine below_step ?_ (by with_reducible assumption) ?_) | (with_reducible exact Nat.le_refl _) | omega | (simp; omega) | (simp; done)))); have g1 := (hx1.cell (p := ⟨w.heap.size, 2, none⟩) l0).trans c0; have g1f := (hx1.frozen (p := ⟨w.heap.size, 2, none⟩) l0).trans f0)
      | (refine step_own_ints rfl (.tmp 24) (.tmp 30) 22 rfl Try.underlying22 _ v1 (zs.take ch ++ [z + x]) (by simp [Act.eval, Act.put]) (hown1.step (by (repeat' (first | (with_reducible exact Below.refl _ _) | (with_reducible assumption) | (with_reducible exact Bw.out (by with_reducible assumption)) | (with_reducible refine bw_alloc ?_ _) | (with_reducible refine bw_step ?_ (by with_reducible assumption)) | (with_reducible refine Below.alloc ?_ ?_ _) | (with_reducible refine Below.drew ?_) | (with_reducible refine below_drewN ?_ _) | (with_reducible refine Below.setCell ?_ ?_ _) | (with_reducible refine below_step ?_ (by with_reducible assumption) ?_) | (with_reducible exact Nat.le_refl _) | omega | (simp; omega) | (simp; done))))) ⟨b, off + (ch + 1), none⟩ (n - (ch + 1)) (cap - (ch + 1)) (zs.drop (ch + 1)) (by simp [Act.eval, Act.put]) (HD0.out.below (by (repeat' (first | (with_reducible exact Below.refl _ _) | (with_reducible assumption) | (with_reducible exact Bw.out (by with_reducible assumption)) | (with_reducible refine bw_alloc ?_ _) | (with_reducible refine bw_step ?_ (by with_reducible assumption)) | (with_reducible refine Below.alloc ?_ ?_ _) | (with_reducible refine Below.drew ?_) | (with_reducible refine below_drewN ?_ _) | (with_reducible refine Below.setCell ?_ ?_ _) | (with_reducible refine below_step ?_ (by with_reducible assumption) ?_) | (with_reducible exact Nat.le_refl _) | omega | (simp; omega) | (simp; done))))) (by (try simp); omega) (by (try simp); omega) ?_; intro v2 w2 hown2 hbel2 hs2; have hb3 := hbel2 _ (Below.refl _ _); have g2 := (hb3.cell (p := ⟨w.heap.size, 2, none⟩) (by (try simp); omega)).trans g1; have g2f := (hb3.frozen (p := ⟨w.heap.size, 2, none⟩) (by (try simp); omega)).trans g1f; (try simp at hs2); rw [HSET.out.1] at hown2; obtain ⟨gg, cc, hv2, hge2, hOg2, hcc1, hcc2⟩ := hown2.own (by rw [HSET.out.2]; omega); rw [HSET.out.2] at hv2 hcc1; subst hv2; (try simp at hge2); have hx2 : Below W0.heap.size W0 w2 := hx1.trans (hb3.mono (by (try simp); (try omega))); have HOG := Lib.hid hOg2; have HOV := Lib.hid hown2; clear hOg2 hown2))
    all_goals
      have c00 := (hx2.cell (p := ⟨w.heap.size, 0, none⟩) l0).trans (R0.cell 0 rfl)
      have c01 := (hx2.cell (p := ⟨w.heap.size, 1, none⟩) l0).trans (R0.cell 1 rfl)
      have c10 := (hx2.cell (p := ⟨w.heap.size + 1, 0, none⟩) l1).trans (R1.cell 0 rfl)
      have c11 := (hx2.cell (p := ⟨w.heap.size + 1, 1, none⟩) l1).trans (R1.cell 1 rfl)
      have c12 := (hx2.cell (p := ⟨w.heap.size + 1, 2, none⟩) l1).trans (R1.cell 2 rfl)
      have f10 := (hx2.frozen (p := ⟨w.heap.size + 1, 0, none⟩) l1).trans (R1.frozen 0)
      have f11 := (hx2.frozen (p := ⟨w.heap.size + 1, 1, none⟩) l1).trans (R1.frozen 1)
      have f12 := (hx2.frozen (p := ⟨w.heap.size + 1, 2, none⟩) l1).trans (R1.frozen 2)
      have l5 := Nat.lt_of_lt_of_le l0 hx2.size
      have l6 := Nat.lt_of_lt_of_le l1 hx2.size
      go_wp2_with fail
      refine bodyPost_ret (v := .agg #[.int .i64 rooms, .int .i64 sold, .slice (some ⟨gg, 0, none⟩) n cc]) (by simp [results, Try.results57, go_sem, c10, c11, c12, l6]) rfl ⟨gg, cc, rfl, by omega, ?_, hcc1, hcc2, ?_⟩
      · exact (((HOG.out.other (by simp; omega) _).other (by simp; omega) _).other (by simp; omega) _).other (by simp; omega) _
      · have hb := HB0.trans (hx2.mono HB0.size)
        exact (((hb.setCell (Nat.le_refl _) _).setCell (by simp) _).setCell (by simp) _).setCell (by simp) _

end Go.Proofs.Ytijbhdpaikajkaa
