/-
 The walks of package hall: place, match.
-/
import Derived.Test.YtlmajlfhjbhdpaaGreatYB
namespace Go.Proofs.YtlmajlfhjbhdpaaGreat
set_option linter.unusedSimpArgs false
set_option linter.unusedVariables false
open Go.RowKit Go.Shelf
theorem unseen_none (m : Nat) : unseen m (fun _ => false) = m := by unfold unseen; rw [List.filter_eq_self.2 (by simp)]; simp
theorem Ch.over {o p : Nat → Prop} {w W Y : World} (hb : Below w.heap.size w W) (hc : Ch o W Y) (ho : ∀ k, o k → p k ∨ w.heap.size ≤ k) : Ch p w Y :=
 ⟨hc.1.trans hb.os, hc.2.1.trans hb.tape, hc.2.2.1.trans hb.output, Nat.le_trans hb.size hc.size, fun k hk hn => (hc.2.2.2.2 k (Nat.lt_of_lt_of_le hk hb.size) (fun h => by rcases ho k h with h | h; exact hn h; omega)).trans (hb.block k hk)⟩
set_option maxRecDepth 100000 in
set_option maxHeartbeats 3200000 in
theorem place_any (sa : Option Addr) (sn sc : Nat) (NS : List StayV) (ra : Option Addr) (m rc : Nat) (NR : List RoomV) (fb : Nat) (F : List (Int × Int)) (nb ob fixed B : Nat) (hlo : NightLo B nb sn m sa ra fb) (hBo : B ≤ ob) (hm : m ≤ 1000) (hfx : fixed ≤ 1000000)
  (O : OwnO) (i : Nat) (w : World) (hi : i ≤ 1000000) (hO : ∀ k j, O k = some j → j ≤ 1000000) (hN : NightIn w nb sa sn sc NS ra m rc NR fb F) (hM : OMap w ob O) :
  Calls Tryz.prog 123 #[.pointer (some ⟨nb, 0, none⟩), .map (some ob), .int .i64 (i : Int), .int .i64 (fixed : Int)] w fun e w' => e = .returned (.bool (findF (fitsF F) fixed m (m + 1) (fun _ => false) O i).1) ∧ OMap w' ob (findF (fitsF F) fixed m (m + 1) (fun _ => false) O i).2.2 ∧ Ch (fun k => k = ob) w w' := by
 have hob := hM.lt
 have hc := fun W (c1 c2 c3 c4 c5 sb : Nat) (h1 : w.heap.size ≤ c1) (h2 : w.heap.size ≤ c2) (h3 : w.heap.size ≤ c3) (h4 : w.heap.size ≤ c4) (h5 : w.heap.size ≤ c5) (h6 : w.heap.size ≤ sb) (hne : ∀ c, (c = c1 ∨ c = c2 ∨ c = c3 ∨ c = c4 ∨ c = c5) → c ≠ sb) (hb : Below w.heap.size w W) (hC : CapIn W c1 c2 c3 c4 c5 nb sb ob fixed) (hS : BMap W sb (fun _ => false)) =>
  find_any sa sn sc NS ra m rc NR fb F c1 c2 c3 c4 c5 nb sb ob fixed B hlo (by omega) hBo (by omega) hm hfx (fun c h e => by rcases e with e | e; exact hne c h e; rcases h with rfl | rfl | rfl | rfl | rfl <;> omega) (m + 1) (fun _ => false) O i W (by rw [unseen_none]; omega) hi hO (hN.step hb) hC hS (hM.step hb)
 obtain ⟨fin, hfin⟩ : ∃ fin, findF (fitsF F) fixed m (m + 1) (fun _ => false) O i = fin := ⟨_, rfl⟩
 rw [hfin] at hc ⊢
 have HC := Lib.hid hc
 have hmk := @run_makeMap Tryz.prog
 clear hc hlo hO hN hM hfin
 go_enter Tryz.func123, Tryz.ntmps123
 go_wp2_with fail
 obtain ⟨W3, hW3⟩ : ∃ W3, ((w.alloc (.cells #[.pointer (some ⟨nb, 0, none⟩)] 137)).alloc (.cells #[.map (some ob)] 140)).alloc (.cells #[.int .i64 (fixed : Int)] 3) = W3 := ⟨_, rfl⟩
 have hs3 : W3.heap.size = w.heap.size + 1 + 1 + 1 := by rw [← hW3]; simp
 have hb3 : Below w.heap.size w W3 := by rw [← hW3]; (repeat' (first | (with_reducible first | exact Below.refl _ _ | assumption | exact Bw.out (by assumption) | refine bw_alloc ?_ _ | refine bw_step ?_ (by assumption) | refine Below.alloc ?_ ?_ _ | refine Below.drew ?_ | refine below_drewN ?_ _ | refine Below.setCell ?_ ?_ _ | refine below_step ?_ (by assumption) ?_ | exact Nat.le_refl _) | omega | (simp; omega) | (simp; done)))
 have r1 : Row W3 w.heap.size [.pointer (some ⟨nb, 0, none⟩)] := by rw [← hW3]; (repeat' (first | (with_reducible assumption) | (with_reducible refine Row.new' _ _ _ (by first | rfl | (simp; done) | omega)) | (with_reducible first | refine Row.alloc ?_ _ | refine Row.drew ?_ | refine Row.step ?_ (by assumption) | refine Row.drewN ?_ _) | (with_reducible refine Row.set2' ?_ _ _; first | exact ⟨_, _, by assumption⟩ | exact ⟨_, _, Row.alloc (by assumption) _⟩) | (with_reducible refine Row.other ?_ (by first | omega | (simp; omega)) _)))
 have r3 : Row W3 (w.heap.size + 1) [.map (some ob)] := by rw [← hW3]; (repeat' (first | (with_reducible assumption) | (with_reducible refine Row.new' _ _ _ (by first | rfl | (simp; done) | omega)) | (with_reducible first | refine Row.alloc ?_ _ | refine Row.drew ?_ | refine Row.step ?_ (by assumption) | refine Row.drewN ?_ _) | (with_reducible refine Row.set2' ?_ _ _; first | exact ⟨_, _, by assumption⟩ | exact ⟨_, _, Row.alloc (by assumption) _⟩) | (with_reducible refine Row.other ?_ (by first | omega | (simp; omega)) _)))
 have r4 : Row W3 (w.heap.size + 1 + 1) [.int .i64 (fixed : Int)] := by rw [← hW3]; (repeat' (first | (with_reducible assumption) | (with_reducible refine Row.new' _ _ _ (by first | rfl | (simp; done) | omega)) | (with_reducible first | refine Row.alloc ?_ _ | refine Row.drew ?_ | refine Row.step ?_ (by assumption) | refine Row.drewN ?_ _) | (with_reducible refine Row.set2' ?_ _ _; first | exact ⟨_, _, by assumption⟩ | exact ⟨_, _, Row.alloc (by assumption) _⟩) | (with_reducible refine Row.other ?_ (by first | omega | (simp; omega)) _)))
 have bS := bmap_made W3
 rw [hs3] at bS
 rw [hW3]
 clear hW3
 have HB := Lib.hid hb3
 refine (HC.out _ w.heap.size (w.heap.size + 1 + 1 + 1 + 1) (w.heap.size + 1) (w.heap.size + 1 + 1) (w.heap.size + 1 + 1 + 1 + 1 + 1) (w.heap.size + 1 + 1 + 1) (by omega) (by omega) (by omega) (by omega) (by omega) (by omega) (fun c h => by omega) (by (repeat' (first | (with_reducible first | exact Below.refl _ _ | assumption | exact Bw.out (by assumption) | refine bw_alloc ?_ _ | refine bw_step ?_ (by assumption) | refine Below.alloc ?_ ?_ _ | refine Below.drew ?_ | refine below_drewN ?_ _ | refine Below.setCell ?_ ?_ _ | refine below_step ?_ (by assumption) ?_ | exact Nat.le_refl _) | omega | (simp; omega) | (simp; done)))) ⟨((r1.alloc _).alloc _).alloc _, (Row.new' _ _ _ (by simp; omega)).alloc _, ((r3.alloc _).alloc _).alloc _, ((r4.alloc _).alloc _).alloc _, Row.new' _ _ _ (by simp; omega)⟩ (bS.step (by (repeat' (first | (with_reducible first | exact Below.refl _ _ | assumption | exact Bw.out (by assumption) | refine bw_alloc ?_ _ | refine bw_step ?_ (by assumption) | refine Below.alloc ?_ ?_ _ | refine Below.drew ?_ | refine below_drewN ?_ _ | refine Below.setCell ?_ ?_ _ | refine below_step ?_ (by assumption) ?_ | exact Nat.le_refl _) | omega | (simp; omega) | (simp; done)))))).mono ?_
 rintro e w2 ⟨rfl, hs2, hm2, hc2⟩
 have HC2 : Hid (Ch (fun k => k = ob) w w2) := Ch.over (by (repeat' (first | (with_reducible first | exact Below.refl _ _ | assumption | exact Bw.out (by assumption) | refine bw_alloc ?_ _ | refine bw_step ?_ (by assumption) | refine Below.alloc ?_ ?_ _ | refine Below.drew ?_ | refine below_drewN ?_ _ | refine Below.setCell ?_ ?_ _ | refine below_step ?_ (by assumption) ?_ | exact Nat.le_refl _) | omega | (simp; omega) | (simp; done)))) hc2 (fun k hk => by rcases hk with rfl | rfl; exact Or.inr (by omega); exact Or.inl rfl)
 have HM2 := Lib.hid hm2
 clear hs2 hm2 hc2 r1 r3 r4 bS
 go_wp2_with fail
 go_ret
 exact ⟨rfl, HM2.out, HC2.out⟩
/-- What match tells: each stay has a room (-1), or the first that has none. -/
def MatchP (F : List (Int × Int)) (sn m : Nat) (O : OwnO) (first : Int) : Prop := PM (fitsF F) m O ∧
 ((first = -1 ∧ ∀ j, (∃ k, O k = some j) ↔ j < sn) ∨ ∃ i : Nat, i < sn ∧ first = i ∧ (∀ j, (∃ k, O k = some j) ↔ j < i) ∧ ∃ S : SetB, (∀ k, k < m → fitsF F i k = true → S k = true) ∧ ∀ k, k < m → S k = true → ∃ j, O k = some j ∧ ∀ k', k' < m → fitsF F j k' = true → S k' = true)
set_option maxRecDepth 100000 in
set_option maxHeartbeats 3200000 in
theorem match_any (sa : Option Addr) (sn sc : Nat) (NS : List StayV) (ra : Option Addr) (m rc : Nat) (NR : List RoomV) (fb : Nat) (F : List (Int × Int)) (nb : Nat) (w : World) (hm : m ≤ 1000) (hsn : sn ≤ 1000000) (hN : NightIn w nb sa sn sc NS ra m rc NR fb F) :
  Calls Tryz.prog 95 #[.pointer (some ⟨nb, 0, none⟩)] w fun e w' => ∃ O first, e = .returned (.tuple #[.map (some w.heap.size), .int .i64 first]) ∧ OMap w' w.heap.size O ∧ MatchP F sn m O first ∧ Below w.heap.size w w' := by
 have HLO := Lib.hid hN.lo
 have hn0 := hN.row.lt
 have HN := Lib.hid hN
 have hmk := @run_makeMap Tryz.prog
 have hs1 : (w.alloc (.map #[] 0)).heap.size = w.heap.size + 1 := by simp
 have HB1 : Hid (Below w.heap.size w (w.alloc (.map #[] 0))) := by show Below _ _ _; (repeat' (first | (with_reducible first | exact Below.refl _ _ | assumption | exact Bw.out (by assumption) | refine bw_alloc ?_ _ | refine bw_step ?_ (by assumption) | refine Below.alloc ?_ ?_ _ | refine Below.drew ?_ | refine below_drewN ?_ _ | refine Below.setCell ?_ ?_ _ | refine below_step ?_ (by assumption) ?_ | exact Nat.le_refl _) | omega | (simp; omega) | (simp; done)))
 have HM1 := Lib.hid (omap_made w)
 have k0 := (HN.out.step HB1.out).row.cell 0 rfl
 clear hN
 go_enter Tryz.func95, Tryz.ntmps95
 go_wp2_with fail
 go_loopw [2, 11] (fun ow ix wr => ∃ (k : Nat) (O : OwnO), k ≤ sn ∧ ow = .map (some w.heap.size) ∧ ix = .int .i64 k ∧ Hid (OMap wr w.heap.size O) ∧ Hid (PM (fitsF F) m O ∧ ∀ j, (∃ k, O k = some j) ↔ j < k) ∧ Hid (Below w.heap.size w wr)) (fun _ ix _ => sn - (intOf ix).toNat)
 case atStart => exact ⟨0, _, Nat.zero_le _, rfl, rfl, HM1.out, ⟨⟨fun k j h => (by cases h), fun k k' j h => (by cases h)⟩, fun j => ⟨fun ⟨k, h⟩ => (by cases h), fun h => (by omega)⟩⟩, HB1.out⟩
 case round =>
  obtain ⟨k, O, hk, rfl, rfl, hM, hP, hB⟩ := hrel
  have HN1 := Lib.hid (HN.out.step hB.out)
  have n0 := HN1.out.row.cell 0 rfl
  by_cases hkn : k < sn
  ·
   have hbd : ∀ x j, O x = some j → j ≤ 1000000 := fun x j h => by have := (hP.out.2 j).1 ⟨x, h⟩; omega
   have hpl := place_any sa sn sc NS ra m rc NR fb F nb w.heap.size 0 w.heap.size HLO.out (Nat.le_refl _) hm (by omega) O k wr (by omega) hbd HN1.out hM.out
   have hfs := findF_spec (fits := fitsF F) (fixed := 0) (m := m) (m + 1) (fun _ => false) O k (by rw [unseen_none]; omega) hP.out.1 (fun x h => by have := (hP.out.2 k).1 ⟨x, h⟩; omega)
   rcases hrr : findF (fitsF F) 0 m (m + 1) (fun _ => false) O k with ⟨b, S2, O2⟩
   rw [hrr] at hpl hfs
   rw [show ((0 : Nat) : Int) = 0 from rfl] at hpl
   simp only at hpl hfs
   have HPL := Lib.hid hpl
   have HFS := Lib.hid hfs
   clear hpl hfs hrr hbd
   go_wp2_with fail
   refine HPL.out.mono ?_
   rintro e w3 ⟨rfl, hm3, hc3⟩
   have HB3 : Hid (Below w.heap.size w w3) := hc3.below hB.out (fun q hq => by omega) hB.out.size
   have HM3 := Lib.hid hm3
   clear hm3 hc3
   cases b with
   | true =>
    have HP2 := Lib.hid (place_yes hP.out.1 hP.out.2 HFS.out)
    go_wp2_with fail
    go_roundw
    case rel => exact ⟨k + 1, O2, by omega, rfl, by go_num, HM3.out, HP2.out, HB3.out⟩
    case measure => simp [intOf]; omega
   | false =>
    have hno := place_no HFS.out
    have HNO := Lib.hid hno
    clear hno
    go_wp2_with fail
    go_ret2
    obtain ⟨e1, e2, e3⟩ := HNO.out
    refine ⟨O2, k, rfl, HM3.out, ?_, HB3.out⟩
    rw [e1]
    exact ⟨hP.out.1, Or.inr ⟨k, hkn, rfl, hP.out.2, S2, e2, e3⟩⟩
  ·
   obtain rfl : k = sn := by omega
   go_wp2_with fail
   go_ret2
   exact ⟨O, -1, rfl, hM.out, ⟨hP.out.1, Or.inl ⟨rfl, hP.out.2⟩⟩, hB.out⟩
end Go.Proofs.YtlmajlfhjbhdpaaGreat
