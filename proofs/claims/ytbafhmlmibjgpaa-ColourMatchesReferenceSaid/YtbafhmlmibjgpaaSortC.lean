/-
  The walks of package slices' stable sort at ints, first part: two runs exchanged; two neighbouring runs rotated.
-/
import Derived.Test.YtbafhmlmibjgpaaRows
import Derived.Test.YtbafhmlmibjgpaaOwnI
import Derived.Deep.LoopGhost
import Derived.BigRegion
namespace Go.Proofs.Ytbafhmlmibjgpaa
set_option linter.unusedSimpArgs false
set_option linter.unusedVariables false
open Go.RowKit

set_option maxRecDepth 100000 in
set_option maxHeartbeats 1600000 in
theorem swapRange_any (B n cap : Nat) (zs : List Int) (a b k : Nat) (f : Value) (w : World) (hl : zs.length = n) (hO : OwnI w B zs) (hab : a + k ≤ b) (hb : b + k ≤ n) (hn : n ≤ 1000000) :
    Calls Try.prog 46 #[.slice (some ⟨B, 0, none⟩) n cap, .int .i64 a, .int .i64 b, .int .i64 k, f] w
      fun e w' => e = .returned (.tuple #[]) ∧ ∃ zs', Swp zs zs' a b k ∧ OwnI w' B zs' ∧ Tch B w w' := by
  have HO := Lib.hid hO
  have HL := Lib.hid hl
  clear hO hl
  go_enter Try.func46, Try.ntmps46
  go_wp2_with fail
  go_loopw [10] (fun i wr => ∃ t : Nat, ∃ cur : List Int, t ≤ k ∧ i = .int .i64 t ∧ Hid (Swp zs cur a b t) ∧ Hid (OwnI wr B cur) ∧ Hid (Tch B w wr)) (fun i _ => k - (intOf i).toNat)
  case atStart => exact ⟨0, zs, Nat.zero_le _, rfl, Swp.zero _ _ _, HO.out, Tch.refl _ _⟩
  case round =>
    obtain ⟨t, cur, ht, rfl, hS, hC, hT⟩ := hrel
    by_cases hlt : t < k
    · have h1 := hC.out.cell (i := a + t) (by have := hS.out.len; have := HL.out; omega)
      have h2 := hC.out.cell (i := b + t) (by have := hS.out.len; have := HL.out; omega)
      have z1 := hC.out.frozen (a + t)
      have z2 := hC.out.frozen (b + t)
      obtain ⟨x, hx⟩ : ∃ x, cur.getD (a + t) 0 = x := ⟨_, rfl⟩
      obtain ⟨y, hy⟩ : ∃ y, cur.getD (b + t) 0 = y := ⟨_, rfl⟩
      rw [hx] at h1
      rw [hy] at h2
      have HX := Lib.hid hx
      have HY := Lib.hid hy
      clear hx hy
      go_wp2_with fail
      go_region
      go_wp2_with fail
      go_roundw
      case rel =>
        refine ⟨t + 1, sw cur (a + t) (b + t), by omega, by go_num, hS.out.succ (by omega) (by have := HL.out; omega), ?_, ?_⟩
        · show OwnI _ B _
          unfold sw
          rw [HX.out, HY.out]
          exact ((hC.out.drew).set (by have := hS.out.len; have := HL.out; omega) _).set (by have := hS.out.len; have := HL.out; simp; omega) _
        · show Tch B w _
          exact ((hT.out.drew).set _ _).set _ _
      case measure => simp [intOf]; omega
    · obtain rfl : t = k := by omega
      go_wp2_with fail
      go_end0
      exact ⟨rfl, cur, hS.out, hC.out, hT.out⟩

theorem swapRange_at (B n cap : Nat) (zs : List Int) (a b k : Nat) (a' b' k' : Int) (f : Value) (w : World) (hl : zs.length = n) (hO : OwnI w B zs) (ha' : a' = a) (hb' : b' = b) (hk' : k' = k) (hab : a + k ≤ b) (hb : b + k ≤ n) (hn : n ≤ 1000000) :
    Calls Try.prog 46 #[.slice (some ⟨B, 0, none⟩) n cap, .int .i64 a', .int .i64 b', .int .i64 k', f] w
      fun e w' => e = .returned (.tuple #[]) ∧ ∃ zs', Swp zs zs' a b k ∧ OwnI w' B zs' ∧ Tch B w w' := by
  subst ha' hb' hk'
  exact swapRange_any B n cap zs a b k f w hl hO hab hb hn

set_option maxRecDepth 100000 in
set_option maxHeartbeats 1600000 in
theorem rotate_any (B n cap : Nat) (zs : List Int) (a m b : Nat) (f : Value) (w : World) (hl : zs.length = n) (hO : OwnI w B zs) (ham : a < m) (hmb : m < b) (hb : b ≤ n) (hn : n ≤ 1000000) :
    Calls Try.prog 45 #[.slice (some ⟨B, 0, none⟩) n cap, .int .i64 a, .int .i64 m, .int .i64 b, f] w
      fun e w' => e = .returned (.tuple #[]) ∧ ∃ zs', Rot zs zs' a m b ∧ OwnI w' B zs' ∧ Tch B w w' := by
  have HO := Lib.hid hO
  have HL := Lib.hid hl
  clear hO hl
  go_enter Try.func45, Try.ntmps45
  go_wp2_with fail
  go_loopw [10, 11] (fun u v wr => ∃ i j : Nat, ∃ cur : List Int, 0 < i ∧ 0 < j ∧ a + i ≤ m ∧ m + j ≤ b ∧ u = .int .i64 i ∧ v = .int .i64 j ∧ Hid (RotInv zs cur a m b i j) ∧ Hid (OwnI wr B cur) ∧ Hid (Tch B w wr)) (fun u v _ => (intOf u).toNat + (intOf v).toNat)
  case atStart => exact ⟨m - a, b - m, zs, by omega, by omega, by omega, by omega, by go_num, by go_num, RotInv.start zs (by omega) (by omega), HO.out, Tch.refl _ _⟩
  case round =>
    obtain ⟨i, j, cur, hi, hj, him, hjb, rfl, rfl, hS, hC, hT⟩ := hrel
    have hc : Hid (cur.length = n) := by show _ = _; rw [hS.out.len, HL.out]
    rcases Nat.lt_trichotomy i j with hlt | heq | hgt
    · go_wp2_with fail
      refine (swapRange_at B n cap cur (m - i) (m + j - i) i _ _ _ _ _ hc.out hC.out (by omega) (by omega) rfl (by omega) (by omega) hn).mono ?_
      rintro e w1 ⟨rfl, nxt, hs, ho, ht⟩
      have H1 := Lib.hid hs
      have H2 := Lib.hid ho
      have H3 := Lib.hid ht
      clear hs ho ht
      go_wp2_with fail
      go_roundw
      case rel => exact ⟨i, j - i, nxt, hi, by omega, him, by omega, rfl, by go_num, hS.out.lt H1.out hlt (by omega) hi, H2.out, hT.out.trans H3.out⟩
      case measure => simp [intOf]; omega
    · subst heq
      go_wp2_with fail
      refine (swapRange_at B n cap cur (m - i) m i _ _ _ _ _ hc.out hC.out (by omega) rfl rfl (by omega) (by omega) hn).mono ?_
      rintro e w1 ⟨rfl, nxt, hs, ho, ht⟩
      have H1 := Lib.hid hs
      have H2 := Lib.hid ho
      have H3 := Lib.hid ht
      clear hs ho ht
      go_wp2_with fail
      go_end0
      exact ⟨rfl, nxt, hS.out.last H1.out (by omega), H2.out, hT.out.trans H3.out⟩
    · go_wp2_with fail
      refine (swapRange_at B n cap cur (m - i) m j _ _ _ _ _ hc.out hC.out (by omega) rfl rfl (by omega) (by omega) hn).mono ?_
      rintro e w1 ⟨rfl, nxt, hs, ho, ht⟩
      have H1 := Lib.hid hs
      have H2 := Lib.hid ho
      have H3 := Lib.hid ht
      clear hs ho ht
      go_wp2_with fail
      go_roundw
      case rel => exact ⟨i - j, j, nxt, by omega, hj, by omega, hjb, by go_num, rfl, hS.out.gt H1.out hgt (by omega) hj, H2.out, hT.out.trans H3.out⟩
      case measure => simp [intOf]; omega

end Go.Proofs.Ytbafhmlmibjgpaa
