/-
  Texts built as one: XSortC, XSortB, XSortD, XSortE, XSortF.
-/
import Derived.Test.YtdijdfhlmnhcjaaRows
import Derived.Test.YtdijdfhlmnhcjaaOwnI
import Derived.Deep.LoopGhost
import Derived.BigRegion
import Derived.Test.YtdijdfhlmnhcjaaSortA
import Derived.BigQuiet
namespace Go.Proofs.Ytdijdfhlmnhcjaa

section
set_option linter.unusedSimpArgs false
set_option linter.unusedVariables false
open Go.RowKit

set_option maxRecDepth 100000 in
set_option maxHeartbeats 1600000 in
theorem swapRange_any (B n cap : Nat) (zs : List Int) (a b k : Nat) (f : Value) (w : World) (hl : zs.length = n) (hO : OwnI w B zs) (hab : a + k ≤ b) (hb : b + k ≤ n) (hn : n ≤ 1000000) :
    Calls Try.prog 69 #[.slice (some ⟨B, 0, none⟩) n cap, .int .i64 a, .int .i64 b, .int .i64 k, f] w
      fun e w' => e = .returned (.tuple #[]) ∧ ∃ zs', Swp zs zs' a b k ∧ OwnI w' B zs' ∧ Tch B w w' := by
  have HO := Lib.hid hO
  have HL := Lib.hid hl
  clear hO hl
  go_enter Try.func69, Try.ntmps69
  go_wp2_with fail
  go_loopw [10] (fun i wr => ∃ t : Nat, ∃ cur : List Int, t ≤ k ∧ i = .int .i64 t ∧ Hid (Swp zs cur a b t) ∧ Hid (OwnI wr B cur) ∧ Hid (Tch B w wr)) (fun i _ => k - (intOf i).toNat)
  case atStart => exact ⟨0, zs, Nat.zero_le _, rfl, Swp.zero _ _ _, HO.out, Tch.refl _ _⟩
  case round =>
    obtain ⟨t, cur, ht, rfl, hS, hC, hT⟩ := hrel
    by_cases hlt : t < k
    · have h1 := hC.out.cell (i := a + t) (by have := hS.out.len; have := HL.out; omega)
      have h2 := hC.out.cell (i := b + t) (by have := hS.out.len; have := HL.out; omega)
      have z1 := hC.out.frozen (a + t)
      have z2 := hC.out.frozen (b + t)
      obtain ⟨x, hx⟩ : ∃ x, cur.getD (a + t) 0 = x := ⟨_, rfl⟩
      obtain ⟨y, hy⟩ : ∃ y, cur.getD (b + t) 0 = y := ⟨_, rfl⟩
      rw [hx] at h1
      rw [hy] at h2
      have HX := Lib.hid hx
      have HY := Lib.hid hy
      clear hx hy
      go_wp2_with fail
      go_region
      go_wp2_with fail
      go_roundw
      case rel =>
        refine ⟨t + 1, sw cur (a + t) (b + t), by omega, by go_num, hS.out.succ (by omega) (by have := HL.out; omega), ?_, ?_⟩
        · show OwnI _ B _
          unfold sw
          rw [HX.out, HY.out]
          exact ((hC.out.drew).set (by have := hS.out.len; have := HL.out; omega) _).set (by have := hS.out.len; have := HL.out; simp; omega) _
        · show Tch B w _
          exact ((hT.out.drew).set _ _).set _ _
      case measure => simp [intOf]; omega
    · obtain rfl : t = k := by omega
      go_wp2_with fail
      go_end0
      exact ⟨rfl, cur, hS.out, hC.out, hT.out⟩

theorem swapRange_at (B n cap : Nat) (zs : List Int) (a b k : Nat) (a' b' k' : Int) (f : Value) (w : World) (hl : zs.length = n) (hO : OwnI w B zs) (ha' : a' = a) (hb' : b' = b) (hk' : k' = k) (hab : a + k ≤ b) (hb : b + k ≤ n) (hn : n ≤ 1000000) :
    Calls Try.prog 69 #[.slice (some ⟨B, 0, none⟩) n cap, .int .i64 a', .int .i64 b', .int .i64 k', f] w
      fun e w' => e = .returned (.tuple #[]) ∧ ∃ zs', Swp zs zs' a b k ∧ OwnI w' B zs' ∧ Tch B w w' := by
  subst ha' hb' hk'
  exact swapRange_any B n cap zs a b k f w hl hO hab hb hn

set_option maxRecDepth 100000 in
set_option maxHeartbeats 1600000 in
theorem rotate_any (B n cap : Nat) (zs : List Int) (a m b : Nat) (f : Value) (w : World) (hl : zs.length = n) (hO : OwnI w B zs) (ham : a < m) (hmb : m < b) (hb : b ≤ n) (hn : n ≤ 1000000) :
    Calls Try.prog 68 #[.slice (some ⟨B, 0, none⟩) n cap, .int .i64 a, .int .i64 m, .int .i64 b, f] w
      fun e w' => e = .returned (.tuple #[]) ∧ ∃ zs', Rot zs zs' a m b ∧ OwnI w' B zs' ∧ Tch B w w' := by
  have HO := Lib.hid hO
  have HL := Lib.hid hl
  clear hO hl
  go_enter Try.func68, Try.ntmps68
  go_wp2_with fail
  go_loopw [10, 11] (fun u v wr => ∃ i j : Nat, ∃ cur : List Int, 0 < i ∧ 0 < j ∧ a + i ≤ m ∧ m + j ≤ b ∧ u = .int .i64 i ∧ v = .int .i64 j ∧ Hid (RotInv zs cur a m b i j) ∧ Hid (OwnI wr B cur) ∧ Hid (Tch B w wr)) (fun u v _ => (intOf u).toNat + (intOf v).toNat)
  case atStart => exact ⟨m - a, b - m, zs, by omega, by omega, by omega, by omega, by go_num, by go_num, RotInv.start zs (by omega) (by omega), HO.out, Tch.refl _ _⟩
  case round =>
    obtain ⟨i, j, cur, hi, hj, him, hjb, rfl, rfl, hS, hC, hT⟩ := hrel
    have hc : Hid (cur.length = n) := by show _ = _; rw [hS.out.len, HL.out]
    rcases Nat.lt_trichotomy i j with hlt | heq | hgt
    · go_wp2_with fail
      refine (swapRange_at B n cap cur (m - i) (m + j - i) i _ _ _ _ _ hc.out hC.out (by omega) (by omega) rfl (by omega) (by omega) hn).mono ?_
      rintro e w1 ⟨rfl, nxt, hs, ho, ht⟩
      have H1 := Lib.hid hs
      have H2 := Lib.hid ho
      have H3 := Lib.hid ht
      clear hs ho ht
      go_wp2_with fail
      go_roundw
      case rel => exact ⟨i, j - i, nxt, hi, by omega, him, by omega, rfl, by go_num, hS.out.lt H1.out hlt (by omega) hi, H2.out, hT.out.trans H3.out⟩
      case measure => simp [intOf]; omega
    · subst heq
      go_wp2_with fail
      refine (swapRange_at B n cap cur (m - i) m i _ _ _ _ _ hc.out hC.out (by omega) rfl rfl (by omega) (by omega) hn).mono ?_
      rintro e w1 ⟨rfl, nxt, hs, ho, ht⟩
      have H1 := Lib.hid hs
      have H2 := Lib.hid ho
      have H3 := Lib.hid ht
      clear hs ho ht
      go_wp2_with fail
      go_end0
      exact ⟨rfl, nxt, hS.out.last H1.out (by omega), H2.out, hT.out.trans H3.out⟩
    · go_wp2_with fail
      refine (swapRange_at B n cap cur (m - i) m j _ _ _ _ _ hc.out hC.out (by omega) rfl rfl (by omega) (by omega) hn).mono ?_
      rintro e w1 ⟨rfl, nxt, hs, ho, ht⟩
      have H1 := Lib.hid hs
      have H2 := Lib.hid ho
      have H3 := Lib.hid ht
      clear hs ho ht
      go_wp2_with fail
      go_roundw
      case rel => exact ⟨i - j, j, nxt, by omega, hj, by omega, hjb, by go_num, rfl, hS.out.gt H1.out hgt (by omega) hj, H2.out, hT.out.trans H3.out⟩
      case measure => simp [intOf]; omega

end

section
set_option linter.unusedSimpArgs false
set_option linter.unusedVariables false

/-- The block of size s from place p on is sorted, and holds what stood there at the beginning. -/
structure BlkAt (key : Int → Int) (O zs : List Int) (n s p : Nat) : Prop where
  srt : SrtI key zs p (min (p + s) n)
  mem : ∀ i, p ≤ i → i < min (p + s) n → ∃ j, p ≤ j ∧ j < min (p + s) n ∧ zs.getD i 0 = O.getD j 0

theorem BlkAt.congr {key : Int → Int} {O zs zs' : List Int} {n s p : Nat} (h : BlkAt key O zs n s p) (e : ∀ i, p ≤ i → i < p + s → zs'.getD i 0 = zs.getD i 0) : BlkAt key O zs' n s p := by
  refine ⟨h.srt.congr fun i a b => e i a (by omega), fun i a b => ?_⟩
  rw [e i a (by omega)]; exact h.mem i a b
theorem BlkAt.past (key : Int → Int) (O zs : List Int) {n s p : Nat} (h : n ≤ p) : BlkAt key O zs n s p :=
  ⟨fun i j a b c => by omega, fun i a b => by omega⟩
/-- A block that has just been sorted. -/
theorem BlkAt.ins {key : Int → Int} {O zs zs' : List Int} {n s a b : Nat} (hb : b = min (a + s) n) (h0 : ∀ i, a ≤ i → zs.getD i 0 = O.getD i 0) (hr : Rea zs zs' a b) (hs : SrtI key zs' a b) : BlkAt key O zs' n s a := by
  subst hb
  refine ⟨hs, fun i h1 h2 => ?_⟩
  obtain ⟨j, j1, j2, e⟩ := hr.mem i h1 h2
  exact ⟨j, j1, j2, e.trans (h0 j j1)⟩
/-- Two blocks that have just been merged. -/
theorem BlkAt.merge {key : Int → Int} {O zs zs' : List Int} {n s a b : Nat} (hb : b = min (a + 2 * s) n) (h1 : BlkAt key O zs n s a) (h2 : BlkAt key O zs n s (a + s)) (hr : Rea zs zs' a b) (hs : SrtI key zs' a b) : BlkAt key O zs' n (2 * s) a := by
  subst hb
  refine ⟨hs, fun i g1 g2 => ?_⟩
  obtain ⟨j, j1, j2, e⟩ := hr.mem i g1 g2
  by_cases hj : j < a + s
  · obtain ⟨k, k1, k2, e2⟩ := h1.mem j j1 (by omega)
    exact ⟨k, k1, by omega, e.trans e2⟩
  · obtain ⟨k, k1, k2, e2⟩ := h2.mem j (by omega) (by omega)
    exact ⟨k, by omega, by omega, e.trans e2⟩
/-- A block without a second one beside it. -/
theorem BlkAt.alone {key : Int → Int} {O zs : List Int} {n s a : Nat} (h : BlkAt key O zs n s a) (hn : n ≤ a + s) : BlkAt key O zs n (2 * s) a := by
  have e : min (a + 2 * s) n = min (a + s) n := by omega
  exact ⟨by rw [e]; exact h.srt, by rw [e]; exact h.mem⟩
theorem BlkAt.erl {key : Int → Int} {O zs : List Int} {n s a b : Nat} (h1 : BlkAt key O zs n s a) (h2 : BlkAt key O zs n s (a + s)) (hO : ∀ i j, i < j → j < n → O.getD i 0 < O.getD j 0) (hb : b ≤ n) (hb2 : b ≤ a + s + s) :
    ErlI zs a (a + s) b := by
  intro i j g1 g2 g3 g4
  obtain ⟨p, p1, p2, e1⟩ := h1.mem i g1 (by omega)
  obtain ⟨q, q1, q2, e2⟩ := h2.mem j g3 (by omega)
  rw [e1, e2]
  exact hO p q (by omega) (by omega)

/-- While the blocks are sorted one by one. -/
structure PhI (key : Int → Int) (O zs : List Int) (n s a : Nat) : Prop where
  len : zs.length = O.length
  perm : zs.Perm O
  done : ∀ t, t * s < a → BlkAt key O zs n s (t * s)
  rest : ∀ i, a ≤ i → zs.getD i 0 = O.getD i 0
theorem PhI.start (key : Int → Int) (O : List Int) (n s : Nat) : PhI key O O n s 0 := ⟨rfl, .refl _, fun t h => by omega, fun _ _ => rfl⟩
theorem mul_lt_block {t k s : Nat} (h : t * s < k * s + s) : t ≤ k := by
  rcases Nat.lt_or_ge k t with g | g
  · have := Nat.mul_le_mul_right s (show k + 1 ≤ t by omega)
    rw [Nat.succ_mul] at this; omega
  · exact g
theorem PhI.step {key : Int → Int} {O zs zs' : List Int} {n s k b : Nat} (h : PhI key O zs n s (k * s)) (hb : b = min (k * s + s) n) (hr : Rea zs zs' (k * s) b) (hs : SrtI key zs' (k * s) b) :
    PhI key O zs' n s (k * s + s) := by
  refine ⟨hr.len.trans h.len, hr.perm.trans h.perm, fun t ht => ?_, fun i hi => ?_⟩
  · by_cases e : t = k
    · subst e; exact BlkAt.ins hb h.rest hr hs
    · have htk := mul_lt_block ht
      have := Nat.mul_le_mul_right s (show t + 1 ≤ k by omega)
      rw [Nat.succ_mul] at this
      by_cases h0 : s = 0
      · subst h0
        exact ⟨fun i j a b c => by omega, fun i a b => by omega⟩
      · exact (h.done t (by omega)).congr fun i a b => hr.out i (by omega)
  · rw [hr.out i (by omega)]; exact h.rest i (by omega)

/-- All blocks of a size are sorted. -/
structure AllB (key : Int → Int) (O zs : List Int) (n s : Nat) : Prop where
  len : zs.length = O.length
  perm : zs.Perm O
  all : ∀ t, BlkAt key O zs n s (t * s)
theorem PhI.all {key : Int → Int} {O zs : List Int} {n s a : Nat} (h : PhI key O zs n s a) (ha : n ≤ a) : AllB key O zs n s :=
  ⟨h.len, h.perm, fun t => if g : t * s < a then h.done t g else BlkAt.past _ _ _ (by omega)⟩
theorem AllB.whole {key : Int → Int} {O zs : List Int} {n s : Nat} (h : AllB key O zs n s) (hs : n ≤ s) : SrtI key zs 0 n := by
  have := (h.all 0).srt
  rwa [Nat.zero_mul, show min (0 + s) n = n by omega] at this

/-- While the blocks are merged two by two. -/
structure PhM (key : Int → Int) (O zs : List Int) (n s k : Nat) : Prop where
  len : zs.length = O.length
  perm : zs.Perm O
  done : ∀ t, t < k → BlkAt key O zs n (2 * s) (t * (2 * s))
  rest : ∀ t, 2 * k ≤ t → BlkAt key O zs n s (t * s)
theorem AllB.start {key : Int → Int} {O zs : List Int} {n s : Nat} (h : AllB key O zs n s) : PhM key O zs n s 0 := ⟨h.len, h.perm, fun t g => by omega, fun t _ => h.all t⟩
theorem PhM.first {key : Int → Int} {O zs : List Int} {n s k : Nat} (h : PhM key O zs n s k) : BlkAt key O zs n s (k * (2 * s)) ∧ BlkAt key O zs n s (k * (2 * s) + s) := by
  have a := h.rest (2 * k) (by omega)
  have b := h.rest (2 * k + 1) (by omega)
  have e1 : 2 * k * s = k * (2 * s) := by rw [Nat.mul_comm 2 k, Nat.mul_assoc]
  have e2 : (2 * k + 1) * s = k * (2 * s) + s := by rw [Nat.succ_mul, e1]
  rw [e1] at a; rw [e2] at b
  exact ⟨a, b⟩
theorem PhM.step {key : Int → Int} {O zs zs' : List Int} {n s k b : Nat} (h : PhM key O zs n s k) (hb : b = min (k * (2 * s) + 2 * s) n) (hr : Rea zs zs' (k * (2 * s)) b) (hs : SrtI key zs' (k * (2 * s)) b) :
    PhM key O zs' n s (k + 1) := by
  obtain ⟨f1, f2⟩ := h.first
  refine ⟨hr.len.trans h.len, hr.perm.trans h.perm, fun t ht => ?_, fun t ht => ?_⟩
  · by_cases e : t = k
    · subst e; exact BlkAt.merge hb f1 f2 hr hs
    · have := Nat.mul_le_mul_right (2 * s) (show t + 1 ≤ k by omega)
      rw [Nat.succ_mul] at this
      exact (h.done t (by omega)).congr fun i a c => hr.out i (by omega)
  · have := Nat.mul_le_mul_right s ht
    have e2 : 2 * (k + 1) * s = k * (2 * s) + 2 * s := by rw [show 2 * (k + 1) = (k + 1) * 2 by omega, Nat.mul_assoc, Nat.succ_mul]
    exact (h.rest t (by omega)).congr fun i a c => hr.out i (by omega)
theorem PhM.all {key : Int → Int} {O zs : List Int} {n s k : Nat} (h : PhM key O zs n s k) (hn : n ≤ k * (2 * s)) : AllB key O zs n (2 * s) := by
  refine ⟨h.len, h.perm, fun t => ?_⟩
  by_cases g : t < k
  · exact h.done t g
  · have := Nat.mul_le_mul_right (2 * s) (show k ≤ t by omega)
    exact BlkAt.past _ _ _ (by omega)
theorem PhM.last {key : Int → Int} {O zs : List Int} {n s k : Nat} (h : PhM key O zs n s k) (hn : n ≤ k * (2 * s) + s) : AllB key O zs n (2 * s) := by
  refine ⟨h.len, h.perm, fun t => ?_⟩
  by_cases g : t < k
  · exact h.done t g
  · by_cases e : t = k
    · subst e; exact h.first.1.alone hn
    · have := Nat.mul_le_mul_right (2 * s) (show k + 1 ≤ t by omega)
      rw [Nat.succ_mul] at this
      exact BlkAt.past _ _ _ (by omega)

end

section
set_option linter.unusedSimpArgs false
set_option linter.unusedVariables false
open Go.RowKit

def cmpI (x y : Int) : Int := if x < y then -1 else if y < x then 1 else 0
theorem cmpI_neg {x y : Int} : cmpI x y < 0 ↔ x < y := by unfold cmpI; split <;> (try split) <;> omega

set_option maxHeartbeats 400000 in
theorem isNaN_any (x : Int) (w : World) : Calls Try.prog 63 #[.int .i64 x] w fun e w' => e = .returned (.bool false) ∧ w = w' := by
  go_enter Try.func63, Try.ntmps63
  go_wp2
  go_ret
  exact ⟨by first | rfl | simp, rfl⟩

set_option maxHeartbeats 400000 in
theorem compare_int (x y : Int) (w : World) : Calls Try.prog 46 #[.int .i64 x, .int .i64 y] w fun e w' => e = .returned (.int .i64 (cmpI x y)) ∧ w = w' := by
  rcases Int.lt_trichotomy x y with h | h | h
  · rw [show cmpI x y = -1 from if_pos h]
    go_enter Try.func46, Try.ntmps46
    go_wp2_with (go_at_call 63; refine (isNaN_any _ _).mono ?_; rintro e w' ⟨rfl, rfl⟩)
    go_ret
    exact ⟨rfl, rfl⟩
  · subst h
    rw [show cmpI x x = 0 by simp [cmpI]]
    go_enter Try.func46, Try.ntmps46
    go_wp2_with (go_at_call 63; refine (isNaN_any _ _).mono ?_; rintro e w' ⟨rfl, rfl⟩)
    go_ret
    exact ⟨rfl, rfl⟩
  · rw [show cmpI x y = 1 by unfold cmpI; rw [if_neg (by omega), if_pos h]]
    have h2 : y ≤ x := by omega
    go_enter Try.func46, Try.ntmps46
    go_wp2_with (go_at_call 63; refine (isNaN_any _ _).mono ?_; rintro e w' ⟨rfl, rfl⟩)
    go_ret
    exact ⟨rfl, rfl⟩

/-- The closure with the captured variable at p compares the keys of numbers below n, in this world. -/
def CmpAt (F : Nat) (key : Int → Int) (n : Nat) (p : Addr) (w : World) : Prop :=
  ∀ x y : Int, 0 ≤ x → x < n → 0 ≤ y → y < n → Calls Try.prog F #[.int .i64 x, .int .i64 y, .pointer (some p)] w fun e w' => e = .returned (.int .i64 (cmpI (key x) (key y))) ∧ ∃ m, w' = w.drewN m
/-- .. in each world that differs in block B alone. -/
def CmpOk (F : Nat) (key : Int → Int) (n : Nat) (p : Addr) (B : Nat) (w : World) : Prop := ∀ w', Tch B w w' → CmpAt F key n p w'
theorem CmpOk.tch {F : Nat} {key : Int → Int} {n B : Nat} {p : Addr} {w w1 : World} (h : CmpOk F key n p B w) (ht : Tch B w w1) : CmpOk F key n p B w1 := fun w' h' => h w' (ht.trans h')
theorem CmpOk.at {F : Nat} {key : Int → Int} {n B : Nat} {p : Addr} {w : World} (h : CmpOk F key n p B w) (m : Nat) : CmpAt F key n p (w.drewN m) := h _ ((Tch.refl _ _).drewN m)

/-- All numbers of a list are below n, and not below 0. -/
def DomI (zs : List Int) (n : Nat) : Prop := ∀ i, i < zs.length → 0 ≤ zs.getD i 0 ∧ zs.getD i 0 < n
theorem DomI.perm {zs zs' : List Int} {n : Nat} (h : DomI zs n) (hp : zs'.Perm zs) : DomI zs' n := by
  intro i hi
  have hm : zs'.getD i 0 ∈ zs := hp.mem_iff.1 (by simp [List.getD, hi])
  obtain ⟨j, hj, e⟩ := List.getElem_of_mem hm
  have := h j hj
  rw [show zs.getD j 0 = zs[j] by simp [List.getD, hj], e] at this
  exact this

theorem Ins.step' {key : Int → Int} {zs cur : List Int} {a i j : Nat} (h : Ins key zs cur a i j) (h0 : 0 < j) (hj : j ≤ i) (hi : i < zs.length) (hc : key (cur.getD j 0) < key (cur.getD (j - 1) 0)) :
    Ins key zs (sw cur j (j - 1)) a i (j - 1) := by
  obtain ⟨k, rfl⟩ : ∃ k, j = k + 1 := ⟨j - 1, by omega⟩
  exact h.step hj hi hc
theorem Rea.one {zs zs' : List Int} {a : Nat} (h : Rea zs zs' a (a + 1)) : Rea zs zs' a a := by
  refine ⟨h.len, fun i _ => ?_, fun i h1 h2 => by omega, h.perm⟩
  by_cases e : i = a
  · subst e
    obtain ⟨j, j1, j2, e⟩ := h.mem i (Nat.le_refl _) (by omega)
    rw [e, show j = i by omega]
  · exact h.out i (by omega)

set_option maxRecDepth 100000 in
set_option maxHeartbeats 3200000 in
theorem insertion_any (B n cap N : Nat) (zs : List Int) (key : Int → Int) (a b : Nat) (p : Addr) (w : World) (hl : zs.length = n) (hO : OwnI w B zs) (hD : DomI zs N) (hC : CmpOk 45 key N p B w)
    (hab : a ≤ b) (hb : b ≤ n) (hn : n ≤ 1000000) (hN : N ≤ 1000000) (hE : ∀ i j, a ≤ i → i < j → j < b → zs.getD i 0 < zs.getD j 0) :
    Calls Try.prog 66 #[.slice (some ⟨B, 0, none⟩) n cap, .int .i64 a, .int .i64 b, .func (.func 45) #[] #[.pointer (some p)]] w
      fun e w' => e = .returned (.tuple #[]) ∧ ∃ zs', Rea zs zs' a b ∧ SrtI key zs' a b ∧ OwnI w' B zs' ∧ Tch B w w' := by
  have HO := Lib.hid hO
  have HL := Lib.hid hl
  have HC := Lib.hid hC
  have HE := Lib.hid hE
  have HD := Lib.hid hD
  clear hO hl hC hE hD
  go_enter Try.func66, Try.ntmps66
  go_wp2_with fail
  go_loopw [8, 9] (fun u v wr => ∃ i : Nat, ∃ cur : List Int, a + 1 ≤ i ∧ (i ≤ b ∨ i = a + 1) ∧ u = .int .i64 i ∧ Hid (Rea zs cur a i) ∧ Hid (SrtI key cur a i) ∧ Hid (OwnI wr B cur) ∧ Hid (Tch B w wr)) (fun u _ _ => b - (intOf u).toNat)
  case atStart => exact ⟨a + 1, zs, by omega, by omega, by go_num, Rea.refl _ _ _, (fun i j h1 h2 h3 => by omega), HO.out, Tch.refl _ _⟩
  case round =>
    obtain ⟨i, cur, hi, hib, rfl, hS, hR, hO, hT⟩ := hrel
    by_cases hlt : i < b
    · go_wp2_with fail
      obtain ⟨wo, hwo⟩ : ∃ wo : World, wo = wr := ⟨_, rfl⟩
      subst hwo
      go_loopw [9] (fun v wr => ∃ j : Nat, ∃ nx : List Int, a ≤ j ∧ j ≤ i ∧ v = .int .i64 j ∧ Hid (Ins key cur nx a i j) ∧ Hid (OwnI wr B nx) ∧ Hid (Tch B w wr)) (fun v _ => (intOf v).toNat)
      case atStart => exact ⟨i, cur, by omega, Nat.le_refl _, rfl, Ins.start _ _ _ _, hO.out, hT.out⟩
      case round =>
        obtain ⟨j, nx, haj, hji, rfl, hI, hO2, hT2⟩ := hrel
        have hlen : Hid (nx.length = n) := by show _ = _; rw [hI.out.len, hS.out.len, HL.out]
        have hdone : Hid ((j = a ∨ ¬ key (nx.getD j 0) < key (nx.getD (j - 1) 0)) → Rea zs nx a (i + 1) ∧ SrtI key nx a (i + 1)) := fun hc => by
          have hE2 : ∀ k, a ≤ k → k < i → cur.getD k 0 < cur.getD i 0 := fun k k1 k2 => by
            obtain ⟨q, q1, q2, e⟩ := hS.out.mem k k1 k2
            rw [e, hS.out.out i (by omega)]
            exact HE.out q i q1 q2 hlt
          obtain ⟨g1, g2⟩ := hI.out.done haj hji hR.out hE2 hc
          exact ⟨(hS.out.mono (Nat.le_refl _) (by omega)).trans g2, g1⟩
        by_cases hja : a < j
        · have c1 := hO2.out.cell (i := j) (by have := hlen.out; omega)
          have c2 := hO2.out.cell (i := j - 1) (by have := hlen.out; omega)
          have z1 := hO2.out.frozen j
          have z2 := hO2.out.frozen (j - 1)
          have dd : DomI nx N := HD.out.perm (hI.out.perm.trans hS.out.perm)
          have d1 := dd j (by have := hlen.out; omega)
          have d2 := dd (j - 1) (by have := hlen.out; omega)
          clear dd
          obtain ⟨x, hx⟩ : ∃ x, nx.getD j 0 = x := ⟨_, rfl⟩
          obtain ⟨y, hy⟩ : ∃ y, nx.getD (j - 1) 0 = y := ⟨_, rfl⟩
          rw [hx] at c1 d1
          rw [hy] at c2 d2
          have HX := Lib.hid hx
          have HY := Lib.hid hy
          obtain ⟨d11, d12⟩ := d1
          obtain ⟨d21, d22⟩ := d2
          have hC' := Lib.hid (HC.out.tch hT2.out)
          have b0 : (0 : Int) ≤ (j : Int) - 1 := by omega
          have b1 : (j : Int) - 1 < (n : Int) := by omega
          have b2 : (j : Int) < (n : Int) := by omega
          have b3 : ((j : Int) - 1).toNat = j - 1 := by omega
          clear hx hy
          go_wp2_with fail
          by_cases hc : key x < key y
          · have hcn : cmpI (key x) (key y) < 0 := cmpI_neg.2 hc
            go_quiet ((go_at_call 45; exact Calls.quiet_of (hC'.out.at _ x y d11 d12 d21 d22)))
            go_wp2_with fail
            go_region
            go_wp2_with fail
            go_roundw
            case rel =>
              refine ⟨j - 1, sw nx j (j - 1), by omega, by omega, by go_num, hI.out.step' (by omega) hji (by have := hS.out.len; have := HL.out; omega) (by rw [HX.out, HY.out]; exact hc), ?_, ?_⟩
              · show OwnI _ B _
                unfold sw
                rw [HX.out, HY.out]
                exact ((hO2.out.drewN _).set (by have := hlen.out; omega) _).set (by have := hlen.out; simp; omega) _
              · show Tch B w _
                exact ((hT2.out.drewN _).set _ _).set _ _
            case measure => simp [intOf]; omega
          · have hcn : ¬ cmpI (key x) (key y) < 0 := fun h => hc (cmpI_neg.1 h)
            go_quiet ((go_at_call 45; exact Calls.quiet_of (hC'.out.at _ x y d11 d12 d21 d22)))
            go_wp2_with fail
            go_roundw
            case rel =>
              obtain ⟨g1, g2⟩ := hdone.out (Or.inr (by rw [HX.out, HY.out]; omega))
              exact ⟨i + 1, nx, by omega, by omega, by go_num, g1, g2, hO2.out.drewN _, hT2.out.drewN _⟩
            case measure => simp [intOf]; omega
        · have hd : decide ((a : Int) < (j : Int)) = false := by simp; omega
          go_wp2_with fail
          go_quiet (fail)
          go_wp2_with fail
          go_roundw
          case rel =>
            obtain ⟨g1, g2⟩ := hdone.out (Or.inl (by omega))
            exact ⟨i + 1, nx, by omega, by omega, by go_num, g1, g2, hO2.out.drewN _, hT2.out.drewN _⟩
          case measure => simp [intOf]; omega
    · go_wp2_with fail
      go_end0
      refine ⟨rfl, cur, ?_, hR.out.sub (Nat.le_refl _) (by omega), hO.out, hT.out⟩
      rcases hib with h | h
      · obtain rfl : i = b := by omega
        exact hS.out
      · subst h
        rcases Nat.lt_or_eq_of_le hab with g | g
        · obtain rfl : b = a + 1 := by omega
          exact hS.out
        · subst g
          exact hS.out.one

end

section
set_option linter.unusedSimpArgs false
set_option linter.unusedVariables false
open Go.RowKit

theorem rotate_at (B n cap : Nat) (zs : List Int) (a m b : Nat) (a' m' b' : Int) (f : Value) (w : World) (hl : zs.length = n) (hO : OwnI w B zs) (ha' : a' = a) (hm' : m' = m) (hb' : b' = b) (ham : a < m) (hmb : m < b) (hb : b ≤ n) (hn : n ≤ 1000000) :
    Calls Try.prog 68 #[.slice (some ⟨B, 0, none⟩) n cap, .int .i64 a', .int .i64 m', .int .i64 b', f] w
      fun e w' => e = .returned (.tuple #[]) ∧ ∃ zs', Rot zs zs' a m b ∧ OwnI w' B zs' ∧ Tch B w w' := by
  subst ha' hm' hb'
  exact rotate_any B n cap zs a m b f w hl hO ham hmb hb hn

theorem ErlI.congr {zs zs' : List Int} {a m b : Nat} (h : ErlI zs a m b) (e : ∀ i, a ≤ i → i < b → zs'.getD i 0 = zs.getD i 0) : ErlI zs' a m b := fun i j h1 h2 h3 h4 => by
  rw [e i h1 (by omega), e j (by omega) h4]; exact h i j h1 h2 h3 h4
theorem Rot.left' {zs cur : List Int} {m k : Nat} (h : Rot zs cur k m (m + 1)) (h0 : 0 < k) (hk : k ≤ m) (hl : m < zs.length) : Rot zs (sw cur k (k - 1)) (k - 1) m (m + 1) := by
  obtain ⟨j, rfl⟩ : ∃ j, k = j + 1 := ⟨k - 1, by omega⟩
  exact h.left (by omega) hl

/-- What a merge is asked, and what it does. -/
def MergeOk (B n cap N : Nat) (key : Int → Int) (p : Addr) (k : Nat) : Prop := ∀ (zs : List Int) (a m b : Nat) (a' m' b' : Int) (w : World), b - a ≤ k → a' = a → m' = m → b' = b → zs.length = n → OwnI w B zs → DomI zs N →
    CmpOk 45 key N p B w → a < m → m < b → b ≤ n → SrtI key zs a m → SrtI key zs m b → ErlI zs a m b →
    Calls Try.prog 67 #[.slice (some ⟨B, 0, none⟩) n cap, .int .i64 a', .int .i64 m', .int .i64 b', .func (.func 45) #[] #[.pointer (some p)]] w
      fun e w' => e = .returned (.tuple #[]) ∧ ∃ zs', Rea zs zs' a b ∧ SrtI key zs' a b ∧ OwnI w' B zs' ∧ Tch B w w'

set_option maxRecDepth 100000 in
set_option maxHeartbeats 6400000 in
/-- The left run is one element. -/
theorem symMerge_one (B n cap N : Nat) (key : Int → Int) (p : Addr) (hn : n ≤ 1000000) (hN : N ≤ 1000000) (zs : List Int) (a m b : Nat) (w : World) (hl : zs.length = n) (hO : OwnI w B zs) (hD : DomI zs N)
    (hC : CmpOk 45 key N p B w) (hm1 : m = a + 1) (hmb : m < b) (hb : b ≤ n) (hs2 : SrtI key zs m b) (hE : ErlI zs a m b) :
    Calls Try.prog 67 #[.slice (some ⟨B, 0, none⟩) n cap, .int .i64 a, .int .i64 m, .int .i64 b, .func (.func 45) #[] #[.pointer (some p)]] w
      fun e w' => e = .returned (.tuple #[]) ∧ ∃ zs', Rea zs zs' a b ∧ SrtI key zs' a b ∧ OwnI w' B zs' ∧ Tch B w w' := by
  have q1 : ((m : Int) - (a : Int) == 1) = true := by simp; omega
  have HO := Lib.hid hO
  have HL := Lib.hid hl
  have HC := Lib.hid hC
  have HD := Lib.hid hD
  have HS2 := Lib.hid hs2
  have HE := Lib.hid hE
  have HM := Lib.hid hm1
  have ham : a < m := by omega
  have ham2 : m ≤ a + 1 := by omega
  clear hO hl hC hD hs2 hE hm1
  go_enter Try.func67, Try.ntmps67
  go_wp2_with fail
  go_loopw [10, 11] (fun u v wr => ∃ i j : Nat, m ≤ i ∧ i ≤ j ∧ j ≤ b ∧ u = .int .i64 i ∧ v = .int .i64 j ∧ Hid (i = m ∨ key (zs.getD (i - 1) 0) < key (zs.getD a 0)) ∧ Hid (j = b ∨ key (zs.getD a 0) ≤ key (zs.getD j 0)) ∧ Hid (OwnI wr B zs) ∧ Hid (Tch B w wr)) (fun u v _ => (intOf v).toNat - (intOf u).toNat)
  case atStart => exact ⟨m, b, Nat.le_refl _, by omega, Nat.le_refl _, rfl, rfl, Or.inl rfl, Or.inl rfl, HO.out, Tch.refl _ _⟩
  case round =>
    obtain ⟨i, j, hi, hij, hj, rfl, rfl, hc1, hc2, hO2, hT2⟩ := hrel
    by_cases hlt : i < j
    · obtain ⟨h, hh⟩ : ∃ h, (i + j) / 2 = h := ⟨_, rfl⟩
      have e1 : ((i : Int) + (j : Int)) / 2 = (h : Int) := by omega
      have hi1 : i ≤ h := by omega
      have hj1 : h < j := by omega
      have HH := Lib.hid hh
      clear hh
      have c1 := hO2.out.cell (i := h) (by have := HL.out; omega)
      have c2 := hO2.out.cell (i := a) (by have := HL.out; omega)
      have d1 := HD.out h (by have := HL.out; omega)
      have d2 := HD.out a (by have := HL.out; omega)
      obtain ⟨x, hx⟩ : ∃ x, zs.getD h 0 = x := ⟨_, rfl⟩
      obtain ⟨y, hy⟩ : ∃ y, zs.getD a 0 = y := ⟨_, rfl⟩
      rw [hx] at c1 d1
      rw [hy] at c2 d2
      have HX := Lib.hid hx
      have HY := Lib.hid hy
      obtain ⟨d11, d12⟩ := d1
      obtain ⟨d21, d22⟩ := d2
      have hC' := Lib.hid (HC.out.tch hT2.out)
      have b0 : (0 : Int) ≤ (h : Int) := by omega
      have b1 : (h : Int) < (n : Int) := by omega
      have b2 : (0 : Int) ≤ (a : Int) := by omega
      have b3 : (a : Int) < (n : Int) := by omega
      clear hx hy
      go_wp2_with fail
      by_cases hc : key x < key y
      · have hcn : cmpI (key x) (key y) < 0 := cmpI_neg.2 hc
        go_quiet ((go_at_call 45; exact Calls.quiet_of (hC'.out.at _ x y d11 d12 d21 d22)))
        go_wp2_with fail
        go_roundw
        case rel => exact ⟨h + 1, j, by omega, by omega, by omega, by go_num, rfl, Or.inr (by rw [show h + 1 - 1 = h by omega, HX.out, HY.out]; omega), hc2, hO2.out.drewN _, hT2.out.drewN _⟩
        case measure => simp [intOf]; omega
      · have hcn : ¬ cmpI (key x) (key y) < 0 := fun h => hc (cmpI_neg.1 h)
        go_quiet ((go_at_call 45; exact Calls.quiet_of (hC'.out.at _ x y d11 d12 d21 d22)))
        go_wp2_with fail
        go_roundw
        case rel => exact ⟨i, h, by omega, by omega, by omega, rfl, rfl, hc1, Or.inr (by rw [HX.out, HY.out]; omega), hO2.out.drewN _, hT2.out.drewN _⟩
        case measure => simp [intOf]; omega
    · obtain rfl : i = j := by omega
      go_wp2_with fail
      obtain ⟨wo, hwo⟩ : ∃ wo : World, wo = wr := ⟨_, rfl⟩
      subst hwo
      go_loopw [13] (fun u wr => ∃ k : Nat, ∃ cur : List Int, a ≤ k ∧ k + 1 ≤ i ∧ u = .int .i64 k ∧ Hid (Rot zs cur a (a + 1) (k + 1)) ∧ Hid (OwnI wr B cur) ∧ Hid (Tch B w wr)) (fun u _ => i - (intOf u).toNat)
      case atStart => exact ⟨a, zs, Nat.le_refl _, by omega, rfl, Rot.same zs (Or.inr rfl), hO2.out, hT2.out⟩
      case round =>
        obtain ⟨k, cur, hak, hki, rfl, hR, hO3, hT3⟩ := hrel
        have hlen : Hid (cur.length = n) := by show _ = _; rw [hR.out.len, HL.out]
        by_cases hk : k + 1 < i
        · have c1 := hO3.out.cell (i := k) (by have := hlen.out; omega)
          have c2 := hO3.out.cell (i := k + 1) (by have := hlen.out; omega)
          have z1 := hO3.out.frozen k
          have z2 := hO3.out.frozen (k + 1)
          obtain ⟨x, hx⟩ : ∃ x, cur.getD k 0 = x := ⟨_, rfl⟩
          obtain ⟨y, hy⟩ : ∃ y, cur.getD (k + 1) 0 = y := ⟨_, rfl⟩
          rw [hx] at c1
          rw [hy] at c2
          have HX := Lib.hid hx
          have HY := Lib.hid hy
          have b0 : (k : Int) < (n : Int) := by omega
          have b1 : (k : Int) + 1 < (n : Int) := by omega
          clear hx hy
          go_wp2_with fail
          go_region
          go_wp2_with fail
          go_roundw
          case rel =>
            refine ⟨k + 1, sw cur k (k + 1), by omega, by omega, by go_num, hR.out.right hak (by have := HL.out; omega), ?_, ?_⟩
            · show OwnI _ B _
              unfold sw
              rw [HX.out, HY.out]
              exact ((hO3.out.drew).set (by have := hlen.out; omega) _).set (by have := hlen.out; simp; omega) _
            · show Tch B w _
              exact ((hT3.out.drew).set _ _).set _ _
          case measure => simp [intOf]; omega
        · obtain rfl : i = k + 1 := by omega
          go_wp2_with fail
          refine bodyPost_ret (v := .tuple #[]) (by simp [results, Try.results67, go_sem]) rfl ?_
          have hm1 := HM.out
          subst hm1
          exact ⟨rfl, cur, (hR.out.rea (by omega) (by omega)).mono (Nat.le_refl _) hj, merge_right HS2.out HE.out hi hj hc1.out (hc2.out.imp id (fun h => by omega)) hR.out, hO3.out, hT3.out⟩

set_option maxRecDepth 100000 in
set_option maxHeartbeats 6400000 in
/-- The right run is one element, the left one more. -/
theorem symMerge_last (B n cap N : Nat) (key : Int → Int) (p : Addr) (hn : n ≤ 1000000) (hN : N ≤ 1000000) (zs : List Int) (a m b : Nat) (w : World) (hl : zs.length = n) (hO : OwnI w B zs) (hD : DomI zs N)
    (hC : CmpOk 45 key N p B w) (hm1 : a + 1 < m) (hmb : b = m + 1) (hb : b ≤ n) (hs1 : SrtI key zs a m) (hE : ErlI zs a m b) :
    Calls Try.prog 67 #[.slice (some ⟨B, 0, none⟩) n cap, .int .i64 a, .int .i64 m, .int .i64 b, .func (.func 45) #[] #[.pointer (some p)]] w
      fun e w' => e = .returned (.tuple #[]) ∧ ∃ zs', Rea zs zs' a b ∧ SrtI key zs' a b ∧ OwnI w' B zs' ∧ Tch B w w' := by
  have q1 : ((m : Int) - (a : Int) == 1) = false := by simp; omega
  have q2 : ((b : Int) - (m : Int) == 1) = true := by simp; omega
  have HO := Lib.hid hO
  have HL := Lib.hid hl
  have HC := Lib.hid hC
  have HD := Lib.hid hD
  have HS1 := Lib.hid hs1
  have HE := Lib.hid hE
  have HM := Lib.hid hmb
  have hmb1 : m < b := by omega
  have hmb2 : b ≤ m + 1 := by omega
  clear hO hl hC hD hs1 hE hmb
  go_enter Try.func67, Try.ntmps67
  go_wp2_with fail
  go_loopw [14, 15] (fun u v wr => ∃ i j : Nat, a ≤ i ∧ i ≤ j ∧ j ≤ m ∧ u = .int .i64 i ∧ v = .int .i64 j ∧ Hid (i = a ∨ key (zs.getD (i - 1) 0) ≤ key (zs.getD m 0)) ∧ Hid (j = m ∨ key (zs.getD m 0) < key (zs.getD j 0)) ∧ Hid (OwnI wr B zs) ∧ Hid (Tch B w wr)) (fun u v _ => (intOf v).toNat - (intOf u).toNat)
  case atStart => exact ⟨a, m, Nat.le_refl _, by omega, Nat.le_refl _, rfl, rfl, Or.inl rfl, Or.inl rfl, HO.out, Tch.refl _ _⟩
  case round =>
    obtain ⟨i, j, hi, hij, hj, rfl, rfl, hc1, hc2, hO2, hT2⟩ := hrel
    by_cases hlt : i < j
    · obtain ⟨h, hh⟩ : ∃ h, (i + j) / 2 = h := ⟨_, rfl⟩
      have e1 : ((i : Int) + (j : Int)) / 2 = (h : Int) := by omega
      have hi1 : i ≤ h := by omega
      have hj1 : h < j := by omega
      have HH := Lib.hid hh
      clear hh
      have c1 := hO2.out.cell (i := m) (by have := HL.out; omega)
      have c2 := hO2.out.cell (i := h) (by have := HL.out; omega)
      have d1 := HD.out m (by have := HL.out; omega)
      have d2 := HD.out h (by have := HL.out; omega)
      obtain ⟨x, hx⟩ : ∃ x, zs.getD m 0 = x := ⟨_, rfl⟩
      obtain ⟨y, hy⟩ : ∃ y, zs.getD h 0 = y := ⟨_, rfl⟩
      rw [hx] at c1 d1
      rw [hy] at c2 d2
      have HX := Lib.hid hx
      have HY := Lib.hid hy
      obtain ⟨d11, d12⟩ := d1
      obtain ⟨d21, d22⟩ := d2
      have hC' := Lib.hid (HC.out.tch hT2.out)
      have b0 : (0 : Int) ≤ (h : Int) := by omega
      have b1 : (h : Int) < (n : Int) := by omega
      have b2 : (0 : Int) ≤ (m : Int) := by omega
      have b3 : (m : Int) < (n : Int) := by omega
      clear hx hy
      go_wp2_with fail
      by_cases hc : key x < key y
      · have hcn : cmpI (key x) (key y) < 0 := cmpI_neg.2 hc
        go_quiet ((go_at_call 45; exact Calls.quiet_of (hC'.out.at _ x y d11 d12 d21 d22)))
        go_wp2_with fail
        go_roundw
        case rel => exact ⟨i, h, by omega, by omega, by omega, rfl, rfl, hc1, Or.inr (by rw [HX.out, HY.out]; omega), hO2.out.drewN _, hT2.out.drewN _⟩
        case measure => simp [intOf]; omega
      · have hcn : ¬ cmpI (key x) (key y) < 0 := fun h => hc (cmpI_neg.1 h)
        go_quiet ((go_at_call 45; exact Calls.quiet_of (hC'.out.at _ x y d11 d12 d21 d22)))
        go_wp2_with fail
        go_roundw
        case rel => exact ⟨h + 1, j, by omega, by omega, by omega, by go_num, rfl, Or.inr (by rw [show h + 1 - 1 = h by omega, HX.out, HY.out]; omega), hc2, hO2.out.drewN _, hT2.out.drewN _⟩
        case measure => simp [intOf]; omega
    · obtain rfl : i = j := by omega
      go_wp2_with fail
      obtain ⟨wo, hwo⟩ : ∃ wo : World, wo = wr := ⟨_, rfl⟩
      subst hwo
      go_loopw [17] (fun u wr => ∃ k : Nat, ∃ cur : List Int, i ≤ k ∧ k ≤ m ∧ u = .int .i64 k ∧ Hid (Rot zs cur k m (m + 1)) ∧ Hid (OwnI wr B cur) ∧ Hid (Tch B w wr)) (fun u _ => (intOf u).toNat)
      case atStart => exact ⟨m, zs, by omega, Nat.le_refl _, rfl, Rot.same zs (Or.inl rfl), hO2.out, hT2.out⟩
      case round =>
        obtain ⟨k, cur, hak, hki, rfl, hR, hO3, hT3⟩ := hrel
        have hlen : Hid (cur.length = n) := by show _ = _; rw [hR.out.len, HL.out]
        by_cases hk : i < k
        · have c1 := hO3.out.cell (i := k) (by have := hlen.out; omega)
          have c2 := hO3.out.cell (i := k - 1) (by have := hlen.out; omega)
          have z1 := hO3.out.frozen k
          have z2 := hO3.out.frozen (k - 1)
          obtain ⟨x, hx⟩ : ∃ x, cur.getD k 0 = x := ⟨_, rfl⟩
          obtain ⟨y, hy⟩ : ∃ y, cur.getD (k - 1) 0 = y := ⟨_, rfl⟩
          rw [hx] at c1
          rw [hy] at c2
          have HX := Lib.hid hx
          have HY := Lib.hid hy
          have b0 : (0 : Int) ≤ (k : Int) - 1 := by omega
          have b1 : (k : Int) < (n : Int) := by omega
          have b2 : (k : Int) - 1 < (n : Int) := by omega
          have b3 : ((k : Int) - 1).toNat = k - 1 := by omega
          clear hx hy
          go_wp2_with fail
          go_region
          go_wp2_with fail
          go_roundw
          case rel =>
            refine ⟨k - 1, sw cur k (k - 1), by omega, by omega, by go_num, hR.out.left' (by omega) hki (by have := HL.out; omega), ?_, ?_⟩
            · show OwnI _ B _
              unfold sw
              rw [HX.out, HY.out]
              exact ((hO3.out.drew).set (by have := hlen.out; omega) _).set (by have := hlen.out; simp; omega) _
            · show Tch B w _
              exact ((hT3.out.drew).set _ _).set _ _
          case measure => simp [intOf]; omega
        · obtain rfl : i = k := by omega
          go_wp2_with fail
          refine bodyPost_ret (v := .tuple #[]) (by simp [results, Try.results67, go_sem]) rfl ?_
          have hm1 := HM.out
          subst hm1
          exact ⟨rfl, cur, (hR.out.rea (by omega) (by omega)).mono hi (Nat.le_refl _), merge_left HS1.out HE.out hi hj (hc1.out.imp id (fun h => by omega)) hc2.out hR.out, hO3.out, hT3.out⟩


set_option maxRecDepth 100000 in
set_option maxHeartbeats 12800000 in
/-- Both runs are longer than one. -/
theorem symMerge_more (B n cap N : Nat) (key : Int → Int) (p : Addr) (hn : n ≤ 1000000) (hN : N ≤ 1000000) (kk : Nat) (ih : MergeOk B n cap N key p kk) (zs : List Int) (a m b : Nat) (w : World) (hkk : b - a ≤ kk + 1) (hl : zs.length = n) (hO : OwnI w B zs) (hD : DomI zs N)
    (hC : CmpOk 45 key N p B w) (ham : a + 1 < m) (hmb : m + 1 < b) (hb : b ≤ n) (hs1 : SrtI key zs a m) (hs2 : SrtI key zs m b) (hE : ErlI zs a m b) :
    Calls Try.prog 67 #[.slice (some ⟨B, 0, none⟩) n cap, .int .i64 a, .int .i64 m, .int .i64 b, .func (.func 45) #[] #[.pointer (some p)]] w
      fun e w' => e = .returned (.tuple #[]) ∧ ∃ zs', Rea zs zs' a b ∧ SrtI key zs' a b ∧ OwnI w' B zs' ∧ Tch B w w' := by
  have q1 : ((m : Int) - (a : Int) == 1) = false := by simp; omega
  have q2 : ((b : Int) - (m : Int) == 1) = false := by simp; omega
  obtain ⟨mid, hmd⟩ : ∃ mid, (a + b) / 2 = mid := ⟨_, rfl⟩
  have e1 : ((a : Int) + (b : Int)) / 2 = (mid : Int) := by omega
  have md1 : 2 * mid ≤ a + b := by omega
  have md2 : a + b < 2 * mid + 2 := by omega
  have HO := Lib.hid hO
  have HL := Lib.hid hl
  have HC := Lib.hid hC
  have HD := Lib.hid hD
  have HS1 := Lib.hid hs1
  have HS2 := Lib.hid hs2
  have HE := Lib.hid hE
  have IH := Lib.hid ih
  clear hO hl hC hD hs1 hs2 hE ih hmd
  obtain ⟨lo, hi, hlo⟩ : ∃ lo hi : Nat, (mid < m ∧ lo + b = mid + m ∧ hi = mid) ∨ (m ≤ mid ∧ lo = a ∧ hi = m) := by
    by_cases h : mid < m
    · exact ⟨mid + m - b, mid, Or.inl ⟨h, by omega, rfl⟩⟩
    · exact ⟨a, m, Or.inr ⟨by omega, rfl, rfl⟩⟩
  have HLO : Hid (lo ≤ hi ∧ a ≤ lo ∧ hi ≤ m ∧ hi ≤ mid ∧ mid + m ≤ lo + b ∧ (lo = a ∨ mid + m = lo + b) ∧ (hi = m ∨ hi = mid)) := by show _ ∧ _; omega
  obtain ⟨l1, l2, l3, l4, l5, l6, l7⟩ := HLO.out
  clear l6 l7
  rcases hlo with ⟨hlo1, hlo2, hlo3⟩ | ⟨hlo1, hlo2, hlo3⟩
  · go_enter Try.func67, Try.ntmps67
    have HLO2 := Lib.hid hlo2
    have HLO3 := Lib.hid hlo3
    clear hlo2 hlo3
    go_wp2_with fail
    go_loopw [20, 21] (fun u v wr => ∃ s r : Nat, lo ≤ s ∧ s ≤ r ∧ r ≤ hi ∧ u = .int .i64 s ∧ v = .int .i64 r ∧ Hid (s = lo ∨ key (zs.getD (s - 1) 0) ≤ key (zs.getD (mid + m - s) 0)) ∧ Hid (r = hi ∨ key (zs.getD (mid + m - 1 - r) 0) < key (zs.getD r 0)) ∧ Hid (OwnI wr B zs) ∧ Hid (Tch B w wr)) (fun u v _ => (intOf v).toNat - (intOf u).toNat)
    case atStart => exact ⟨lo, hi, Nat.le_refl _, by omega, Nat.le_refl _, by have := HLO2.out; first | go_num | (rw [this]), by rw [HLO3.out], Or.inl rfl, Or.inl rfl, HO.out, Tch.refl _ _⟩
    case round =>
      obtain ⟨s, r, hs, hsr, hr, rfl, rfl, hc1, hc2, hO2, hT2⟩ := hrel
      by_cases hlt : s < r
      · obtain ⟨c, hh⟩ : ∃ c, (s + r) / 2 = c := ⟨_, rfl⟩
        have e2 : ((s : Int) + (r : Int)) / 2 = (c : Int) := by omega
        have hi1 : s ≤ c := by omega
        have hj1 : c < r := by omega
        have HH := Lib.hid hh
        clear hh
        obtain ⟨q, hq⟩ : ∃ q, mid + m - 1 - c = q := ⟨_, rfl⟩
        have e3 : (mid : Int) + (m : Int) - 1 - (c : Int) = (q : Int) := by omega
        have hq1 : m ≤ q := by omega
        have hq2 : q < b := by omega
        have c1 := hO2.out.cell (i := q) (by have := HL.out; omega)
        have c2 := hO2.out.cell (i := c) (by have := HL.out; omega)
        have d1 := HD.out q (by have := HL.out; omega)
        have d2 := HD.out c (by have := HL.out; omega)
        obtain ⟨x, hx⟩ : ∃ x, zs.getD q 0 = x := ⟨_, rfl⟩
        obtain ⟨y, hy⟩ : ∃ y, zs.getD c 0 = y := ⟨_, rfl⟩
        rw [hx] at c1 d1
        rw [hy] at c2 d2
        have HX := Lib.hid hx
        have HY := Lib.hid hy
        have HQ := Lib.hid hq
        obtain ⟨d11, d12⟩ := d1
        obtain ⟨d21, d22⟩ := d2
        have hC' := Lib.hid (HC.out.tch hT2.out)
        have b0 : (0 : Int) ≤ (c : Int) := by omega
        have b1 : (c : Int) < (n : Int) := by omega
        have b2 : (0 : Int) ≤ (q : Int) := by omega
        have b3 : (q : Int) < (n : Int) := by omega
        clear hx hy hq
        go_wp2_with fail
        by_cases hc : key x < key y
        · have hcn : cmpI (key x) (key y) < 0 := cmpI_neg.2 hc
          go_quiet ((go_at_call 45; exact Calls.quiet_of (hC'.out.at _ x y d11 d12 d21 d22)))
          go_wp2_with fail
          go_roundw
          case rel => exact ⟨s, c, by omega, by omega, by omega, rfl, rfl, hc1, Or.inr (by rw [HQ.out, HX.out, HY.out]; omega), hO2.out.drewN _, hT2.out.drewN _⟩
          case measure => simp [intOf]; omega
        · have hcn : ¬ cmpI (key x) (key y) < 0 := fun h => hc (cmpI_neg.1 h)
          go_quiet ((go_at_call 45; exact Calls.quiet_of (hC'.out.at _ x y d11 d12 d21 d22)))
          go_wp2_with fail
          go_roundw
          case rel => exact ⟨c + 1, r, by omega, by omega, by omega, by go_num, rfl, Or.inr (by rw [show c + 1 - 1 = c by omega, show mid + m - (c + 1) = mid + m - 1 - c by omega, HQ.out, HX.out, HY.out]; omega), hc2, hO2.out.drewN _, hT2.out.drewN _⟩
          case measure => simp [intOf]; omega
      · obtain rfl : s = r := by omega
        obtain ⟨e, he⟩ : ∃ e, mid + m - s = e := ⟨_, rfl⟩
        have e2 : (mid : Int) + (m : Int) - (s : Int) = (e : Int) := by omega
        have hmid : mid + m = s + e := by omega
        have HA : Hid (s = a ∨ e = b ∨ key (zs.getD (s - 1) 0) ≤ key (zs.getD e 0)) := by
          rcases hc1.out with h | h
          · rcases HLO.out.2.2.2.2.2.1 with g | g
            · exact Or.inl (by omega)
            · exact Or.inr (Or.inl (by omega))
          · rw [he] at h; exact Or.inr (Or.inr h)
        have HB : Hid (s = m ∨ e = m ∨ key (zs.getD (e - 1) 0) < key (zs.getD s 0)) := by
          rcases hc2.out with h | h
          · rcases HLO.out.2.2.2.2.2.2 with g | g
            · exact Or.inl (by omega)
            · exact Or.inr (Or.inl (by omega))
          · rw [show mid + m - 1 - s = e - 1 by omega] at h; exact Or.inr (Or.inr h)
        clear hc1 hc2
        have HMID := Lib.hid hmid
        have he1 : m ≤ e := by omega
        have he2 : e ≤ b := by omega
        clear he
        by_cases P : s < m
        · by_cases R : s < mid
          · by_cases A : a < s
            · by_cases Z : e < b
              ·
                try (exfalso; have := HLO2.out; have := HLO3.out; omega)
                all_goals
                  go_wp2_with fail
                  refine (rotate_at B n cap zs s m e _ _ _ _ _ HL.out hO2.out rfl rfl rfl (by omega) (by omega) (by omega) hn).mono ?_
                  rintro e1 w1 ⟨rfl, z2, g1, g2, g3⟩
                  have HR2 := Lib.hid g1
                  have HO2 := Lib.hid g2
                  have HT2 := Lib.hid (hT2.out.trans g3)
                  clear g1 g2 g3
                  have HM2 := Lib.hid (merge_halves HS1.out HS2.out HE.out (show a ≤ s by omega) (show s ≤ m by omega) (show m ≤ e by omega) (show e ≤ b by omega) hmid HR2.out)
                  have HL2 : Hid (z2.length = n) := by show _ = _; rw [HR2.out.len, HL.out]
                  have HD2 := Lib.hid (HD.out.perm HR2.out.perm)
                  go_wp2_with fail
                  refine (IH.out z2 a s mid _ _ _ _ (by omega) rfl rfl rfl HL2.out HO2.out HD2.out (HC.out.tch HT2.out) (by omega) (by omega) (by omega) HM2.out.1 HM2.out.2.1 HM2.out.2.2.1).mono ?_
                  rintro e1 w2 ⟨rfl, z3, g0, g1, g2, g3⟩
                  have HR3 := Lib.hid g0
                  have HS3 := Lib.hid g1
                  have HO3 := Lib.hid g2
                  have HT3 := Lib.hid (HT2.out.trans g3)
                  clear g0 g1 g2 g3
                  have HL3 : Hid (z3.length = n) := by show _ = _; rw [HR3.out.len, HL2.out]
                  have HD3 := Lib.hid (HD2.out.perm HR3.out.perm)
                  have HQ1 : Hid (SrtI key z3 mid e) := SrtI.congr HM2.out.2.2.2.1 (fun i i1 i2 => HR3.out.out i (by omega))
                  have HQ2 : Hid (SrtI key z3 e b) := SrtI.congr HM2.out.2.2.2.2.1 (fun i i1 i2 => HR3.out.out i (by omega))
                  have HQ3 : Hid (ErlI z3 mid e b) := ErlI.congr HM2.out.2.2.2.2.2 (fun i i1 i2 => HR3.out.out i (by omega))
                  go_wp2_with fail
                  refine (IH.out z3 mid e b _ _ _ _ (by omega) rfl rfl rfl HL3.out HO3.out HD3.out (HC.out.tch HT3.out) (by omega) (by omega) (by omega) HQ1.out HQ2.out HQ3.out).mono ?_
                  rintro e1 w3 ⟨rfl, z4, g0, g1, g2, g3⟩
                  have HR4 := Lib.hid g0
                  have HS4 := Lib.hid g1
                  have HO4 := Lib.hid g2
                  have HT4 := Lib.hid (HT3.out.trans g3)
                  clear g0 g1 g2 g3
                  go_wp2_with fail
                  go_end0
                  obtain ⟨f1, f2⟩ := merge_join HS1.out HS2.out HE.out (show a ≤ s by omega) (show s ≤ m by omega) (show m ≤ e by omega) (show e ≤ b by omega) hmid (HA.out.imp id (fun h => h.imp id (fun g => by omega))) HB.out HR2.out HR3.out HS3.out HR4.out HS4.out
                  exact ⟨rfl, z4, f2, f1, HO4.out, HT4.out⟩
              ·
                try (exfalso; have := HLO2.out; have := HLO3.out; omega)
                all_goals
                  go_wp2_with fail
                  refine (rotate_at B n cap zs s m e _ _ _ _ _ HL.out hO2.out rfl rfl rfl (by omega) (by omega) (by omega) hn).mono ?_
                  rintro e1 w1 ⟨rfl, z2, g1, g2, g3⟩
                  have HR2 := Lib.hid g1
                  have HO2 := Lib.hid g2
                  have HT2 := Lib.hid (hT2.out.trans g3)
                  clear g1 g2 g3
                  have HM2 := Lib.hid (merge_halves HS1.out HS2.out HE.out (show a ≤ s by omega) (show s ≤ m by omega) (show m ≤ e by omega) (show e ≤ b by omega) hmid HR2.out)
                  have HL2 : Hid (z2.length = n) := by show _ = _; rw [HR2.out.len, HL.out]
                  have HD2 := Lib.hid (HD.out.perm HR2.out.perm)
                  go_wp2_with fail
                  refine (IH.out z2 a s mid _ _ _ _ (by omega) rfl rfl rfl HL2.out HO2.out HD2.out (HC.out.tch HT2.out) (by omega) (by omega) (by omega) HM2.out.1 HM2.out.2.1 HM2.out.2.2.1).mono ?_
                  rintro e1 w2 ⟨rfl, z3, g0, g1, g2, g3⟩
                  have HR3 := Lib.hid g0
                  have HS3 := Lib.hid g1
                  have HO3 := Lib.hid g2
                  have HT3 := Lib.hid (HT2.out.trans g3)
                  clear g0 g1 g2 g3
                  have HL3 : Hid (z3.length = n) := by show _ = _; rw [HR3.out.len, HL2.out]
                  have HD3 := Lib.hid (HD2.out.perm HR3.out.perm)
                  have HQ1 : Hid (SrtI key z3 mid e) := SrtI.congr HM2.out.2.2.2.1 (fun i i1 i2 => HR3.out.out i (by omega))
                  have HQ2 : Hid (SrtI key z3 e b) := SrtI.congr HM2.out.2.2.2.2.1 (fun i i1 i2 => HR3.out.out i (by omega))
                  have HQ3 : Hid (ErlI z3 mid e b) := ErlI.congr HM2.out.2.2.2.2.2 (fun i i1 i2 => HR3.out.out i (by omega))
                  obtain ⟨z4, hz4⟩ : ∃ z4, z4 = z3 := ⟨_, rfl⟩
                  have HR4 : Hid (Rea z3 z4 mid b) := by rw [hz4]; exact Rea.refl _ _ _
                  have HS4 : Hid (SrtI key z4 mid b) := by
                    rw [hz4]
                    by_cases hx : e = b
                    · rw [← hx]; exact HQ1.out
                    · rw [show mid = e by omega]; exact HQ2.out
                  have HO4 := HO3
                  rw [← hz4] at HO4
                  have HT4 := Lib.hid HT3.out
                  clear hz4
                  go_wp2_with fail
                  go_end0
                  obtain ⟨f1, f2⟩ := merge_join HS1.out HS2.out HE.out (show a ≤ s by omega) (show s ≤ m by omega) (show m ≤ e by omega) (show e ≤ b by omega) hmid (HA.out.imp id (fun h => h.imp id (fun g => by omega))) HB.out HR2.out HR3.out HS3.out HR4.out HS4.out
                  exact ⟨rfl, z4, f2, f1, HO4.out, HT4.out⟩
            · by_cases Z : e < b
              ·
                try (exfalso; have := HLO2.out; have := HLO3.out; omega)
                all_goals
                  go_wp2_with fail
                  refine (rotate_at B n cap zs s m e _ _ _ _ _ HL.out hO2.out rfl rfl rfl (by omega) (by omega) (by omega) hn).mono ?_
                  rintro e1 w1 ⟨rfl, z2, g1, g2, g3⟩
                  have HR2 := Lib.hid g1
                  have HO2 := Lib.hid g2
                  have HT2 := Lib.hid (hT2.out.trans g3)
                  clear g1 g2 g3
                  have HM2 := Lib.hid (merge_halves HS1.out HS2.out HE.out (show a ≤ s by omega) (show s ≤ m by omega) (show m ≤ e by omega) (show e ≤ b by omega) hmid HR2.out)
                  have HL2 : Hid (z2.length = n) := by show _ = _; rw [HR2.out.len, HL.out]
                  have HD2 := Lib.hid (HD.out.perm HR2.out.perm)
                  obtain ⟨z3, hz3⟩ : ∃ z3, z3 = z2 := ⟨_, rfl⟩
                  have HR3 : Hid (Rea z2 z3 a mid) := by rw [hz3]; exact Rea.refl _ _ _
                  have HS3 : Hid (SrtI key z3 a mid) := by
                    rw [hz3]
                    by_cases hx : s = mid
                    · rw [← hx]; exact HM2.out.1
                    · rw [show a = s by omega]; exact HM2.out.2.1
                  have HO3 := HO2
                  rw [← hz3] at HO3
                  have HT3 := Lib.hid HT2.out
                  clear hz3
                  have HL3 : Hid (z3.length = n) := by show _ = _; rw [HR3.out.len, HL2.out]
                  have HD3 := Lib.hid (HD2.out.perm HR3.out.perm)
                  have HQ1 : Hid (SrtI key z3 mid e) := SrtI.congr HM2.out.2.2.2.1 (fun i i1 i2 => HR3.out.out i (by omega))
                  have HQ2 : Hid (SrtI key z3 e b) := SrtI.congr HM2.out.2.2.2.2.1 (fun i i1 i2 => HR3.out.out i (by omega))
                  have HQ3 : Hid (ErlI z3 mid e b) := ErlI.congr HM2.out.2.2.2.2.2 (fun i i1 i2 => HR3.out.out i (by omega))
                  go_wp2_with fail
                  refine (IH.out z3 mid e b _ _ _ _ (by omega) rfl rfl rfl HL3.out HO3.out HD3.out (HC.out.tch HT3.out) (by omega) (by omega) (by omega) HQ1.out HQ2.out HQ3.out).mono ?_
                  rintro e1 w3 ⟨rfl, z4, g0, g1, g2, g3⟩
                  have HR4 := Lib.hid g0
                  have HS4 := Lib.hid g1
                  have HO4 := Lib.hid g2
                  have HT4 := Lib.hid (HT3.out.trans g3)
                  clear g0 g1 g2 g3
                  go_wp2_with fail
                  go_end0
                  obtain ⟨f1, f2⟩ := merge_join HS1.out HS2.out HE.out (show a ≤ s by omega) (show s ≤ m by omega) (show m ≤ e by omega) (show e ≤ b by omega) hmid (HA.out.imp id (fun h => h.imp id (fun g => by omega))) HB.out HR2.out HR3.out HS3.out HR4.out HS4.out
                  exact ⟨rfl, z4, f2, f1, HO4.out, HT4.out⟩
              ·
                try (exfalso; have := HLO2.out; have := HLO3.out; omega)
                all_goals
                  go_wp2_with fail
                  refine (rotate_at B n cap zs s m e _ _ _ _ _ HL.out hO2.out rfl rfl rfl (by omega) (by omega) (by omega) hn).mono ?_
                  rintro e1 w1 ⟨rfl, z2, g1, g2, g3⟩
                  have HR2 := Lib.hid g1
                  have HO2 := Lib.hid g2
                  have HT2 := Lib.hid (hT2.out.trans g3)
                  clear g1 g2 g3
                  have HM2 := Lib.hid (merge_halves HS1.out HS2.out HE.out (show a ≤ s by omega) (show s ≤ m by omega) (show m ≤ e by omega) (show e ≤ b by omega) hmid HR2.out)
                  have HL2 : Hid (z2.length = n) := by show _ = _; rw [HR2.out.len, HL.out]
                  have HD2 := Lib.hid (HD.out.perm HR2.out.perm)
                  obtain ⟨z3, hz3⟩ : ∃ z3, z3 = z2 := ⟨_, rfl⟩
                  have HR3 : Hid (Rea z2 z3 a mid) := by rw [hz3]; exact Rea.refl _ _ _
                  have HS3 : Hid (SrtI key z3 a mid) := by
                    rw [hz3]
                    by_cases hx : s = mid
                    · rw [← hx]; exact HM2.out.1
                    · rw [show a = s by omega]; exact HM2.out.2.1
                  have HO3 := HO2
                  rw [← hz3] at HO3
                  have HT3 := Lib.hid HT2.out
                  clear hz3
                  have HL3 : Hid (z3.length = n) := by show _ = _; rw [HR3.out.len, HL2.out]
                  have HD3 := Lib.hid (HD2.out.perm HR3.out.perm)
                  have HQ1 : Hid (SrtI key z3 mid e) := SrtI.congr HM2.out.2.2.2.1 (fun i i1 i2 => HR3.out.out i (by omega))
                  have HQ2 : Hid (SrtI key z3 e b) := SrtI.congr HM2.out.2.2.2.2.1 (fun i i1 i2 => HR3.out.out i (by omega))
                  have HQ3 : Hid (ErlI z3 mid e b) := ErlI.congr HM2.out.2.2.2.2.2 (fun i i1 i2 => HR3.out.out i (by omega))
                  obtain ⟨z4, hz4⟩ : ∃ z4, z4 = z3 := ⟨_, rfl⟩
                  have HR4 : Hid (Rea z3 z4 mid b) := by rw [hz4]; exact Rea.refl _ _ _
                  have HS4 : Hid (SrtI key z4 mid b) := by
                    rw [hz4]
                    by_cases hx : e = b
                    · rw [← hx]; exact HQ1.out
                    · rw [show mid = e by omega]; exact HQ2.out
                  have HO4 := HO3
                  rw [← hz4] at HO4
                  have HT4 := Lib.hid HT3.out
                  clear hz4
                  go_wp2_with fail
                  go_end0
                  obtain ⟨f1, f2⟩ := merge_join HS1.out HS2.out HE.out (show a ≤ s by omega) (show s ≤ m by omega) (show m ≤ e by omega) (show e ≤ b by omega) hmid (HA.out.imp id (fun h => h.imp id (fun g => by omega))) HB.out HR2.out HR3.out HS3.out HR4.out HS4.out
                  exact ⟨rfl, z4, f2, f1, HO4.out, HT4.out⟩
          · by_cases Z : e < b
            ·
              try (exfalso; have := HLO2.out; have := HLO3.out; omega)
              all_goals
                obtain ⟨z2, hz2⟩ : ∃ z2, z2 = zs := ⟨_, rfl⟩
                have HR2 : Hid (Rot zs z2 s m e) := by rw [hz2]; exact Rot.same zs (by omega)
                have HO2 : Hid (OwnI wr B z2) := by rw [hz2]; exact hO2.out
                have HT2 := Lib.hid hT2.out
                clear hz2
                have HM2 := Lib.hid (merge_halves HS1.out HS2.out HE.out (show a ≤ s by omega) (show s ≤ m by omega) (show m ≤ e by omega) (show e ≤ b by omega) hmid HR2.out)
                have HL2 : Hid (z2.length = n) := by show _ = _; rw [HR2.out.len, HL.out]
                have HD2 := Lib.hid (HD.out.perm HR2.out.perm)
                obtain ⟨z3, hz3⟩ : ∃ z3, z3 = z2 := ⟨_, rfl⟩
                have HR3 : Hid (Rea z2 z3 a mid) := by rw [hz3]; exact Rea.refl _ _ _
                have HS3 : Hid (SrtI key z3 a mid) := by
                  rw [hz3]
                  by_cases hx : s = mid
                  · rw [← hx]; exact HM2.out.1
                  · rw [show a = s by omega]; exact HM2.out.2.1
                have HO3 := HO2
                rw [← hz3] at HO3
                have HT3 := Lib.hid HT2.out
                clear hz3
                have HL3 : Hid (z3.length = n) := by show _ = _; rw [HR3.out.len, HL2.out]
                have HD3 := Lib.hid (HD2.out.perm HR3.out.perm)
                have HQ1 : Hid (SrtI key z3 mid e) := SrtI.congr HM2.out.2.2.2.1 (fun i i1 i2 => HR3.out.out i (by omega))
                have HQ2 : Hid (SrtI key z3 e b) := SrtI.congr HM2.out.2.2.2.2.1 (fun i i1 i2 => HR3.out.out i (by omega))
                have HQ3 : Hid (ErlI z3 mid e b) := ErlI.congr HM2.out.2.2.2.2.2 (fun i i1 i2 => HR3.out.out i (by omega))
                go_wp2_with fail
                refine (IH.out z3 mid e b _ _ _ _ (by omega) rfl rfl rfl HL3.out HO3.out HD3.out (HC.out.tch HT3.out) (by omega) (by omega) (by omega) HQ1.out HQ2.out HQ3.out).mono ?_
                rintro e1 w3 ⟨rfl, z4, g0, g1, g2, g3⟩
                have HR4 := Lib.hid g0
                have HS4 := Lib.hid g1
                have HO4 := Lib.hid g2
                have HT4 := Lib.hid (HT3.out.trans g3)
                clear g0 g1 g2 g3
                go_wp2_with fail
                go_end0
                obtain ⟨f1, f2⟩ := merge_join HS1.out HS2.out HE.out (show a ≤ s by omega) (show s ≤ m by omega) (show m ≤ e by omega) (show e ≤ b by omega) hmid (HA.out.imp id (fun h => h.imp id (fun g => by omega))) HB.out HR2.out HR3.out HS3.out HR4.out HS4.out
                exact ⟨rfl, z4, f2, f1, HO4.out, HT4.out⟩
            ·
              try (exfalso; have := HLO2.out; have := HLO3.out; omega)
              all_goals
                obtain ⟨z2, hz2⟩ : ∃ z2, z2 = zs := ⟨_, rfl⟩
                have HR2 : Hid (Rot zs z2 s m e) := by rw [hz2]; exact Rot.same zs (by omega)
                have HO2 : Hid (OwnI wr B z2) := by rw [hz2]; exact hO2.out
                have HT2 := Lib.hid hT2.out
                clear hz2
                have HM2 := Lib.hid (merge_halves HS1.out HS2.out HE.out (show a ≤ s by omega) (show s ≤ m by omega) (show m ≤ e by omega) (show e ≤ b by omega) hmid HR2.out)
                have HL2 : Hid (z2.length = n) := by show _ = _; rw [HR2.out.len, HL.out]
                have HD2 := Lib.hid (HD.out.perm HR2.out.perm)
                obtain ⟨z3, hz3⟩ : ∃ z3, z3 = z2 := ⟨_, rfl⟩
                have HR3 : Hid (Rea z2 z3 a mid) := by rw [hz3]; exact Rea.refl _ _ _
                have HS3 : Hid (SrtI key z3 a mid) := by
                  rw [hz3]
                  by_cases hx : s = mid
                  · rw [← hx]; exact HM2.out.1
                  · rw [show a = s by omega]; exact HM2.out.2.1
                have HO3 := HO2
                rw [← hz3] at HO3
                have HT3 := Lib.hid HT2.out
                clear hz3
                have HL3 : Hid (z3.length = n) := by show _ = _; rw [HR3.out.len, HL2.out]
                have HD3 := Lib.hid (HD2.out.perm HR3.out.perm)
                have HQ1 : Hid (SrtI key z3 mid e) := SrtI.congr HM2.out.2.2.2.1 (fun i i1 i2 => HR3.out.out i (by omega))
                have HQ2 : Hid (SrtI key z3 e b) := SrtI.congr HM2.out.2.2.2.2.1 (fun i i1 i2 => HR3.out.out i (by omega))
                have HQ3 : Hid (ErlI z3 mid e b) := ErlI.congr HM2.out.2.2.2.2.2 (fun i i1 i2 => HR3.out.out i (by omega))
                obtain ⟨z4, hz4⟩ : ∃ z4, z4 = z3 := ⟨_, rfl⟩
                have HR4 : Hid (Rea z3 z4 mid b) := by rw [hz4]; exact Rea.refl _ _ _
                have HS4 : Hid (SrtI key z4 mid b) := by
                  rw [hz4]
                  by_cases hx : e = b
                  · rw [← hx]; exact HQ1.out
                  · rw [show mid = e by omega]; exact HQ2.out
                have HO4 := HO3
                rw [← hz4] at HO4
                have HT4 := Lib.hid HT3.out
                clear hz4
                go_wp2_with fail
                go_end0
                obtain ⟨f1, f2⟩ := merge_join HS1.out HS2.out HE.out (show a ≤ s by omega) (show s ≤ m by omega) (show m ≤ e by omega) (show e ≤ b by omega) hmid (HA.out.imp id (fun h => h.imp id (fun g => by omega))) HB.out HR2.out HR3.out HS3.out HR4.out HS4.out
                exact ⟨rfl, z4, f2, f1, HO4.out, HT4.out⟩
        · by_cases R : s < mid
          ·
            try (exfalso; have := HLO2.out; have := HLO3.out; omega)
            all_goals
              obtain ⟨z2, hz2⟩ : ∃ z2, z2 = zs := ⟨_, rfl⟩
              have HR2 : Hid (Rot zs z2 s m e) := by rw [hz2]; exact Rot.same zs (by omega)
              have HO2 : Hid (OwnI wr B z2) := by rw [hz2]; exact hO2.out
              have HT2 := Lib.hid hT2.out
              clear hz2
              have HM2 := Lib.hid (merge_halves HS1.out HS2.out HE.out (show a ≤ s by omega) (show s ≤ m by omega) (show m ≤ e by omega) (show e ≤ b by omega) hmid HR2.out)
              have HL2 : Hid (z2.length = n) := by show _ = _; rw [HR2.out.len, HL.out]
              have HD2 := Lib.hid (HD.out.perm HR2.out.perm)
              go_wp2_with fail
              refine (IH.out z2 a s mid _ _ _ _ (by omega) rfl rfl rfl HL2.out HO2.out HD2.out (HC.out.tch HT2.out) (by omega) (by omega) (by omega) HM2.out.1 HM2.out.2.1 HM2.out.2.2.1).mono ?_
              rintro e1 w2 ⟨rfl, z3, g0, g1, g2, g3⟩
              have HR3 := Lib.hid g0
              have HS3 := Lib.hid g1
              have HO3 := Lib.hid g2
              have HT3 := Lib.hid (HT2.out.trans g3)
              clear g0 g1 g2 g3
              have HL3 : Hid (z3.length = n) := by show _ = _; rw [HR3.out.len, HL2.out]
              have HD3 := Lib.hid (HD2.out.perm HR3.out.perm)
              have HQ1 : Hid (SrtI key z3 mid e) := SrtI.congr HM2.out.2.2.2.1 (fun i i1 i2 => HR3.out.out i (by omega))
              have HQ2 : Hid (SrtI key z3 e b) := SrtI.congr HM2.out.2.2.2.2.1 (fun i i1 i2 => HR3.out.out i (by omega))
              have HQ3 : Hid (ErlI z3 mid e b) := ErlI.congr HM2.out.2.2.2.2.2 (fun i i1 i2 => HR3.out.out i (by omega))
              obtain ⟨z4, hz4⟩ : ∃ z4, z4 = z3 := ⟨_, rfl⟩
              have HR4 : Hid (Rea z3 z4 mid b) := by rw [hz4]; exact Rea.refl _ _ _
              have HS4 : Hid (SrtI key z4 mid b) := by
                rw [hz4]
                by_cases hx : e = b
                · rw [← hx]; exact HQ1.out
                · rw [show mid = e by omega]; exact HQ2.out
              have HO4 := HO3
              rw [← hz4] at HO4
              have HT4 := Lib.hid HT3.out
              clear hz4
              go_wp2_with fail
              go_end0
              obtain ⟨f1, f2⟩ := merge_join HS1.out HS2.out HE.out (show a ≤ s by omega) (show s ≤ m by omega) (show m ≤ e by omega) (show e ≤ b by omega) hmid (HA.out.imp id (fun h => h.imp id (fun g => by omega))) HB.out HR2.out HR3.out HS3.out HR4.out HS4.out
              exact ⟨rfl, z4, f2, f1, HO4.out, HT4.out⟩
          ·
            try (exfalso; have := HLO2.out; have := HLO3.out; omega)
            all_goals
              obtain ⟨z2, hz2⟩ : ∃ z2, z2 = zs := ⟨_, rfl⟩
              have HR2 : Hid (Rot zs z2 s m e) := by rw [hz2]; exact Rot.same zs (by omega)
              have HO2 : Hid (OwnI wr B z2) := by rw [hz2]; exact hO2.out
              have HT2 := Lib.hid hT2.out
              clear hz2
              have HM2 := Lib.hid (merge_halves HS1.out HS2.out HE.out (show a ≤ s by omega) (show s ≤ m by omega) (show m ≤ e by omega) (show e ≤ b by omega) hmid HR2.out)
              have HL2 : Hid (z2.length = n) := by show _ = _; rw [HR2.out.len, HL.out]
              have HD2 := Lib.hid (HD.out.perm HR2.out.perm)
              obtain ⟨z3, hz3⟩ : ∃ z3, z3 = z2 := ⟨_, rfl⟩
              have HR3 : Hid (Rea z2 z3 a mid) := by rw [hz3]; exact Rea.refl _ _ _
              have HS3 : Hid (SrtI key z3 a mid) := by
                rw [hz3]
                by_cases hx : s = mid
                · rw [← hx]; exact HM2.out.1
                · rw [show a = s by omega]; exact HM2.out.2.1
              have HO3 := HO2
              rw [← hz3] at HO3
              have HT3 := Lib.hid HT2.out
              clear hz3
              have HL3 : Hid (z3.length = n) := by show _ = _; rw [HR3.out.len, HL2.out]
              have HD3 := Lib.hid (HD2.out.perm HR3.out.perm)
              have HQ1 : Hid (SrtI key z3 mid e) := SrtI.congr HM2.out.2.2.2.1 (fun i i1 i2 => HR3.out.out i (by omega))
              have HQ2 : Hid (SrtI key z3 e b) := SrtI.congr HM2.out.2.2.2.2.1 (fun i i1 i2 => HR3.out.out i (by omega))
              have HQ3 : Hid (ErlI z3 mid e b) := ErlI.congr HM2.out.2.2.2.2.2 (fun i i1 i2 => HR3.out.out i (by omega))
              obtain ⟨z4, hz4⟩ : ∃ z4, z4 = z3 := ⟨_, rfl⟩
              have HR4 : Hid (Rea z3 z4 mid b) := by rw [hz4]; exact Rea.refl _ _ _
              have HS4 : Hid (SrtI key z4 mid b) := by
                rw [hz4]
                by_cases hx : e = b
                · rw [← hx]; exact HQ1.out
                · rw [show mid = e by omega]; exact HQ2.out
              have HO4 := HO3
              rw [← hz4] at HO4
              have HT4 := Lib.hid HT3.out
              clear hz4
              go_wp2_with fail
              go_end0
              obtain ⟨f1, f2⟩ := merge_join HS1.out HS2.out HE.out (show a ≤ s by omega) (show s ≤ m by omega) (show m ≤ e by omega) (show e ≤ b by omega) hmid (HA.out.imp id (fun h => h.imp id (fun g => by omega))) HB.out HR2.out HR3.out HS3.out HR4.out HS4.out
              exact ⟨rfl, z4, f2, f1, HO4.out, HT4.out⟩
  · go_enter Try.func67, Try.ntmps67
    have HLO2 := Lib.hid hlo2
    have HLO3 := Lib.hid hlo3
    clear hlo2 hlo3
    go_wp2_with fail
    go_loopw [20, 21] (fun u v wr => ∃ s r : Nat, lo ≤ s ∧ s ≤ r ∧ r ≤ hi ∧ u = .int .i64 s ∧ v = .int .i64 r ∧ Hid (s = lo ∨ key (zs.getD (s - 1) 0) ≤ key (zs.getD (mid + m - s) 0)) ∧ Hid (r = hi ∨ key (zs.getD (mid + m - 1 - r) 0) < key (zs.getD r 0)) ∧ Hid (OwnI wr B zs) ∧ Hid (Tch B w wr)) (fun u v _ => (intOf v).toNat - (intOf u).toNat)
    case atStart => exact ⟨lo, hi, Nat.le_refl _, by omega, Nat.le_refl _, by have := HLO2.out; first | go_num | (rw [this]), by rw [HLO3.out], Or.inl rfl, Or.inl rfl, HO.out, Tch.refl _ _⟩
    case round =>
      obtain ⟨s, r, hs, hsr, hr, rfl, rfl, hc1, hc2, hO2, hT2⟩ := hrel
      by_cases hlt : s < r
      · obtain ⟨c, hh⟩ : ∃ c, (s + r) / 2 = c := ⟨_, rfl⟩
        have e2 : ((s : Int) + (r : Int)) / 2 = (c : Int) := by omega
        have hi1 : s ≤ c := by omega
        have hj1 : c < r := by omega
        have HH := Lib.hid hh
        clear hh
        obtain ⟨q, hq⟩ : ∃ q, mid + m - 1 - c = q := ⟨_, rfl⟩
        have e3 : (mid : Int) + (m : Int) - 1 - (c : Int) = (q : Int) := by omega
        have hq1 : m ≤ q := by omega
        have hq2 : q < b := by omega
        have c1 := hO2.out.cell (i := q) (by have := HL.out; omega)
        have c2 := hO2.out.cell (i := c) (by have := HL.out; omega)
        have d1 := HD.out q (by have := HL.out; omega)
        have d2 := HD.out c (by have := HL.out; omega)
        obtain ⟨x, hx⟩ : ∃ x, zs.getD q 0 = x := ⟨_, rfl⟩
        obtain ⟨y, hy⟩ : ∃ y, zs.getD c 0 = y := ⟨_, rfl⟩
        rw [hx] at c1 d1
        rw [hy] at c2 d2
        have HX := Lib.hid hx
        have HY := Lib.hid hy
        have HQ := Lib.hid hq
        obtain ⟨d11, d12⟩ := d1
        obtain ⟨d21, d22⟩ := d2
        have hC' := Lib.hid (HC.out.tch hT2.out)
        have b0 : (0 : Int) ≤ (c : Int) := by omega
        have b1 : (c : Int) < (n : Int) := by omega
        have b2 : (0 : Int) ≤ (q : Int) := by omega
        have b3 : (q : Int) < (n : Int) := by omega
        clear hx hy hq
        go_wp2_with fail
        by_cases hc : key x < key y
        · have hcn : cmpI (key x) (key y) < 0 := cmpI_neg.2 hc
          go_quiet ((go_at_call 45; exact Calls.quiet_of (hC'.out.at _ x y d11 d12 d21 d22)))
          go_wp2_with fail
          go_roundw
          case rel => exact ⟨s, c, by omega, by omega, by omega, rfl, rfl, hc1, Or.inr (by rw [HQ.out, HX.out, HY.out]; omega), hO2.out.drewN _, hT2.out.drewN _⟩
          case measure => simp [intOf]; omega
        · have hcn : ¬ cmpI (key x) (key y) < 0 := fun h => hc (cmpI_neg.1 h)
          go_quiet ((go_at_call 45; exact Calls.quiet_of (hC'.out.at _ x y d11 d12 d21 d22)))
          go_wp2_with fail
          go_roundw
          case rel => exact ⟨c + 1, r, by omega, by omega, by omega, by go_num, rfl, Or.inr (by rw [show c + 1 - 1 = c by omega, show mid + m - (c + 1) = mid + m - 1 - c by omega, HQ.out, HX.out, HY.out]; omega), hc2, hO2.out.drewN _, hT2.out.drewN _⟩
          case measure => simp [intOf]; omega
      · obtain rfl : s = r := by omega
        obtain ⟨e, he⟩ : ∃ e, mid + m - s = e := ⟨_, rfl⟩
        have e2 : (mid : Int) + (m : Int) - (s : Int) = (e : Int) := by omega
        have hmid : mid + m = s + e := by omega
        have HA : Hid (s = a ∨ e = b ∨ key (zs.getD (s - 1) 0) ≤ key (zs.getD e 0)) := by
          rcases hc1.out with h | h
          · rcases HLO.out.2.2.2.2.2.1 with g | g
            · exact Or.inl (by omega)
            · exact Or.inr (Or.inl (by omega))
          · rw [he] at h; exact Or.inr (Or.inr h)
        have HB : Hid (s = m ∨ e = m ∨ key (zs.getD (e - 1) 0) < key (zs.getD s 0)) := by
          rcases hc2.out with h | h
          · rcases HLO.out.2.2.2.2.2.2 with g | g
            · exact Or.inl (by omega)
            · exact Or.inr (Or.inl (by omega))
          · rw [show mid + m - 1 - s = e - 1 by omega] at h; exact Or.inr (Or.inr h)
        clear hc1 hc2
        have HMID := Lib.hid hmid
        have he1 : m ≤ e := by omega
        have he2 : e ≤ b := by omega
        clear he
        by_cases P : s < m
        · by_cases R : s < mid
          · by_cases A : a < s
            · by_cases Z : e < b
              ·
                try (exfalso; have := HLO2.out; have := HLO3.out; omega)
                all_goals
                  go_wp2_with fail
                  refine (rotate_at B n cap zs s m e _ _ _ _ _ HL.out hO2.out rfl rfl rfl (by omega) (by omega) (by omega) hn).mono ?_
                  rintro e1 w1 ⟨rfl, z2, g1, g2, g3⟩
                  have HR2 := Lib.hid g1
                  have HO2 := Lib.hid g2
                  have HT2 := Lib.hid (hT2.out.trans g3)
                  clear g1 g2 g3
                  have HM2 := Lib.hid (merge_halves HS1.out HS2.out HE.out (show a ≤ s by omega) (show s ≤ m by omega) (show m ≤ e by omega) (show e ≤ b by omega) hmid HR2.out)
                  have HL2 : Hid (z2.length = n) := by show _ = _; rw [HR2.out.len, HL.out]
                  have HD2 := Lib.hid (HD.out.perm HR2.out.perm)
                  go_wp2_with fail
                  refine (IH.out z2 a s mid _ _ _ _ (by omega) rfl rfl rfl HL2.out HO2.out HD2.out (HC.out.tch HT2.out) (by omega) (by omega) (by omega) HM2.out.1 HM2.out.2.1 HM2.out.2.2.1).mono ?_
                  rintro e1 w2 ⟨rfl, z3, g0, g1, g2, g3⟩
                  have HR3 := Lib.hid g0
                  have HS3 := Lib.hid g1
                  have HO3 := Lib.hid g2
                  have HT3 := Lib.hid (HT2.out.trans g3)
                  clear g0 g1 g2 g3
                  have HL3 : Hid (z3.length = n) := by show _ = _; rw [HR3.out.len, HL2.out]
                  have HD3 := Lib.hid (HD2.out.perm HR3.out.perm)
                  have HQ1 : Hid (SrtI key z3 mid e) := SrtI.congr HM2.out.2.2.2.1 (fun i i1 i2 => HR3.out.out i (by omega))
                  have HQ2 : Hid (SrtI key z3 e b) := SrtI.congr HM2.out.2.2.2.2.1 (fun i i1 i2 => HR3.out.out i (by omega))
                  have HQ3 : Hid (ErlI z3 mid e b) := ErlI.congr HM2.out.2.2.2.2.2 (fun i i1 i2 => HR3.out.out i (by omega))
                  go_wp2_with fail
                  refine (IH.out z3 mid e b _ _ _ _ (by omega) rfl rfl rfl HL3.out HO3.out HD3.out (HC.out.tch HT3.out) (by omega) (by omega) (by omega) HQ1.out HQ2.out HQ3.out).mono ?_
                  rintro e1 w3 ⟨rfl, z4, g0, g1, g2, g3⟩
                  have HR4 := Lib.hid g0
                  have HS4 := Lib.hid g1
                  have HO4 := Lib.hid g2
                  have HT4 := Lib.hid (HT3.out.trans g3)
                  clear g0 g1 g2 g3
                  go_wp2_with fail
                  go_end0
                  obtain ⟨f1, f2⟩ := merge_join HS1.out HS2.out HE.out (show a ≤ s by omega) (show s ≤ m by omega) (show m ≤ e by omega) (show e ≤ b by omega) hmid (HA.out.imp id (fun h => h.imp id (fun g => by omega))) HB.out HR2.out HR3.out HS3.out HR4.out HS4.out
                  exact ⟨rfl, z4, f2, f1, HO4.out, HT4.out⟩
              ·
                try (exfalso; have := HLO2.out; have := HLO3.out; omega)
                all_goals
                  go_wp2_with fail
                  refine (rotate_at B n cap zs s m e _ _ _ _ _ HL.out hO2.out rfl rfl rfl (by omega) (by omega) (by omega) hn).mono ?_
                  rintro e1 w1 ⟨rfl, z2, g1, g2, g3⟩
                  have HR2 := Lib.hid g1
                  have HO2 := Lib.hid g2
                  have HT2 := Lib.hid (hT2.out.trans g3)
                  clear g1 g2 g3
                  have HM2 := Lib.hid (merge_halves HS1.out HS2.out HE.out (show a ≤ s by omega) (show s ≤ m by omega) (show m ≤ e by omega) (show e ≤ b by omega) hmid HR2.out)
                  have HL2 : Hid (z2.length = n) := by show _ = _; rw [HR2.out.len, HL.out]
                  have HD2 := Lib.hid (HD.out.perm HR2.out.perm)
                  go_wp2_with fail
                  refine (IH.out z2 a s mid _ _ _ _ (by omega) rfl rfl rfl HL2.out HO2.out HD2.out (HC.out.tch HT2.out) (by omega) (by omega) (by omega) HM2.out.1 HM2.out.2.1 HM2.out.2.2.1).mono ?_
                  rintro e1 w2 ⟨rfl, z3, g0, g1, g2, g3⟩
                  have HR3 := Lib.hid g0
                  have HS3 := Lib.hid g1
                  have HO3 := Lib.hid g2
                  have HT3 := Lib.hid (HT2.out.trans g3)
                  clear g0 g1 g2 g3
                  have HL3 : Hid (z3.length = n) := by show _ = _; rw [HR3.out.len, HL2.out]
                  have HD3 := Lib.hid (HD2.out.perm HR3.out.perm)
                  have HQ1 : Hid (SrtI key z3 mid e) := SrtI.congr HM2.out.2.2.2.1 (fun i i1 i2 => HR3.out.out i (by omega))
                  have HQ2 : Hid (SrtI key z3 e b) := SrtI.congr HM2.out.2.2.2.2.1 (fun i i1 i2 => HR3.out.out i (by omega))
                  have HQ3 : Hid (ErlI z3 mid e b) := ErlI.congr HM2.out.2.2.2.2.2 (fun i i1 i2 => HR3.out.out i (by omega))
                  obtain ⟨z4, hz4⟩ : ∃ z4, z4 = z3 := ⟨_, rfl⟩
                  have HR4 : Hid (Rea z3 z4 mid b) := by rw [hz4]; exact Rea.refl _ _ _
                  have HS4 : Hid (SrtI key z4 mid b) := by
                    rw [hz4]
                    by_cases hx : e = b
                    · rw [← hx]; exact HQ1.out
                    · rw [show mid = e by omega]; exact HQ2.out
                  have HO4 := HO3
                  rw [← hz4] at HO4
                  have HT4 := Lib.hid HT3.out
                  clear hz4
                  go_wp2_with fail
                  go_end0
                  obtain ⟨f1, f2⟩ := merge_join HS1.out HS2.out HE.out (show a ≤ s by omega) (show s ≤ m by omega) (show m ≤ e by omega) (show e ≤ b by omega) hmid (HA.out.imp id (fun h => h.imp id (fun g => by omega))) HB.out HR2.out HR3.out HS3.out HR4.out HS4.out
                  exact ⟨rfl, z4, f2, f1, HO4.out, HT4.out⟩
            · by_cases Z : e < b
              ·
                try (exfalso; have := HLO2.out; have := HLO3.out; omega)
                all_goals
                  go_wp2_with fail
                  refine (rotate_at B n cap zs s m e _ _ _ _ _ HL.out hO2.out rfl rfl rfl (by omega) (by omega) (by omega) hn).mono ?_
                  rintro e1 w1 ⟨rfl, z2, g1, g2, g3⟩
                  have HR2 := Lib.hid g1
                  have HO2 := Lib.hid g2
                  have HT2 := Lib.hid (hT2.out.trans g3)
                  clear g1 g2 g3
                  have HM2 := Lib.hid (merge_halves HS1.out HS2.out HE.out (show a ≤ s by omega) (show s ≤ m by omega) (show m ≤ e by omega) (show e ≤ b by omega) hmid HR2.out)
                  have HL2 : Hid (z2.length = n) := by show _ = _; rw [HR2.out.len, HL.out]
                  have HD2 := Lib.hid (HD.out.perm HR2.out.perm)
                  obtain ⟨z3, hz3⟩ : ∃ z3, z3 = z2 := ⟨_, rfl⟩
                  have HR3 : Hid (Rea z2 z3 a mid) := by rw [hz3]; exact Rea.refl _ _ _
                  have HS3 : Hid (SrtI key z3 a mid) := by
                    rw [hz3]
                    by_cases hx : s = mid
                    · rw [← hx]; exact HM2.out.1
                    · rw [show a = s by omega]; exact HM2.out.2.1
                  have HO3 := HO2
                  rw [← hz3] at HO3
                  have HT3 := Lib.hid HT2.out
                  clear hz3
                  have HL3 : Hid (z3.length = n) := by show _ = _; rw [HR3.out.len, HL2.out]
                  have HD3 := Lib.hid (HD2.out.perm HR3.out.perm)
                  have HQ1 : Hid (SrtI key z3 mid e) := SrtI.congr HM2.out.2.2.2.1 (fun i i1 i2 => HR3.out.out i (by omega))
                  have HQ2 : Hid (SrtI key z3 e b) := SrtI.congr HM2.out.2.2.2.2.1 (fun i i1 i2 => HR3.out.out i (by omega))
                  have HQ3 : Hid (ErlI z3 mid e b) := ErlI.congr HM2.out.2.2.2.2.2 (fun i i1 i2 => HR3.out.out i (by omega))
                  go_wp2_with fail
                  refine (IH.out z3 mid e b _ _ _ _ (by omega) rfl rfl rfl HL3.out HO3.out HD3.out (HC.out.tch HT3.out) (by omega) (by omega) (by omega) HQ1.out HQ2.out HQ3.out).mono ?_
                  rintro e1 w3 ⟨rfl, z4, g0, g1, g2, g3⟩
                  have HR4 := Lib.hid g0
                  have HS4 := Lib.hid g1
                  have HO4 := Lib.hid g2
                  have HT4 := Lib.hid (HT3.out.trans g3)
                  clear g0 g1 g2 g3
                  go_wp2_with fail
                  go_end0
                  obtain ⟨f1, f2⟩ := merge_join HS1.out HS2.out HE.out (show a ≤ s by omega) (show s ≤ m by omega) (show m ≤ e by omega) (show e ≤ b by omega) hmid (HA.out.imp id (fun h => h.imp id (fun g => by omega))) HB.out HR2.out HR3.out HS3.out HR4.out HS4.out
                  exact ⟨rfl, z4, f2, f1, HO4.out, HT4.out⟩
              ·
                try (exfalso; have := HLO2.out; have := HLO3.out; omega)
                all_goals
                  go_wp2_with fail
                  refine (rotate_at B n cap zs s m e _ _ _ _ _ HL.out hO2.out rfl rfl rfl (by omega) (by omega) (by omega) hn).mono ?_
                  rintro e1 w1 ⟨rfl, z2, g1, g2, g3⟩
                  have HR2 := Lib.hid g1
                  have HO2 := Lib.hid g2
                  have HT2 := Lib.hid (hT2.out.trans g3)
                  clear g1 g2 g3
                  have HM2 := Lib.hid (merge_halves HS1.out HS2.out HE.out (show a ≤ s by omega) (show s ≤ m by omega) (show m ≤ e by omega) (show e ≤ b by omega) hmid HR2.out)
                  have HL2 : Hid (z2.length = n) := by show _ = _; rw [HR2.out.len, HL.out]
                  have HD2 := Lib.hid (HD.out.perm HR2.out.perm)
                  obtain ⟨z3, hz3⟩ : ∃ z3, z3 = z2 := ⟨_, rfl⟩
                  have HR3 : Hid (Rea z2 z3 a mid) := by rw [hz3]; exact Rea.refl _ _ _
                  have HS3 : Hid (SrtI key z3 a mid) := by
                    rw [hz3]
                    by_cases hx : s = mid
                    · rw [← hx]; exact HM2.out.1
                    · rw [show a = s by omega]; exact HM2.out.2.1
                  have HO3 := HO2
                  rw [← hz3] at HO3
                  have HT3 := Lib.hid HT2.out
                  clear hz3
                  have HL3 : Hid (z3.length = n) := by show _ = _; rw [HR3.out.len, HL2.out]
                  have HD3 := Lib.hid (HD2.out.perm HR3.out.perm)
                  have HQ1 : Hid (SrtI key z3 mid e) := SrtI.congr HM2.out.2.2.2.1 (fun i i1 i2 => HR3.out.out i (by omega))
                  have HQ2 : Hid (SrtI key z3 e b) := SrtI.congr HM2.out.2.2.2.2.1 (fun i i1 i2 => HR3.out.out i (by omega))
                  have HQ3 : Hid (ErlI z3 mid e b) := ErlI.congr HM2.out.2.2.2.2.2 (fun i i1 i2 => HR3.out.out i (by omega))
                  obtain ⟨z4, hz4⟩ : ∃ z4, z4 = z3 := ⟨_, rfl⟩
                  have HR4 : Hid (Rea z3 z4 mid b) := by rw [hz4]; exact Rea.refl _ _ _
                  have HS4 : Hid (SrtI key z4 mid b) := by
                    rw [hz4]
                    by_cases hx : e = b
                    · rw [← hx]; exact HQ1.out
                    · rw [show mid = e by omega]; exact HQ2.out
                  have HO4 := HO3
                  rw [← hz4] at HO4
                  have HT4 := Lib.hid HT3.out
                  clear hz4
                  go_wp2_with fail
                  go_end0
                  obtain ⟨f1, f2⟩ := merge_join HS1.out HS2.out HE.out (show a ≤ s by omega) (show s ≤ m by omega) (show m ≤ e by omega) (show e ≤ b by omega) hmid (HA.out.imp id (fun h => h.imp id (fun g => by omega))) HB.out HR2.out HR3.out HS3.out HR4.out HS4.out
                  exact ⟨rfl, z4, f2, f1, HO4.out, HT4.out⟩
          · by_cases Z : e < b
            ·
              try (exfalso; have := HLO2.out; have := HLO3.out; omega)
              all_goals
                obtain ⟨z2, hz2⟩ : ∃ z2, z2 = zs := ⟨_, rfl⟩
                have HR2 : Hid (Rot zs z2 s m e) := by rw [hz2]; exact Rot.same zs (by omega)
                have HO2 : Hid (OwnI wr B z2) := by rw [hz2]; exact hO2.out
                have HT2 := Lib.hid hT2.out
                clear hz2
                have HM2 := Lib.hid (merge_halves HS1.out HS2.out HE.out (show a ≤ s by omega) (show s ≤ m by omega) (show m ≤ e by omega) (show e ≤ b by omega) hmid HR2.out)
                have HL2 : Hid (z2.length = n) := by show _ = _; rw [HR2.out.len, HL.out]
                have HD2 := Lib.hid (HD.out.perm HR2.out.perm)
                obtain ⟨z3, hz3⟩ : ∃ z3, z3 = z2 := ⟨_, rfl⟩
                have HR3 : Hid (Rea z2 z3 a mid) := by rw [hz3]; exact Rea.refl _ _ _
                have HS3 : Hid (SrtI key z3 a mid) := by
                  rw [hz3]
                  by_cases hx : s = mid
                  · rw [← hx]; exact HM2.out.1
                  · rw [show a = s by omega]; exact HM2.out.2.1
                have HO3 := HO2
                rw [← hz3] at HO3
                have HT3 := Lib.hid HT2.out
                clear hz3
                have HL3 : Hid (z3.length = n) := by show _ = _; rw [HR3.out.len, HL2.out]
                have HD3 := Lib.hid (HD2.out.perm HR3.out.perm)
                have HQ1 : Hid (SrtI key z3 mid e) := SrtI.congr HM2.out.2.2.2.1 (fun i i1 i2 => HR3.out.out i (by omega))
                have HQ2 : Hid (SrtI key z3 e b) := SrtI.congr HM2.out.2.2.2.2.1 (fun i i1 i2 => HR3.out.out i (by omega))
                have HQ3 : Hid (ErlI z3 mid e b) := ErlI.congr HM2.out.2.2.2.2.2 (fun i i1 i2 => HR3.out.out i (by omega))
                go_wp2_with fail
                refine (IH.out z3 mid e b _ _ _ _ (by omega) rfl rfl rfl HL3.out HO3.out HD3.out (HC.out.tch HT3.out) (by omega) (by omega) (by omega) HQ1.out HQ2.out HQ3.out).mono ?_
                rintro e1 w3 ⟨rfl, z4, g0, g1, g2, g3⟩
                have HR4 := Lib.hid g0
                have HS4 := Lib.hid g1
                have HO4 := Lib.hid g2
                have HT4 := Lib.hid (HT3.out.trans g3)
                clear g0 g1 g2 g3
                go_wp2_with fail
                go_end0
                obtain ⟨f1, f2⟩ := merge_join HS1.out HS2.out HE.out (show a ≤ s by omega) (show s ≤ m by omega) (show m ≤ e by omega) (show e ≤ b by omega) hmid (HA.out.imp id (fun h => h.imp id (fun g => by omega))) HB.out HR2.out HR3.out HS3.out HR4.out HS4.out
                exact ⟨rfl, z4, f2, f1, HO4.out, HT4.out⟩
            ·
              try (exfalso; have := HLO2.out; have := HLO3.out; omega)
              all_goals
                obtain ⟨z2, hz2⟩ : ∃ z2, z2 = zs := ⟨_, rfl⟩
                have HR2 : Hid (Rot zs z2 s m e) := by rw [hz2]; exact Rot.same zs (by omega)
                have HO2 : Hid (OwnI wr B z2) := by rw [hz2]; exact hO2.out
                have HT2 := Lib.hid hT2.out
                clear hz2
                have HM2 := Lib.hid (merge_halves HS1.out HS2.out HE.out (show a ≤ s by omega) (show s ≤ m by omega) (show m ≤ e by omega) (show e ≤ b by omega) hmid HR2.out)
                have HL2 : Hid (z2.length = n) := by show _ = _; rw [HR2.out.len, HL.out]
                have HD2 := Lib.hid (HD.out.perm HR2.out.perm)
                obtain ⟨z3, hz3⟩ : ∃ z3, z3 = z2 := ⟨_, rfl⟩
                have HR3 : Hid (Rea z2 z3 a mid) := by rw [hz3]; exact Rea.refl _ _ _
                have HS3 : Hid (SrtI key z3 a mid) := by
                  rw [hz3]
                  by_cases hx : s = mid
                  · rw [← hx]; exact HM2.out.1
                  · rw [show a = s by omega]; exact HM2.out.2.1
                have HO3 := HO2
                rw [← hz3] at HO3
                have HT3 := Lib.hid HT2.out
                clear hz3
                have HL3 : Hid (z3.length = n) := by show _ = _; rw [HR3.out.len, HL2.out]
                have HD3 := Lib.hid (HD2.out.perm HR3.out.perm)
                have HQ1 : Hid (SrtI key z3 mid e) := SrtI.congr HM2.out.2.2.2.1 (fun i i1 i2 => HR3.out.out i (by omega))
                have HQ2 : Hid (SrtI key z3 e b) := SrtI.congr HM2.out.2.2.2.2.1 (fun i i1 i2 => HR3.out.out i (by omega))
                have HQ3 : Hid (ErlI z3 mid e b) := ErlI.congr HM2.out.2.2.2.2.2 (fun i i1 i2 => HR3.out.out i (by omega))
                obtain ⟨z4, hz4⟩ : ∃ z4, z4 = z3 := ⟨_, rfl⟩
                have HR4 : Hid (Rea z3 z4 mid b) := by rw [hz4]; exact Rea.refl _ _ _
                have HS4 : Hid (SrtI key z4 mid b) := by
                  rw [hz4]
                  by_cases hx : e = b
                  · rw [← hx]; exact HQ1.out
                  · rw [show mid = e by omega]; exact HQ2.out
                have HO4 := HO3
                rw [← hz4] at HO4
                have HT4 := Lib.hid HT3.out
                clear hz4
                go_wp2_with fail
                go_end0
                obtain ⟨f1, f2⟩ := merge_join HS1.out HS2.out HE.out (show a ≤ s by omega) (show s ≤ m by omega) (show m ≤ e by omega) (show e ≤ b by omega) hmid (HA.out.imp id (fun h => h.imp id (fun g => by omega))) HB.out HR2.out HR3.out HS3.out HR4.out HS4.out
                exact ⟨rfl, z4, f2, f1, HO4.out, HT4.out⟩
        · by_cases R : s < mid
          ·
            try (exfalso; have := HLO2.out; have := HLO3.out; omega)
            all_goals
              obtain ⟨z2, hz2⟩ : ∃ z2, z2 = zs := ⟨_, rfl⟩
              have HR2 : Hid (Rot zs z2 s m e) := by rw [hz2]; exact Rot.same zs (by omega)
              have HO2 : Hid (OwnI wr B z2) := by rw [hz2]; exact hO2.out
              have HT2 := Lib.hid hT2.out
              clear hz2
              have HM2 := Lib.hid (merge_halves HS1.out HS2.out HE.out (show a ≤ s by omega) (show s ≤ m by omega) (show m ≤ e by omega) (show e ≤ b by omega) hmid HR2.out)
              have HL2 : Hid (z2.length = n) := by show _ = _; rw [HR2.out.len, HL.out]
              have HD2 := Lib.hid (HD.out.perm HR2.out.perm)
              go_wp2_with fail
              refine (IH.out z2 a s mid _ _ _ _ (by omega) rfl rfl rfl HL2.out HO2.out HD2.out (HC.out.tch HT2.out) (by omega) (by omega) (by omega) HM2.out.1 HM2.out.2.1 HM2.out.2.2.1).mono ?_
              rintro e1 w2 ⟨rfl, z3, g0, g1, g2, g3⟩
              have HR3 := Lib.hid g0
              have HS3 := Lib.hid g1
              have HO3 := Lib.hid g2
              have HT3 := Lib.hid (HT2.out.trans g3)
              clear g0 g1 g2 g3
              have HL3 : Hid (z3.length = n) := by show _ = _; rw [HR3.out.len, HL2.out]
              have HD3 := Lib.hid (HD2.out.perm HR3.out.perm)
              have HQ1 : Hid (SrtI key z3 mid e) := SrtI.congr HM2.out.2.2.2.1 (fun i i1 i2 => HR3.out.out i (by omega))
              have HQ2 : Hid (SrtI key z3 e b) := SrtI.congr HM2.out.2.2.2.2.1 (fun i i1 i2 => HR3.out.out i (by omega))
              have HQ3 : Hid (ErlI z3 mid e b) := ErlI.congr HM2.out.2.2.2.2.2 (fun i i1 i2 => HR3.out.out i (by omega))
              obtain ⟨z4, hz4⟩ : ∃ z4, z4 = z3 := ⟨_, rfl⟩
              have HR4 : Hid (Rea z3 z4 mid b) := by rw [hz4]; exact Rea.refl _ _ _
              have HS4 : Hid (SrtI key z4 mid b) := by
                rw [hz4]
                by_cases hx : e = b
                · rw [← hx]; exact HQ1.out
                · rw [show mid = e by omega]; exact HQ2.out
              have HO4 := HO3
              rw [← hz4] at HO4
              have HT4 := Lib.hid HT3.out
              clear hz4
              go_wp2_with fail
              go_end0
              obtain ⟨f1, f2⟩ := merge_join HS1.out HS2.out HE.out (show a ≤ s by omega) (show s ≤ m by omega) (show m ≤ e by omega) (show e ≤ b by omega) hmid (HA.out.imp id (fun h => h.imp id (fun g => by omega))) HB.out HR2.out HR3.out HS3.out HR4.out HS4.out
              exact ⟨rfl, z4, f2, f1, HO4.out, HT4.out⟩
          ·
            try (exfalso; have := HLO2.out; have := HLO3.out; omega)
            all_goals
              obtain ⟨z2, hz2⟩ : ∃ z2, z2 = zs := ⟨_, rfl⟩
              have HR2 : Hid (Rot zs z2 s m e) := by rw [hz2]; exact Rot.same zs (by omega)
              have HO2 : Hid (OwnI wr B z2) := by rw [hz2]; exact hO2.out
              have HT2 := Lib.hid hT2.out
              clear hz2
              have HM2 := Lib.hid (merge_halves HS1.out HS2.out HE.out (show a ≤ s by omega) (show s ≤ m by omega) (show m ≤ e by omega) (show e ≤ b by omega) hmid HR2.out)
              have HL2 : Hid (z2.length = n) := by show _ = _; rw [HR2.out.len, HL.out]
              have HD2 := Lib.hid (HD.out.perm HR2.out.perm)
              obtain ⟨z3, hz3⟩ : ∃ z3, z3 = z2 := ⟨_, rfl⟩
              have HR3 : Hid (Rea z2 z3 a mid) := by rw [hz3]; exact Rea.refl _ _ _
              have HS3 : Hid (SrtI key z3 a mid) := by
                rw [hz3]
                by_cases hx : s = mid
                · rw [← hx]; exact HM2.out.1
                · rw [show a = s by omega]; exact HM2.out.2.1
              have HO3 := HO2
              rw [← hz3] at HO3
              have HT3 := Lib.hid HT2.out
              clear hz3
              have HL3 : Hid (z3.length = n) := by show _ = _; rw [HR3.out.len, HL2.out]
              have HD3 := Lib.hid (HD2.out.perm HR3.out.perm)
              have HQ1 : Hid (SrtI key z3 mid e) := SrtI.congr HM2.out.2.2.2.1 (fun i i1 i2 => HR3.out.out i (by omega))
              have HQ2 : Hid (SrtI key z3 e b) := SrtI.congr HM2.out.2.2.2.2.1 (fun i i1 i2 => HR3.out.out i (by omega))
              have HQ3 : Hid (ErlI z3 mid e b) := ErlI.congr HM2.out.2.2.2.2.2 (fun i i1 i2 => HR3.out.out i (by omega))
              obtain ⟨z4, hz4⟩ : ∃ z4, z4 = z3 := ⟨_, rfl⟩
              have HR4 : Hid (Rea z3 z4 mid b) := by rw [hz4]; exact Rea.refl _ _ _
              have HS4 : Hid (SrtI key z4 mid b) := by
                rw [hz4]
                by_cases hx : e = b
                · rw [← hx]; exact HQ1.out
                · rw [show mid = e by omega]; exact HQ2.out
              have HO4 := HO3
              rw [← hz4] at HO4
              have HT4 := Lib.hid HT3.out
              clear hz4
              go_wp2_with fail
              go_end0
              obtain ⟨f1, f2⟩ := merge_join HS1.out HS2.out HE.out (show a ≤ s by omega) (show s ≤ m by omega) (show m ≤ e by omega) (show e ≤ b by omega) hmid (HA.out.imp id (fun h => h.imp id (fun g => by omega))) HB.out HR2.out HR3.out HS3.out HR4.out HS4.out
              exact ⟨rfl, z4, f2, f1, HO4.out, HT4.out⟩

/-- A stable merge of two neighbouring sorted runs. -/
theorem symMerge_any (B n cap N : Nat) (key : Int → Int) (p : Addr) (hn : n ≤ 1000000) (hN : N ≤ 1000000) : ∀ k, MergeOk B n cap N key p k := by
  intro k
  induction k with
  | zero => intro zs a m b a' m' b' w hk ha hm hb _ _ _ _ h1 h2; omega
  | succ k ih =>
    intro zs a m b a' m' b' w hk ha hm hb hl hO hD hC ham hmb hbn hs1 hs2 hE
    subst ha hm hb
    by_cases c1 : m = a + 1
    · exact symMerge_one B n cap N key p hn hN zs a m b w hl hO hD hC c1 hmb hbn hs2 hE
    · by_cases c2 : b = m + 1
      · exact symMerge_last B n cap N key p hn hN zs a m b w hl hO hD hC (by omega) c2 hbn hs1 hE
      · exact symMerge_more B n cap N key p hn hN k ih zs a m b w hk hl hO hD hC (by omega) (by omega) hbn hs1 hs2 hE

end

section
set_option linter.unusedSimpArgs false
set_option linter.unusedVariables false
open Go.RowKit

theorem insertion_at (B n cap N : Nat) (zs : List Int) (key : Int → Int) (a b : Nat) (a' b' : Int) (p : Addr) (w : World) (hl : zs.length = n) (hO : OwnI w B zs) (hD : DomI zs N) (hC : CmpOk 45 key N p B w)
    (ha' : a' = a) (hb' : b' = b) (hab : a ≤ b) (hb : b ≤ n) (hn : n ≤ 1000000) (hN : N ≤ 1000000) (hE : ∀ i j, a ≤ i → i < j → j < b → zs.getD i 0 < zs.getD j 0) :
    Calls Try.prog 66 #[.slice (some ⟨B, 0, none⟩) n cap, .int .i64 a', .int .i64 b', .func (.func 45) #[] #[.pointer (some p)]] w
      fun e w' => e = .returned (.tuple #[]) ∧ ∃ zs', Rea zs zs' a b ∧ SrtI key zs' a b ∧ OwnI w' B zs' ∧ Tch B w w' := by
  subst ha' hb'
  exact insertion_any B n cap N zs key a b p w hl hO hD hC hab hb hn hN hE

theorem PhI.step' {key : Int → Int} {O zs zs' : List Int} {n s a b : Nat} (h : PhI key O zs n s a) (hk : ∃ k, a = k * s) (hb : b = min (a + s) n) (hr : Rea zs zs' a b) (hs : SrtI key zs' a b) : PhI key O zs' n s (a + s) := by
  obtain ⟨k, rfl⟩ := hk
  exact h.step hb hr hs
/-- Two blocks that stand side by side, as a merge wants them. -/
theorem PhM.pre {key : Int → Int} {O zs : List Int} {n s k a b : Nat} (h : PhM key O zs n s k) (hk : a = k * (2 * s)) (hO : ∀ i j, i < j → j < n → O.getD i 0 < O.getD j 0) (hm : a + s < n) (hb : b = min (a + 2 * s) n) :
    SrtI key zs a (a + s) ∧ SrtI key zs (a + s) b ∧ ErlI zs a (a + s) b := by
  subst hk
  obtain ⟨f1, f2⟩ := h.first
  refine ⟨f1.srt.sub (Nat.le_refl _) (by omega), f2.srt.sub (Nat.le_refl _) (by omega), BlkAt.erl f1 f2 hO (by omega) (by omega)⟩
theorem PhM.step' {key : Int → Int} {O zs zs' : List Int} {n s k a b : Nat} (h : PhM key O zs n s k) (hk : a = k * (2 * s)) (hb : b = min (a + 2 * s) n) (hr : Rea zs zs' a b) (hs : SrtI key zs' a b) : PhM key O zs' n s (k + 1) := by
  subst hk
  exact h.step hb hr hs
theorem next_mul {a k s : Nat} (hk : a = k * s) : a + s = (k + 1) * s := by rw [hk, Nat.succ_mul]

set_option maxRecDepth 100000 in
set_option maxHeartbeats 6400000 in
theorem stable_any (B n cap N : Nat) (O : List Int) (key : Int → Int) (p : Addr) (w : World) (hl : O.length = n) (hO : OwnI w B O) (hD : DomI O N) (hC : CmpOk 45 key N p B w)
    (hn : n ≤ 1000000) (hN : N ≤ 1000000) (hE : ∀ i j, i < j → j < n → O.getD i 0 < O.getD j 0) :
    Calls Try.prog 62 #[.slice (some ⟨B, 0, none⟩) n cap, .int .i64 n, .func (.func 45) #[] #[.pointer (some p)]] w
      fun e w' => e = .returned (.tuple #[]) ∧ ∃ zs', zs'.Perm O ∧ SrtI key zs' 0 n ∧ OwnI w' B zs' ∧ Tch B w w' := by
  have HO := Lib.hid hO
  have HL := Lib.hid hl
  have HC := Lib.hid hC
  have HE := Lib.hid hE
  have HD := Lib.hid hD
  clear hO hl hC hE hD
  go_enter Try.func62, Try.ntmps62
  go_wp2_with fail
  go_loopw [7, 8] (fun u v wr => ∃ a : Nat, ∃ cur : List Int, a ≤ n ∧ u = .int .i64 a ∧ v = .int .i64 ((a : Int) + 20) ∧ Hid (∃ k, a = k * 20) ∧ Hid (PhI key O cur n 20 a) ∧ Hid (OwnI wr B cur) ∧ Hid (Tch B w wr)) (fun u _ _ => n - (intOf u).toNat)
  case atStart => exact ⟨0, O, Nat.zero_le _, rfl, rfl, ⟨0, rfl⟩, PhI.start _ _ _ _, HO.out, Tch.refl _ _⟩
  case round =>
    obtain ⟨a, cur, han, rfl, rfl, hk, hP, hO2, hT2⟩ := hrel
    have hlen : Hid (cur.length = n) := by show _ = _; rw [hP.out.len, HL.out]
    have hE2 : Hid (∀ b, b ≤ n → ∀ i j, a ≤ i → i < j → j < b → cur.getD i 0 < cur.getD j 0) := fun b hb i j h1 h2 h3 => by
      rw [hP.out.rest i h1, hP.out.rest j (by omega)]; exact HE.out i j h2 (by omega)
    by_cases hlt : a + 20 ≤ n
    · go_wp2_with fail
      refine (insertion_at B n cap N cur key a (a + 20) _ _ p _ hlen.out hO2.out (HD.out.perm hP.out.perm) (HC.out.tch hT2.out) rfl (by omega) (by omega) hlt hn hN (hE2.out _ hlt)).mono ?_
      rintro e w1 ⟨rfl, nx, g1, g2, g3, g4⟩
      have H1 := Lib.hid g1
      have H2 := Lib.hid g2
      have H3 := Lib.hid g3
      have H4 := Lib.hid g4
      clear g1 g2 g3 g4
      go_wp2_with fail
      go_roundw
      case rel => exact ⟨a + 20, nx, hlt, by go_num, by go_num, hk.out.elim fun k e => ⟨k + 1, by omega⟩, hP.out.step' hk.out (by omega) H1.out H2.out, H3.out, hT2.out.trans H4.out⟩
      case measure => simp [intOf]; omega
    · go_wp2_with fail
      refine (insertion_at B n cap N cur key a n _ _ p _ hlen.out hO2.out (HD.out.perm hP.out.perm) (HC.out.tch hT2.out) rfl rfl han (Nat.le_refl _) hn hN (hE2.out _ (Nat.le_refl _))).mono ?_
      rintro e w1 ⟨rfl, c1, g1, g2, g3, g4⟩
      have HA := Lib.hid ((hP.out.step' hk.out (show n = min (a + 20) n by omega) g1 g2).all (by omega))
      have H3 := Lib.hid g3
      have H4 := Lib.hid (hT2.out.trans g4)
      clear g1 g2 g3 g4 hP hO2 hT2 hE2 hlen hk
      go_wp2_with fail
      go_loopw [6, 7, 8, 9] (fun u _ _ _ wr => ∃ s : Nat, ∃ cur : List Int, 20 ≤ s ∧ s ≤ 2000000 ∧ u = .int .i64 s ∧ Hid (AllB key O cur n s) ∧ Hid (OwnI wr B cur) ∧ Hid (Tch B w wr)) (fun u _ _ _ _ => n - (intOf u).toNat)
      case atStart => exact ⟨20, c1, by omega, by omega, rfl, HA.out, H3.out, H4.out⟩
      case round =>
        obtain ⟨s, c2, hs1, hs2, rfl, hA, hO3, hT3⟩ := hrel
        by_cases hsn : s < n
        · go_wp2_with fail
          obtain ⟨wo, hwo⟩ : ∃ wo : World, wo = wr := ⟨_, rfl⟩
          subst hwo
          go_loopw [7, 8] (fun u v wr => ∃ a k : Nat, ∃ cur : List Int, a ≤ n ∧ u = .int .i64 a ∧ v = .int .i64 ((a : Int) + 2 * (s : Int)) ∧ Hid (a = k * (2 * s)) ∧ Hid (PhM key O cur n s k) ∧ Hid (OwnI wr B cur) ∧ Hid (Tch B w wr)) (fun u _ _ => n - (intOf u).toNat)
          case atStart => exact ⟨0, 0, c2, Nat.zero_le _, rfl, by go_num, by show 0 = _; omega, hA.out.start, hO3.out, hT3.out⟩
          case round =>
            obtain ⟨a, k, cur, han, rfl, rfl, hk, hP, hO2, hT2⟩ := hrel
            have hlen : Hid (cur.length = n) := by show _ = _; rw [hP.out.len, HL.out]
            by_cases hlt : a + 2 * s ≤ n
            · have hpre := Lib.hid (hP.out.pre hk.out HE.out (show a + s < n by omega) (show a + 2 * s = min (a + 2 * s) n by omega))
              go_wp2_with fail
              refine (symMerge_any B n cap N key p hn hN _ cur a (a + s) (a + 2 * s) _ _ _ _ (Nat.le_refl _) rfl (by omega) (by omega) hlen.out hO2.out (HD.out.perm hP.out.perm) (HC.out.tch hT2.out) (by omega) (by omega) hlt hpre.out.1 hpre.out.2.1 hpre.out.2.2).mono ?_
              rintro e w1 ⟨rfl, nx, g1, g2, g3, g4⟩
              have H1 := Lib.hid g1
              have H2 := Lib.hid g2
              have H5 := Lib.hid g3
              have H6 := Lib.hid g4
              clear g1 g2 g3 g4
              go_wp2_with fail
              go_roundw
              case rel => exact ⟨a + 2 * s, k + 1, nx, hlt, by go_num, by go_num, next_mul hk.out, hP.out.step' hk.out (by omega) H1.out H2.out, H5.out, hT2.out.trans H6.out⟩
              case measure => simp [intOf]; omega
            · by_cases hm : a + s < n
              · have hpre := Lib.hid (hP.out.pre hk.out HE.out hm (show n = min (a + 2 * s) n by omega))
                go_wp2_with fail
                refine (symMerge_any B n cap N key p hn hN _ cur a (a + s) n _ _ _ _ (Nat.le_refl _) rfl (by omega) rfl hlen.out hO2.out (HD.out.perm hP.out.perm) (HC.out.tch hT2.out) (by omega) (by omega) (Nat.le_refl _) hpre.out.1 hpre.out.2.1 hpre.out.2.2).mono ?_
                rintro e w1 ⟨rfl, nx, g1, g2, g3, g4⟩
                have H1 := Lib.hid ((hP.out.step' hk.out (show n = min (a + 2 * s) n by omega) g1 g2).all (by rw [← next_mul hk.out]; omega))
                have H5 := Lib.hid g3
                have H6 := Lib.hid g4
                clear g1 g2 g3 g4
                go_wp2_with fail
                go_roundw
                case rel => exact ⟨2 * s, nx, by omega, by omega, by go_num, H1.out, H5.out, hT2.out.trans H6.out⟩
                case measure => simp [intOf]; omega
              · have H1 := Lib.hid (hP.out.last (by rw [← hk.out]; omega))
                go_wp2_with fail
                go_roundw
                case rel => exact ⟨2 * s, cur, by omega, by omega, by go_num, H1.out, hO2.out, hT2.out⟩
                case measure => simp [intOf]; omega
        · go_wp2_with fail
          go_end0
          exact ⟨rfl, c2, hA.out.perm, hA.out.whole (by omega), hO3.out, hT3.out⟩

set_option maxHeartbeats 800000 in
/-- SortStableFunc at ints that rise at the beginning: the same numbers, by the key; where that is equal, by themselves. -/
theorem sortStable_any (B n cap N : Nat) (O : List Int) (key : Int → Int) (p : Addr) (w : World) (hl : O.length = n) (hO : OwnI w B O) (hD : DomI O N) (hC : CmpOk 45 key N p B w)
    (hn : n ≤ 1000000) (hN : N ≤ 1000000) (hE : ∀ i j, i < j → j < n → O.getD i 0 < O.getD j 0) :
    Calls Try.prog 44 #[.slice (some ⟨B, 0, none⟩) n cap, .func (.func 45) #[] #[.pointer (some p)]] w
      fun e w' => e = .returned (.tuple #[]) ∧ ∃ zs', zs'.Perm O ∧ SrtI key zs' 0 n ∧ OwnI w' B zs' ∧ Tch B w w' := by
  have HO := Lib.hid hO
  have HL := Lib.hid hl
  have HC := Lib.hid hC
  have HE := Lib.hid hE
  have HD := Lib.hid hD
  clear hO hl hC hE hD
  go_enter Try.func44, Try.ntmps44
  go_wp2_with fail
  refine (stable_any B n cap N O key p _ HL.out HO.out HD.out HC.out hn hN HE.out).mono ?_
  rintro e w1 ⟨rfl, nx, g0, g1, g2, g3⟩
  have H0 := Lib.hid g0
  have H1 := Lib.hid g1
  have H2 := Lib.hid g2
  have H3 := Lib.hid g3
  clear g0 g1 g2 g3
  go_wp2_with fail
  go_end0
  exact ⟨rfl, nx, H0.out, H1.out, H2.out, H3.out⟩

end

end Go.Proofs.Ytdijdfhlmnhcjaa
