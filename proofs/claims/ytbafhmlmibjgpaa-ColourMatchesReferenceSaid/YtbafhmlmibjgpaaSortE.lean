/-
  The walk of a stable sort's merge in place.
-/
import Derived.Test.YtbafhmlmibjgpaaSortD
namespace Go.Proofs.Ytbafhmlmibjgpaa
set_option linter.unusedSimpArgs false
set_option linter.unusedVariables false
open Go.RowKit

theorem rotate_at (B n cap : Nat) (zs : List Int) (a m b : Nat) (a' m' b' : Int) (f : Value) (w : World) (hl : zs.length = n) (hO : OwnI w B zs) (ha' : a' = a) (hm' : m' = m) (hb' : b' = b) (ham : a < m) (hmb : m < b) (hb : b ≤ n) (hn : n ≤ 1000000) :
    Calls Try.prog 45 #[.slice (some ⟨B, 0, none⟩) n cap, .int .i64 a', .int .i64 m', .int .i64 b', f] w
      fun e w' => e = .returned (.tuple #[]) ∧ ∃ zs', Rot zs zs' a m b ∧ OwnI w' B zs' ∧ Tch B w w' := by
  subst ha' hm' hb'
  exact rotate_any B n cap zs a m b f w hl hO ham hmb hb hn

theorem ErlI.congr {zs zs' : List Int} {a m b : Nat} (h : ErlI zs a m b) (e : ∀ i, a ≤ i → i < b → zs'.getD i 0 = zs.getD i 0) : ErlI zs' a m b := fun i j h1 h2 h3 h4 => by
  rw [e i h1 (by omega), e j (by omega) h4]; exact h i j h1 h2 h3 h4
theorem Rot.left' {zs cur : List Int} {m k : Nat} (h : Rot zs cur k m (m + 1)) (h0 : 0 < k) (hk : k ≤ m) (hl : m < zs.length) : Rot zs (sw cur k (k - 1)) (k - 1) m (m + 1) := by
  obtain ⟨j, rfl⟩ : ∃ j, k = j + 1 := ⟨k - 1, by omega⟩
  exact h.left (by omega) hl

/-- What a merge is asked, and what it does. -/
def MergeOk (B n cap N : Nat) (key : Int → Int) (p : Addr) (k : Nat) : Prop := ∀ (zs : List Int) (a m b : Nat) (a' m' b' : Int) (w : World), b - a ≤ k → a' = a → m' = m → b' = b → zs.length = n → OwnI w B zs → DomI zs N →
    CmpOk 35 key N p B w → a < m → m < b → b ≤ n → SrtI key zs a m → SrtI key zs m b → ErlI zs a m b →
    Calls Try.prog 44 #[.slice (some ⟨B, 0, none⟩) n cap, .int .i64 a', .int .i64 m', .int .i64 b', .func (.func 35) #[] #[.pointer (some p)]] w
      fun e w' => e = .returned (.tuple #[]) ∧ ∃ zs', Rea zs zs' a b ∧ SrtI key zs' a b ∧ OwnI w' B zs' ∧ Tch B w w'

set_option maxRecDepth 100000 in
set_option maxHeartbeats 6400000 in
/-- The left run is one element. -/
theorem symMerge_one (B n cap N : Nat) (key : Int → Int) (p : Addr) (hn : n ≤ 1000000) (hN : N ≤ 1000000) (zs : List Int) (a m b : Nat) (w : World) (hl : zs.length = n) (hO : OwnI w B zs) (hD : DomI zs N)
    (hC : CmpOk 35 key N p B w) (hm1 : m = a + 1) (hmb : m < b) (hb : b ≤ n) (hs2 : SrtI key zs m b) (hE : ErlI zs a m b) :
    Calls Try.prog 44 #[.slice (some ⟨B, 0, none⟩) n cap, .int .i64 a, .int .i64 m, .int .i64 b, .func (.func 35) #[] #[.pointer (some p)]] w
      fun e w' => e = .returned (.tuple #[]) ∧ ∃ zs', Rea zs zs' a b ∧ SrtI key zs' a b ∧ OwnI w' B zs' ∧ Tch B w w' := by
  have q1 : ((m : Int) - (a : Int) == 1) = true := by simp; omega
  have HO := Lib.hid hO
  have HL := Lib.hid hl
  have HC := Lib.hid hC
  have HD := Lib.hid hD
  have HS2 := Lib.hid hs2
  have HE := Lib.hid hE
  have HM := Lib.hid hm1
  have ham : a < m := by omega
  have ham2 : m ≤ a + 1 := by omega
  clear hO hl hC hD hs2 hE hm1
  go_enter Try.func44, Try.ntmps44
  go_wp2_with fail
  go_loopw [10, 11] (fun u v wr => ∃ i j : Nat, m ≤ i ∧ i ≤ j ∧ j ≤ b ∧ u = .int .i64 i ∧ v = .int .i64 j ∧ Hid (i = m ∨ key (zs.getD (i - 1) 0) < key (zs.getD a 0)) ∧ Hid (j = b ∨ key (zs.getD a 0) ≤ key (zs.getD j 0)) ∧ Hid (OwnI wr B zs) ∧ Hid (Tch B w wr)) (fun u v _ => (intOf v).toNat - (intOf u).toNat)
  case atStart => exact ⟨m, b, Nat.le_refl _, by omega, Nat.le_refl _, rfl, rfl, Or.inl rfl, Or.inl rfl, HO.out, Tch.refl _ _⟩
  case round =>
    obtain ⟨i, j, hi, hij, hj, rfl, rfl, hc1, hc2, hO2, hT2⟩ := hrel
    by_cases hlt : i < j
    · obtain ⟨h, hh⟩ : ∃ h, (i + j) / 2 = h := ⟨_, rfl⟩
      have e1 : ((i : Int) + (j : Int)) / 2 = (h : Int) := by omega
      have hi1 : i ≤ h := by omega
      have hj1 : h < j := by omega
      have HH := Lib.hid hh
      clear hh
      have c1 := hO2.out.cell (i := h) (by have := HL.out; omega)
      have c2 := hO2.out.cell (i := a) (by have := HL.out; omega)
      have d1 := HD.out h (by have := HL.out; omega)
      have d2 := HD.out a (by have := HL.out; omega)
      obtain ⟨x, hx⟩ : ∃ x, zs.getD h 0 = x := ⟨_, rfl⟩
      obtain ⟨y, hy⟩ : ∃ y, zs.getD a 0 = y := ⟨_, rfl⟩
      rw [hx] at c1 d1
      rw [hy] at c2 d2
      have HX := Lib.hid hx
      have HY := Lib.hid hy
      obtain ⟨d11, d12⟩ := d1
      obtain ⟨d21, d22⟩ := d2
      have hC' := Lib.hid (HC.out.tch hT2.out)
      have b0 : (0 : Int) ≤ (h : Int) := by omega
      have b1 : (h : Int) < (n : Int) := by omega
      have b2 : (0 : Int) ≤ (a : Int) := by omega
      have b3 : (a : Int) < (n : Int) := by omega
      clear hx hy
      go_wp2_with fail
      by_cases hc : key x < key y
      · have hcn : cmpI (key x) (key y) < 0 := cmpI_neg.2 hc
        go_quiet ((go_at_call 35; exact Calls.quiet_of (hC'.out.at _ x y d11 d12 d21 d22)))
        go_wp2_with fail
        go_roundw
        case rel => exact ⟨h + 1, j, by omega, by omega, by omega, by go_num, rfl, Or.inr (by rw [show h + 1 - 1 = h by omega, HX.out, HY.out]; omega), hc2, hO2.out.drewN _, hT2.out.drewN _⟩
        case measure => simp [intOf]; omega
      · have hcn : ¬ cmpI (key x) (key y) < 0 := fun h => hc (cmpI_neg.1 h)
        go_quiet ((go_at_call 35; exact Calls.quiet_of (hC'.out.at _ x y d11 d12 d21 d22)))
        go_wp2_with fail
        go_roundw
        case rel => exact ⟨i, h, by omega, by omega, by omega, rfl, rfl, hc1, Or.inr (by rw [HX.out, HY.out]; omega), hO2.out.drewN _, hT2.out.drewN _⟩
        case measure => simp [intOf]; omega
    · obtain rfl : i = j := by omega
      go_wp2_with fail
      obtain ⟨wo, hwo⟩ : ∃ wo : World, wo = wr := ⟨_, rfl⟩
      subst hwo
      go_loopw [13] (fun u wr => ∃ k : Nat, ∃ cur : List Int, a ≤ k ∧ k + 1 ≤ i ∧ u = .int .i64 k ∧ Hid (Rot zs cur a (a + 1) (k + 1)) ∧ Hid (OwnI wr B cur) ∧ Hid (Tch B w wr)) (fun u _ => i - (intOf u).toNat)
      case atStart => exact ⟨a, zs, Nat.le_refl _, by omega, rfl, Rot.same zs (Or.inr rfl), hO2.out, hT2.out⟩
      case round =>
        obtain ⟨k, cur, hak, hki, rfl, hR, hO3, hT3⟩ := hrel
        have hlen : Hid (cur.length = n) := by show _ = _; rw [hR.out.len, HL.out]
        by_cases hk : k + 1 < i
        · have c1 := hO3.out.cell (i := k) (by have := hlen.out; omega)
          have c2 := hO3.out.cell (i := k + 1) (by have := hlen.out; omega)
          have z1 := hO3.out.frozen k
          have z2 := hO3.out.frozen (k + 1)
          obtain ⟨x, hx⟩ : ∃ x, cur.getD k 0 = x := ⟨_, rfl⟩
          obtain ⟨y, hy⟩ : ∃ y, cur.getD (k + 1) 0 = y := ⟨_, rfl⟩
          rw [hx] at c1
          rw [hy] at c2
          have HX := Lib.hid hx
          have HY := Lib.hid hy
          have b0 : (k : Int) < (n : Int) := by omega
          have b1 : (k : Int) + 1 < (n : Int) := by omega
          clear hx hy
          go_wp2_with fail
          go_region
          go_wp2_with fail
          go_roundw
          case rel =>
            refine ⟨k + 1, sw cur k (k + 1), by omega, by omega, by go_num, hR.out.right hak (by have := HL.out; omega), ?_, ?_⟩
            · show OwnI _ B _
              unfold sw
              rw [HX.out, HY.out]
              exact ((hO3.out.drew).set (by have := hlen.out; omega) _).set (by have := hlen.out; simp; omega) _
            · show Tch B w _
              exact ((hT3.out.drew).set _ _).set _ _
          case measure => simp [intOf]; omega
        · obtain rfl : i = k + 1 := by omega
          go_wp2_with fail
          refine bodyPost_ret (v := .tuple #[]) (by simp [results, Try.results44, go_sem]) rfl ?_
          have hm1 := HM.out
          subst hm1
          exact ⟨rfl, cur, (hR.out.rea (by omega) (by omega)).mono (Nat.le_refl _) hj, merge_right HS2.out HE.out hi hj hc1.out (hc2.out.imp id (fun h => by omega)) hR.out, hO3.out, hT3.out⟩

set_option maxRecDepth 100000 in
set_option maxHeartbeats 6400000 in
/-- The right run is one element, the left one more. -/
theorem symMerge_last (B n cap N : Nat) (key : Int → Int) (p : Addr) (hn : n ≤ 1000000) (hN : N ≤ 1000000) (zs : List Int) (a m b : Nat) (w : World) (hl : zs.length = n) (hO : OwnI w B zs) (hD : DomI zs N)
    (hC : CmpOk 35 key N p B w) (hm1 : a + 1 < m) (hmb : b = m + 1) (hb : b ≤ n) (hs1 : SrtI key zs a m) (hE : ErlI zs a m b) :
    Calls Try.prog 44 #[.slice (some ⟨B, 0, none⟩) n cap, .int .i64 a, .int .i64 m, .int .i64 b, .func (.func 35) #[] #[.pointer (some p)]] w
      fun e w' => e = .returned (.tuple #[]) ∧ ∃ zs', Rea zs zs' a b ∧ SrtI key zs' a b ∧ OwnI w' B zs' ∧ Tch B w w' := by
  have q1 : ((m : Int) - (a : Int) == 1) = false := by simp; omega
  have q2 : ((b : Int) - (m : Int) == 1) = true := by simp; omega
  have HO := Lib.hid hO
  have HL := Lib.hid hl
  have HC := Lib.hid hC
  have HD := Lib.hid hD
  have HS1 := Lib.hid hs1
  have HE := Lib.hid hE
  have HM := Lib.hid hmb
  have hmb1 : m < b := by omega
  have hmb2 : b ≤ m + 1 := by omega
  clear hO hl hC hD hs1 hE hmb
  go_enter Try.func44, Try.ntmps44
  go_wp2_with fail
  go_loopw [14, 15] (fun u v wr => ∃ i j : Nat, a ≤ i ∧ i ≤ j ∧ j ≤ m ∧ u = .int .i64 i ∧ v = .int .i64 j ∧ Hid (i = a ∨ key (zs.getD (i - 1) 0) ≤ key (zs.getD m 0)) ∧ Hid (j = m ∨ key (zs.getD m 0) < key (zs.getD j 0)) ∧ Hid (OwnI wr B zs) ∧ Hid (Tch B w wr)) (fun u v _ => (intOf v).toNat - (intOf u).toNat)
  case atStart => exact ⟨a, m, Nat.le_refl _, by omega, Nat.le_refl _, rfl, rfl, Or.inl rfl, Or.inl rfl, HO.out, Tch.refl _ _⟩
  case round =>
    obtain ⟨i, j, hi, hij, hj, rfl, rfl, hc1, hc2, hO2, hT2⟩ := hrel
    by_cases hlt : i < j
    · obtain ⟨h, hh⟩ : ∃ h, (i + j) / 2 = h := ⟨_, rfl⟩
      have e1 : ((i : Int) + (j : Int)) / 2 = (h : Int) := by omega
      have hi1 : i ≤ h := by omega
      have hj1 : h < j := by omega
      have HH := Lib.hid hh
      clear hh
      have c1 := hO2.out.cell (i := m) (by have := HL.out; omega)
      have c2 := hO2.out.cell (i := h) (by have := HL.out; omega)
      have d1 := HD.out m (by have := HL.out; omega)
      have d2 := HD.out h (by have := HL.out; omega)
      obtain ⟨x, hx⟩ : ∃ x, zs.getD m 0 = x := ⟨_, rfl⟩
      obtain ⟨y, hy⟩ : ∃ y, zs.getD h 0 = y := ⟨_, rfl⟩
      rw [hx] at c1 d1
      rw [hy] at c2 d2
      have HX := Lib.hid hx
      have HY := Lib.hid hy
      obtain ⟨d11, d12⟩ := d1
      obtain ⟨d21, d22⟩ := d2
      have hC' := Lib.hid (HC.out.tch hT2.out)
      have b0 : (0 : Int) ≤ (h : Int) := by omega
      have b1 : (h : Int) < (n : Int) := by omega
      have b2 : (0 : Int) ≤ (m : Int) := by omega
      have b3 : (m : Int) < (n : Int) := by omega
      clear hx hy
      go_wp2_with fail
      by_cases hc : key x < key y
      · have hcn : cmpI (key x) (key y) < 0 := cmpI_neg.2 hc
        go_quiet ((go_at_call 35; exact Calls.quiet_of (hC'.out.at _ x y d11 d12 d21 d22)))
        go_wp2_with fail
        go_roundw
        case rel => exact ⟨i, h, by omega, by omega, by omega, rfl, rfl, hc1, Or.inr (by rw [HX.out, HY.out]; omega), hO2.out.drewN _, hT2.out.drewN _⟩
        case measure => simp [intOf]; omega
      · have hcn : ¬ cmpI (key x) (key y) < 0 := fun h => hc (cmpI_neg.1 h)
        go_quiet ((go_at_call 35; exact Calls.quiet_of (hC'.out.at _ x y d11 d12 d21 d22)))
        go_wp2_with fail
        go_roundw
        case rel => exact ⟨h + 1, j, by omega, by omega, by omega, by go_num, rfl, Or.inr (by rw [show h + 1 - 1 = h by omega, HX.out, HY.out]; omega), hc2, hO2.out.drewN _, hT2.out.drewN _⟩
        case measure => simp [intOf]; omega
    · obtain rfl : i = j := by omega
      go_wp2_with fail
      obtain ⟨wo, hwo⟩ : ∃ wo : World, wo = wr := ⟨_, rfl⟩
      subst hwo
      go_loopw [17] (fun u wr => ∃ k : Nat, ∃ cur : List Int, i ≤ k ∧ k ≤ m ∧ u = .int .i64 k ∧ Hid (Rot zs cur k m (m + 1)) ∧ Hid (OwnI wr B cur) ∧ Hid (Tch B w wr)) (fun u _ => (intOf u).toNat)
      case atStart => exact ⟨m, zs, by omega, Nat.le_refl _, rfl, Rot.same zs (Or.inl rfl), hO2.out, hT2.out⟩
      case round =>
        obtain ⟨k, cur, hak, hki, rfl, hR, hO3, hT3⟩ := hrel
        have hlen : Hid (cur.length = n) := by show _ = _; rw [hR.out.len, HL.out]
        by_cases hk : i < k
        · have c1 := hO3.out.cell (i := k) (by have := hlen.out; omega)
          have c2 := hO3.out.cell (i := k - 1) (by have := hlen.out; omega)
          have z1 := hO3.out.frozen k
          have z2 := hO3.out.frozen (k - 1)
          obtain ⟨x, hx⟩ : ∃ x, cur.getD k 0 = x := ⟨_, rfl⟩
          obtain ⟨y, hy⟩ : ∃ y, cur.getD (k - 1) 0 = y := ⟨_, rfl⟩
          rw [hx] at c1
          rw [hy] at c2
          have HX := Lib.hid hx
          have HY := Lib.hid hy
          have b0 : (0 : Int) ≤ (k : Int) - 1 := by omega
          have b1 : (k : Int) < (n : Int) := by omega
          have b2 : (k : Int) - 1 < (n : Int) := by omega
          have b3 : ((k : Int) - 1).toNat = k - 1 := by omega
          clear hx hy
          go_wp2_with fail
          go_region
          go_wp2_with fail
          go_roundw
          case rel =>
            refine ⟨k - 1, sw cur k (k - 1), by omega, by omega, by go_num, hR.out.left' (by omega) hki (by have := HL.out; omega), ?_, ?_⟩
            · show OwnI _ B _
              unfold sw
              rw [HX.out, HY.out]
              exact ((hO3.out.drew).set (by have := hlen.out; omega) _).set (by have := hlen.out; simp; omega) _
            · show Tch B w _
              exact ((hT3.out.drew).set _ _).set _ _
          case measure => simp [intOf]; omega
        · obtain rfl : i = k := by omega
          go_wp2_with fail
          refine bodyPost_ret (v := .tuple #[]) (by simp [results, Try.results44, go_sem]) rfl ?_
          have hm1 := HM.out
          subst hm1
          exact ⟨rfl, cur, (hR.out.rea (by omega) (by omega)).mono hi (Nat.le_refl _), merge_left HS1.out HE.out hi hj (hc1.out.imp id (fun h => by omega)) hc2.out hR.out, hO3.out, hT3.out⟩


set_option maxRecDepth 100000 in
set_option maxHeartbeats 12800000 in
/-- Both runs are longer than one. -/
theorem symMerge_more (B n cap N : Nat) (key : Int → Int) (p : Addr) (hn : n ≤ 1000000) (hN : N ≤ 1000000) (kk : Nat) (ih : MergeOk B n cap N key p kk) (zs : List Int) (a m b : Nat) (w : World) (hkk : b - a ≤ kk + 1) (hl : zs.length = n) (hO : OwnI w B zs) (hD : DomI zs N)
    (hC : CmpOk 35 key N p B w) (ham : a + 1 < m) (hmb : m + 1 < b) (hb : b ≤ n) (hs1 : SrtI key zs a m) (hs2 : SrtI key zs m b) (hE : ErlI zs a m b) :
    Calls Try.prog 44 #[.slice (some ⟨B, 0, none⟩) n cap, .int .i64 a, .int .i64 m, .int .i64 b, .func (.func 35) #[] #[.pointer (some p)]] w
      fun e w' => e = .returned (.tuple #[]) ∧ ∃ zs', Rea zs zs' a b ∧ SrtI key zs' a b ∧ OwnI w' B zs' ∧ Tch B w w' := by
  have q1 : ((m : Int) - (a : Int) == 1) = false := by simp; omega
  have q2 : ((b : Int) - (m : Int) == 1) = false := by simp; omega
  obtain ⟨mid, hmd⟩ : ∃ mid, (a + b) / 2 = mid := ⟨_, rfl⟩
  have e1 : ((a : Int) + (b : Int)) / 2 = (mid : Int) := by omega
  have md1 : 2 * mid ≤ a + b := by omega
  have md2 : a + b < 2 * mid + 2 := by omega
  have HO := Lib.hid hO
  have HL := Lib.hid hl
  have HC := Lib.hid hC
  have HD := Lib.hid hD
  have HS1 := Lib.hid hs1
  have HS2 := Lib.hid hs2
  have HE := Lib.hid hE
  have IH := Lib.hid ih
  clear hO hl hC hD hs1 hs2 hE ih hmd
  obtain ⟨lo, hi, hlo⟩ : ∃ lo hi : Nat, (mid < m ∧ lo + b = mid + m ∧ hi = mid) ∨ (m ≤ mid ∧ lo = a ∧ hi = m) := by
    by_cases h : mid < m
    · exact ⟨mid + m - b, mid, Or.inl ⟨h, by omega, rfl⟩⟩
    · exact ⟨a, m, Or.inr ⟨by omega, rfl, rfl⟩⟩
  have HLO : Hid (lo ≤ hi ∧ a ≤ lo ∧ hi ≤ m ∧ hi ≤ mid ∧ mid + m ≤ lo + b ∧ (lo = a ∨ mid + m = lo + b) ∧ (hi = m ∨ hi = mid)) := by show _ ∧ _; omega
  obtain ⟨l1, l2, l3, l4, l5, l6, l7⟩ := HLO.out
  clear l6 l7
  rcases hlo with ⟨hlo1, hlo2, hlo3⟩ | ⟨hlo1, hlo2, hlo3⟩
  · go_enter Try.func44, Try.ntmps44
    have HLO2 := Lib.hid hlo2
    have HLO3 := Lib.hid hlo3
    clear hlo2 hlo3
    go_wp2_with fail
    go_loopw [20, 21] (fun u v wr => ∃ s r : Nat, lo ≤ s ∧ s ≤ r ∧ r ≤ hi ∧ u = .int .i64 s ∧ v = .int .i64 r ∧ Hid (s = lo ∨ key (zs.getD (s - 1) 0) ≤ key (zs.getD (mid + m - s) 0)) ∧ Hid (r = hi ∨ key (zs.getD (mid + m - 1 - r) 0) < key (zs.getD r 0)) ∧ Hid (OwnI wr B zs) ∧ Hid (Tch B w wr)) (fun u v _ => (intOf v).toNat - (intOf u).toNat)
    case atStart => exact ⟨lo, hi, Nat.le_refl _, by omega, Nat.le_refl _, by have := HLO2.out; first | go_num | (rw [this]), by rw [HLO3.out], Or.inl rfl, Or.inl rfl, HO.out, Tch.refl _ _⟩
    case round =>
      obtain ⟨s, r, hs, hsr, hr, rfl, rfl, hc1, hc2, hO2, hT2⟩ := hrel
      by_cases hlt : s < r
      · obtain ⟨c, hh⟩ : ∃ c, (s + r) / 2 = c := ⟨_, rfl⟩
        have e2 : ((s : Int) + (r : Int)) / 2 = (c : Int) := by omega
        have hi1 : s ≤ c := by omega
        have hj1 : c < r := by omega
        have HH := Lib.hid hh
        clear hh
        obtain ⟨q, hq⟩ : ∃ q, mid + m - 1 - c = q := ⟨_, rfl⟩
        have e3 : (mid : Int) + (m : Int) - 1 - (c : Int) = (q : Int) := by omega
        have hq1 : m ≤ q := by omega
        have hq2 : q < b := by omega
        have c1 := hO2.out.cell (i := q) (by have := HL.out; omega)
        have c2 := hO2.out.cell (i := c) (by have := HL.out; omega)
        have d1 := HD.out q (by have := HL.out; omega)
        have d2 := HD.out c (by have := HL.out; omega)
        obtain ⟨x, hx⟩ : ∃ x, zs.getD q 0 = x := ⟨_, rfl⟩
        obtain ⟨y, hy⟩ : ∃ y, zs.getD c 0 = y := ⟨_, rfl⟩
        rw [hx] at c1 d1
        rw [hy] at c2 d2
        have HX := Lib.hid hx
        have HY := Lib.hid hy
        have HQ := Lib.hid hq
        obtain ⟨d11, d12⟩ := d1
        obtain ⟨d21, d22⟩ := d2
        have hC' := Lib.hid (HC.out.tch hT2.out)
        have b0 : (0 : Int) ≤ (c : Int) := by omega
        have b1 : (c : Int) < (n : Int) := by omega
        have b2 : (0 : Int) ≤ (q : Int) := by omega
        have b3 : (q : Int) < (n : Int) := by omega
        clear hx hy hq
        go_wp2_with fail
        by_cases hc : key x < key y
        · have hcn : cmpI (key x) (key y) < 0 := cmpI_neg.2 hc
          go_quiet ((go_at_call 35; exact Calls.quiet_of (hC'.out.at _ x y d11 d12 d21 d22)))
          go_wp2_with fail
          go_roundw
          case rel => exact ⟨s, c, by omega, by omega, by omega, rfl, rfl, hc1, Or.inr (by rw [HQ.out, HX.out, HY.out]; omega), hO2.out.drewN _, hT2.out.drewN _⟩
          case measure => simp [intOf]; omega
        · have hcn : ¬ cmpI (key x) (key y) < 0 := fun h => hc (cmpI_neg.1 h)
          go_quiet ((go_at_call 35; exact Calls.quiet_of (hC'.out.at _ x y d11 d12 d21 d22)))
          go_wp2_with fail
          go_roundw
          case rel => exact ⟨c + 1, r, by omega, by omega, by omega, by go_num, rfl, Or.inr (by rw [show c + 1 - 1 = c by omega, show mid + m - (c + 1) = mid + m - 1 - c by omega, HQ.out, HX.out, HY.out]; omega), hc2, hO2.out.drewN _, hT2.out.drewN _⟩
          case measure => simp [intOf]; omega
      · obtain rfl : s = r := by omega
        obtain ⟨e, he⟩ : ∃ e, mid + m - s = e := ⟨_, rfl⟩
        have e2 : (mid : Int) + (m : Int) - (s : Int) = (e : Int) := by omega
        have hmid : mid + m = s + e := by omega
        have HA : Hid (s = a ∨ e = b ∨ key (zs.getD (s - 1) 0) ≤ key (zs.getD e 0)) := by
          rcases hc1.out with h | h
          · rcases HLO.out.2.2.2.2.2.1 with g | g
            · exact Or.inl (by omega)
            · exact Or.inr (Or.inl (by omega))
          · rw [he] at h; exact Or.inr (Or.inr h)
        have HB : Hid (s = m ∨ e = m ∨ key (zs.getD (e - 1) 0) < key (zs.getD s 0)) := by
          rcases hc2.out with h | h
          · rcases HLO.out.2.2.2.2.2.2 with g | g
            · exact Or.inl (by omega)
            · exact Or.inr (Or.inl (by omega))
          · rw [show mid + m - 1 - s = e - 1 by omega] at h; exact Or.inr (Or.inr h)
        clear hc1 hc2
        have HMID := Lib.hid hmid
        have he1 : m ≤ e := by omega
        have he2 : e ≤ b := by omega
        clear he
        by_cases P : s < m
        · by_cases R : s < mid
          · by_cases A : a < s
            · by_cases Z : e < b
              ·
                try (exfalso; have := HLO2.out; have := HLO3.out; omega)
                all_goals
                  go_wp2_with fail
                  refine (rotate_at B n cap zs s m e _ _ _ _ _ HL.out hO2.out rfl rfl rfl (by omega) (by omega) (by omega) hn).mono ?_
                  rintro e1 w1 ⟨rfl, z2, g1, g2, g3⟩
                  have HR2 := Lib.hid g1
                  have HO2 := Lib.hid g2
                  have HT2 := Lib.hid (hT2.out.trans g3)
                  clear g1 g2 g3
                  have HM2 := Lib.hid (merge_halves HS1.out HS2.out HE.out (show a ≤ s by omega) (show s ≤ m by omega) (show m ≤ e by omega) (show e ≤ b by omega) hmid HR2.out)
                  have HL2 : Hid (z2.length = n) := by show _ = _; rw [HR2.out.len, HL.out]
                  have HD2 := Lib.hid (HD.out.perm HR2.out.perm)
                  go_wp2_with fail
                  refine (IH.out z2 a s mid _ _ _ _ (by omega) rfl rfl rfl HL2.out HO2.out HD2.out (HC.out.tch HT2.out) (by omega) (by omega) (by omega) HM2.out.1 HM2.out.2.1 HM2.out.2.2.1).mono ?_
                  rintro e1 w2 ⟨rfl, z3, g0, g1, g2, g3⟩
                  have HR3 := Lib.hid g0
                  have HS3 := Lib.hid g1
                  have HO3 := Lib.hid g2
                  have HT3 := Lib.hid (HT2.out.trans g3)
                  clear g0 g1 g2 g3
                  have HL3 : Hid (z3.length = n) := by show _ = _; rw [HR3.out.len, HL2.out]
                  have HD3 := Lib.hid (HD2.out.perm HR3.out.perm)
                  have HQ1 : Hid (SrtI key z3 mid e) := SrtI.congr HM2.out.2.2.2.1 (fun i i1 i2 => HR3.out.out i (by omega))
                  have HQ2 : Hid (SrtI key z3 e b) := SrtI.congr HM2.out.2.2.2.2.1 (fun i i1 i2 => HR3.out.out i (by omega))
                  have HQ3 : Hid (ErlI z3 mid e b) := ErlI.congr HM2.out.2.2.2.2.2 (fun i i1 i2 => HR3.out.out i (by omega))
                  go_wp2_with fail
                  refine (IH.out z3 mid e b _ _ _ _ (by omega) rfl rfl rfl HL3.out HO3.out HD3.out (HC.out.tch HT3.out) (by omega) (by omega) (by omega) HQ1.out HQ2.out HQ3.out).mono ?_
                  rintro e1 w3 ⟨rfl, z4, g0, g1, g2, g3⟩
                  have HR4 := Lib.hid g0
                  have HS4 := Lib.hid g1
                  have HO4 := Lib.hid g2
                  have HT4 := Lib.hid (HT3.out.trans g3)
                  clear g0 g1 g2 g3
                  go_wp2_with fail
                  go_end0
                  obtain ⟨f1, f2⟩ := merge_join HS1.out HS2.out HE.out (show a ≤ s by omega) (show s ≤ m by omega) (show m ≤ e by omega) (show e ≤ b by omega) hmid (HA.out.imp id (fun h => h.imp id (fun g => by omega))) HB.out HR2.out HR3.out HS3.out HR4.out HS4.out
                  exact ⟨rfl, z4, f2, f1, HO4.out, HT4.out⟩
              ·
                try (exfalso; have := HLO2.out; have := HLO3.out; omega)
                all_goals
                  go_wp2_with fail
                  refine (rotate_at B n cap zs s m e _ _ _ _ _ HL.out hO2.out rfl rfl rfl (by omega) (by omega) (by omega) hn).mono ?_
                  rintro e1 w1 ⟨rfl, z2, g1, g2, g3⟩
                  have HR2 := Lib.hid g1
                  have HO2 := Lib.hid g2
                  have HT2 := Lib.hid (hT2.out.trans g3)
                  clear g1 g2 g3
                  have HM2 := Lib.hid (merge_halves HS1.out HS2.out HE.out (show a ≤ s by omega) (show s ≤ m by omega) (show m ≤ e by omega) (show e ≤ b by omega) hmid HR2.out)
                  have HL2 : Hid (z2.length = n) := by show _ = _; rw [HR2.out.len, HL.out]
                  have HD2 := Lib.hid (HD.out.perm HR2.out.perm)
                  go_wp2_with fail
                  refine (IH.out z2 a s mid _ _ _ _ (by omega) rfl rfl rfl HL2.out HO2.out HD2.out (HC.out.tch HT2.out) (by omega) (by omega) (by omega) HM2.out.1 HM2.out.2.1 HM2.out.2.2.1).mono ?_
                  rintro e1 w2 ⟨rfl, z3, g0, g1, g2, g3⟩
                  have HR3 := Lib.hid g0
                  have HS3 := Lib.hid g1
                  have HO3 := Lib.hid g2
                  have HT3 := Lib.hid (HT2.out.trans g3)
                  clear g0 g1 g2 g3
                  have HL3 : Hid (z3.length = n) := by show _ = _; rw [HR3.out.len, HL2.out]
                  have HD3 := Lib.hid (HD2.out.perm HR3.out.perm)
                  have HQ1 : Hid (SrtI key z3 mid e) := SrtI.congr HM2.out.2.2.2.1 (fun i i1 i2 => HR3.out.out i (by omega))
                  have HQ2 : Hid (SrtI key z3 e b) := SrtI.congr HM2.out.2.2.2.2.1 (fun i i1 i2 => HR3.out.out i (by omega))
                  have HQ3 : Hid (ErlI z3 mid e b) := ErlI.congr HM2.out.2.2.2.2.2 (fun i i1 i2 => HR3.out.out i (by omega))
                  obtain ⟨z4, hz4⟩ : ∃ z4, z4 = z3 := ⟨_, rfl⟩
                  have HR4 : Hid (Rea z3 z4 mid b) := by rw [hz4]; exact Rea.refl _ _ _
                  have HS4 : Hid (SrtI key z4 mid b) := by
                    rw [hz4]
                    by_cases hx : e = b
                    · rw [← hx]; exact HQ1.out
                    · rw [show mid = e by omega]; exact HQ2.out
                  have HO4 := HO3
                  rw [← hz4] at HO4
                  have HT4 := Lib.hid HT3.out
                  clear hz4
                  go_wp2_with fail
                  go_end0
                  obtain ⟨f1, f2⟩ := merge_join HS1.out HS2.out HE.out (show a ≤ s by omega) (show s ≤ m by omega) (show m ≤ e by omega) (show e ≤ b by omega) hmid (HA.out.imp id (fun h => h.imp id (fun g => by omega))) HB.out HR2.out HR3.out HS3.out HR4.out HS4.out
                  exact ⟨rfl, z4, f2, f1, HO4.out, HT4.out⟩
            · by_cases Z : e < b
              ·
                try (exfalso; have := HLO2.out; have := HLO3.out; omega)
                all_goals
                  go_wp2_with fail
                  refine (rotate_at B n cap zs s m e _ _ _ _ _ HL.out hO2.out rfl rfl rfl (by omega) (by omega) (by omega) hn).mono ?_
                  rintro e1 w1 ⟨rfl, z2, g1, g2, g3⟩
                  have HR2 := Lib.hid g1
                  have HO2 := Lib.hid g2
                  have HT2 := Lib.hid (hT2.out.trans g3)
                  clear g1 g2 g3
                  have HM2 := Lib.hid (merge_halves HS1.out HS2.out HE.out (show a ≤ s by omega) (show s ≤ m by omega) (show m ≤ e by omega) (show e ≤ b by omega) hmid HR2.out)
                  have HL2 : Hid (z2.length = n) := by show _ = _; rw [HR2.out.len, HL.out]
                  have HD2 := Lib.hid (HD.out.perm HR2.out.perm)
                  obtain ⟨z3, hz3⟩ : ∃ z3, z3 = z2 := ⟨_, rfl⟩
                  have HR3 : Hid (Rea z2 z3 a mid) := by rw [hz3]; exact Rea.refl _ _ _
                  have HS3 : Hid (SrtI key z3 a mid) := by
                    rw [hz3]
                    by_cases hx : s = mid
                    · rw [← hx]; exact HM2.out.1
                    · rw [show a = s by omega]; exact HM2.out.2.1
                  have HO3 := HO2
                  rw [← hz3] at HO3
                  have HT3 := Lib.hid HT2.out
                  clear hz3
                  have HL3 : Hid (z3.length = n) := by show _ = _; rw [HR3.out.len, HL2.out]
                  have HD3 := Lib.hid (HD2.out.perm HR3.out.perm)
                  have HQ1 : Hid (SrtI key z3 mid e) := SrtI.congr HM2.out.2.2.2.1 (fun i i1 i2 => HR3.out.out i (by omega))
                  have HQ2 : Hid (SrtI key z3 e b) := SrtI.congr HM2.out.2.2.2.2.1 (fun i i1 i2 => HR3.out.out i (by omega))
                  have HQ3 : Hid (ErlI z3 mid e b) := ErlI.congr HM2.out.2.2.2.2.2 (fun i i1 i2 => HR3.out.out i (by omega))
                  go_wp2_with fail
                  refine (IH.out z3 mid e b _ _ _ _ (by omega) rfl rfl rfl HL3.out HO3.out HD3.out (HC.out.tch HT3.out) (by omega) (by omega) (by omega) HQ1.out HQ2.out HQ3.out).mono ?_
                  rintro e1 w3 ⟨rfl, z4, g0, g1, g2, g3⟩
                  have HR4 := Lib.hid g0
                  have HS4 := Lib.hid g1
                  have HO4 := Lib.hid g2
                  have HT4 := Lib.hid (HT3.out.trans g3)
                  clear g0 g1 g2 g3
                  go_wp2_with fail
                  go_end0
                  obtain ⟨f1, f2⟩ := merge_join HS1.out HS2.out HE.out (show a ≤ s by omega) (show s ≤ m by omega) (show m ≤ e by omega) (show e ≤ b by omega) hmid (HA.out.imp id (fun h => h.imp id (fun g => by omega))) HB.out HR2.out HR3.out HS3.out HR4.out HS4.out
                  exact ⟨rfl, z4, f2, f1, HO4.out, HT4.out⟩
              ·
                try (exfalso; have := HLO2.out; have := HLO3.out; omega)
                all_goals
                  go_wp2_with fail
                  refine (rotate_at B n cap zs s m e _ _ _ _ _ HL.out hO2.out rfl rfl rfl (by omega) (by omega) (by omega) hn).mono ?_
                  rintro e1 w1 ⟨rfl, z2, g1, g2, g3⟩
                  have HR2 := Lib.hid g1
                  have HO2 := Lib.hid g2
                  have HT2 := Lib.hid (hT2.out.trans g3)
                  clear g1 g2 g3
                  have HM2 := Lib.hid (merge_halves HS1.out HS2.out HE.out (show a ≤ s by omega) (show s ≤ m by omega) (show m ≤ e by omega) (show e ≤ b by omega) hmid HR2.out)
                  have HL2 : Hid (z2.length = n) := by show _ = _; rw [HR2.out.len, HL.out]
                  have HD2 := Lib.hid (HD.out.perm HR2.out.perm)
                  obtain ⟨z3, hz3⟩ : ∃ z3, z3 = z2 := ⟨_, rfl⟩
                  have HR3 : Hid (Rea z2 z3 a mid) := by rw [hz3]; exact Rea.refl _ _ _
                  have HS3 : Hid (SrtI key z3 a mid) := by
                    rw [hz3]
                    by_cases hx : s = mid
                    · rw [← hx]; exact HM2.out.1
                    · rw [show a = s by omega]; exact HM2.out.2.1
                  have HO3 := HO2
                  rw [← hz3] at HO3
                  have HT3 := Lib.hid HT2.out
                  clear hz3
                  have HL3 : Hid (z3.length = n) := by show _ = _; rw [HR3.out.len, HL2.out]
                  have HD3 := Lib.hid (HD2.out.perm HR3.out.perm)
                  have HQ1 : Hid (SrtI key z3 mid e) := SrtI.congr HM2.out.2.2.2.1 (fun i i1 i2 => HR3.out.out i (by omega))
                  have HQ2 : Hid (SrtI key z3 e b) := SrtI.congr HM2.out.2.2.2.2.1 (fun i i1 i2 => HR3.out.out i (by omega))
                  have HQ3 : Hid (ErlI z3 mid e b) := ErlI.congr HM2.out.2.2.2.2.2 (fun i i1 i2 => HR3.out.out i (by omega))
                  obtain ⟨z4, hz4⟩ : ∃ z4, z4 = z3 := ⟨_, rfl⟩
                  have HR4 : Hid (Rea z3 z4 mid b) := by rw [hz4]; exact Rea.refl _ _ _
                  have HS4 : Hid (SrtI key z4 mid b) := by
                    rw [hz4]
                    by_cases hx : e = b
                    · rw [← hx]; exact HQ1.out
                    · rw [show mid = e by omega]; exact HQ2.out
                  have HO4 := HO3
                  rw [← hz4] at HO4
                  have HT4 := Lib.hid HT3.out
                  clear hz4
                  go_wp2_with fail
                  go_end0
                  obtain ⟨f1, f2⟩ := merge_join HS1.out HS2.out HE.out (show a ≤ s by omega) (show s ≤ m by omega) (show m ≤ e by omega) (show e ≤ b by omega) hmid (HA.out.imp id (fun h => h.imp id (fun g => by omega))) HB.out HR2.out HR3.out HS3.out HR4.out HS4.out
                  exact ⟨rfl, z4, f2, f1, HO4.out, HT4.out⟩
          · by_cases Z : e < b
            ·
              try (exfalso; have := HLO2.out; have := HLO3.out; omega)
              all_goals
                obtain ⟨z2, hz2⟩ : ∃ z2, z2 = zs := ⟨_, rfl⟩
                have HR2 : Hid (Rot zs z2 s m e) := by rw [hz2]; exact Rot.same zs (by omega)
                have HO2 : Hid (OwnI wr B z2) := by rw [hz2]; exact hO2.out
                have HT2 := Lib.hid hT2.out
                clear hz2
                have HM2 := Lib.hid (merge_halves HS1.out HS2.out HE.out (show a ≤ s by omega) (show s ≤ m by omega) (show m ≤ e by omega) (show e ≤ b by omega) hmid HR2.out)
                have HL2 : Hid (z2.length = n) := by show _ = _; rw [HR2.out.len, HL.out]
                have HD2 := Lib.hid (HD.out.perm HR2.out.perm)
                obtain ⟨z3, hz3⟩ : ∃ z3, z3 = z2 := ⟨_, rfl⟩
                have HR3 : Hid (Rea z2 z3 a mid) := by rw [hz3]; exact Rea.refl _ _ _
                have HS3 : Hid (SrtI key z3 a mid) := by
                  rw [hz3]
                  by_cases hx : s = mid
                  · rw [← hx]; exact HM2.out.1
                  · rw [show a = s by omega]; exact HM2.out.2.1
                have HO3 := HO2
                rw [← hz3] at HO3
                have HT3 := Lib.hid HT2.out
                clear hz3
                have HL3 : Hid (z3.length = n) := by show _ = _; rw [HR3.out.len, HL2.out]
                have HD3 := Lib.hid (HD2.out.perm HR3.out.perm)
                have HQ1 : Hid (SrtI key z3 mid e) := SrtI.congr HM2.out.2.2.2.1 (fun i i1 i2 => HR3.out.out i (by omega))
                have HQ2 : Hid (SrtI key z3 e b) := SrtI.congr HM2.out.2.2.2.2.1 (fun i i1 i2 => HR3.out.out i (by omega))
                have HQ3 : Hid (ErlI z3 mid e b) := ErlI.congr HM2.out.2.2.2.2.2 (fun i i1 i2 => HR3.out.out i (by omega))
                go_wp2_with fail
                refine (IH.out z3 mid e b _ _ _ _ (by omega) rfl rfl rfl HL3.out HO3.out HD3.out (HC.out.tch HT3.out) (by omega) (by omega) (by omega) HQ1.out HQ2.out HQ3.out).mono ?_
                rintro e1 w3 ⟨rfl, z4, g0, g1, g2, g3⟩
                have HR4 := Lib.hid g0
                have HS4 := Lib.hid g1
                have HO4 := Lib.hid g2
                have HT4 := Lib.hid (HT3.out.trans g3)
                clear g0 g1 g2 g3
                go_wp2_with fail
                go_end0
                obtain ⟨f1, f2⟩ := merge_join HS1.out HS2.out HE.out (show a ≤ s by omega) (show s ≤ m by omega) (show m ≤ e by omega) (show e ≤ b by omega) hmid (HA.out.imp id (fun h => h.imp id (fun g => by omega))) HB.out HR2.out HR3.out HS3.out HR4.out HS4.out
                exact ⟨rfl, z4, f2, f1, HO4.out, HT4.out⟩
            ·
              try (exfalso; have := HLO2.out; have := HLO3.out; omega)
              all_goals
                obtain ⟨z2, hz2⟩ : ∃ z2, z2 = zs := ⟨_, rfl⟩
                have HR2 : Hid (Rot zs z2 s m e) := by rw [hz2]; exact Rot.same zs (by omega)
                have HO2 : Hid (OwnI wr B z2) := by rw [hz2]; exact hO2.out
                have HT2 := Lib.hid hT2.out
                clear hz2
                have HM2 := Lib.hid (merge_halves HS1.out HS2.out HE.out (show a ≤ s by omega) (show s ≤ m by omega) (show m ≤ e by omega) (show e ≤ b by omega) hmid HR2.out)
                have HL2 : Hid (z2.length = n) := by show _ = _; rw [HR2.out.len, HL.out]
                have HD2 := Lib.hid (HD.out.perm HR2.out.perm)
                obtain ⟨z3, hz3⟩ : ∃ z3, z3 = z2 := ⟨_, rfl⟩
                have HR3 : Hid (Rea z2 z3 a mid) := by rw [hz3]; exact Rea.refl _ _ _
                have HS3 : Hid (SrtI key z3 a mid) := by
                  rw [hz3]
                  by_cases hx : s = mid
                  · rw [← hx]; exact HM2.out.1
                  · rw [show a = s by omega]; exact HM2.out.2.1
                have HO3 := HO2
                rw [← hz3] at HO3
                have HT3 := Lib.hid HT2.out
                clear hz3
                have HL3 : Hid (z3.length = n) := by show _ = _; rw [HR3.out.len, HL2.out]
                have HD3 := Lib.hid (HD2.out.perm HR3.out.perm)
                have HQ1 : Hid (SrtI key z3 mid e) := SrtI.congr HM2.out.2.2.2.1 (fun i i1 i2 => HR3.out.out i (by omega))
                have HQ2 : Hid (SrtI key z3 e b) := SrtI.congr HM2.out.2.2.2.2.1 (fun i i1 i2 => HR3.out.out i (by omega))
                have HQ3 : Hid (ErlI z3 mid e b) := ErlI.congr HM2.out.2.2.2.2.2 (fun i i1 i2 => HR3.out.out i (by omega))
                obtain ⟨z4, hz4⟩ : ∃ z4, z4 = z3 := ⟨_, rfl⟩
                have HR4 : Hid (Rea z3 z4 mid b) := by rw [hz4]; exact Rea.refl _ _ _
                have HS4 : Hid (SrtI key z4 mid b) := by
                  rw [hz4]
                  by_cases hx : e = b
                  · rw [← hx]; exact HQ1.out
                  · rw [show mid = e by omega]; exact HQ2.out
                have HO4 := HO3
                rw [← hz4] at HO4
                have HT4 := Lib.hid HT3.out
                clear hz4
                go_wp2_with fail
                go_end0
                obtain ⟨f1, f2⟩ := merge_join HS1.out HS2.out HE.out (show a ≤ s by omega) (show s ≤ m by omega) (show m ≤ e by omega) (show e ≤ b by omega) hmid (HA.out.imp id (fun h => h.imp id (fun g => by omega))) HB.out HR2.out HR3.out HS3.out HR4.out HS4.out
                exact ⟨rfl, z4, f2, f1, HO4.out, HT4.out⟩
        · by_cases R : s < mid
          ·
            try (exfalso; have := HLO2.out; have := HLO3.out; omega)
            all_goals
              obtain ⟨z2, hz2⟩ : ∃ z2, z2 = zs := ⟨_, rfl⟩
              have HR2 : Hid (Rot zs z2 s m e) := by rw [hz2]; exact Rot.same zs (by omega)
              have HO2 : Hid (OwnI wr B z2) := by rw [hz2]; exact hO2.out
              have HT2 := Lib.hid hT2.out
              clear hz2
              have HM2 := Lib.hid (merge_halves HS1.out HS2.out HE.out (show a ≤ s by omega) (show s ≤ m by omega) (show m ≤ e by omega) (show e ≤ b by omega) hmid HR2.out)
              have HL2 : Hid (z2.length = n) := by show _ = _; rw [HR2.out.len, HL.out]
              have HD2 := Lib.hid (HD.out.perm HR2.out.perm)
              go_wp2_with fail
              refine (IH.out z2 a s mid _ _ _ _ (by omega) rfl rfl rfl HL2.out HO2.out HD2.out (HC.out.tch HT2.out) (by omega) (by omega) (by omega) HM2.out.1 HM2.out.2.1 HM2.out.2.2.1).mono ?_
              rintro e1 w2 ⟨rfl, z3, g0, g1, g2, g3⟩
              have HR3 := Lib.hid g0
              have HS3 := Lib.hid g1
              have HO3 := Lib.hid g2
              have HT3 := Lib.hid (HT2.out.trans g3)
              clear g0 g1 g2 g3
              have HL3 : Hid (z3.length = n) := by show _ = _; rw [HR3.out.len, HL2.out]
              have HD3 := Lib.hid (HD2.out.perm HR3.out.perm)
              have HQ1 : Hid (SrtI key z3 mid e) := SrtI.congr HM2.out.2.2.2.1 (fun i i1 i2 => HR3.out.out i (by omega))
              have HQ2 : Hid (SrtI key z3 e b) := SrtI.congr HM2.out.2.2.2.2.1 (fun i i1 i2 => HR3.out.out i (by omega))
              have HQ3 : Hid (ErlI z3 mid e b) := ErlI.congr HM2.out.2.2.2.2.2 (fun i i1 i2 => HR3.out.out i (by omega))
              obtain ⟨z4, hz4⟩ : ∃ z4, z4 = z3 := ⟨_, rfl⟩
              have HR4 : Hid (Rea z3 z4 mid b) := by rw [hz4]; exact Rea.refl _ _ _
              have HS4 : Hid (SrtI key z4 mid b) := by
                rw [hz4]
                by_cases hx : e = b
                · rw [← hx]; exact HQ1.out
                · rw [show mid = e by omega]; exact HQ2.out
              have HO4 := HO3
              rw [← hz4] at HO4
              have HT4 := Lib.hid HT3.out
              clear hz4
              go_wp2_with fail
              go_end0
              obtain ⟨f1, f2⟩ := merge_join HS1.out HS2.out HE.out (show a ≤ s by omega) (show s ≤ m by omega) (show m ≤ e by omega) (show e ≤ b by omega) hmid (HA.out.imp id (fun h => h.imp id (fun g => by omega))) HB.out HR2.out HR3.out HS3.out HR4.out HS4.out
              exact ⟨rfl, z4, f2, f1, HO4.out, HT4.out⟩
          ·
            try (exfalso; have := HLO2.out; have := HLO3.out; omega)
            all_goals
              obtain ⟨z2, hz2⟩ : ∃ z2, z2 = zs := ⟨_, rfl⟩
              have HR2 : Hid (Rot zs z2 s m e) := by rw [hz2]; exact Rot.same zs (by omega)
              have HO2 : Hid (OwnI wr B z2) := by rw [hz2]; exact hO2.out
              have HT2 := Lib.hid hT2.out
              clear hz2
              have HM2 := Lib.hid (merge_halves HS1.out HS2.out HE.out (show a ≤ s by omega) (show s ≤ m by omega) (show m ≤ e by omega) (show e ≤ b by omega) hmid HR2.out)
              have HL2 : Hid (z2.length = n) := by show _ = _; rw [HR2.out.len, HL.out]
              have HD2 := Lib.hid (HD.out.perm HR2.out.perm)
              obtain ⟨z3, hz3⟩ : ∃ z3, z3 = z2 := ⟨_, rfl⟩
              have HR3 : Hid (Rea z2 z3 a mid) := by rw [hz3]; exact Rea.refl _ _ _
              have HS3 : Hid (SrtI key z3 a mid) := by
                rw [hz3]
                by_cases hx : s = mid
                · rw [← hx]; exact HM2.out.1
                · rw [show a = s by omega]; exact HM2.out.2.1
              have HO3 := HO2
              rw [← hz3] at HO3
              have HT3 := Lib.hid HT2.out
              clear hz3
              have HL3 : Hid (z3.length = n) := by show _ = _; rw [HR3.out.len, HL2.out]
              have HD3 := Lib.hid (HD2.out.perm HR3.out.perm)
              have HQ1 : Hid (SrtI key z3 mid e) := SrtI.congr HM2.out.2.2.2.1 (fun i i1 i2 => HR3.out.out i (by omega))
              have HQ2 : Hid (SrtI key z3 e b) := SrtI.congr HM2.out.2.2.2.2.1 (fun i i1 i2 => HR3.out.out i (by omega))
              have HQ3 : Hid (ErlI z3 mid e b) := ErlI.congr HM2.out.2.2.2.2.2 (fun i i1 i2 => HR3.out.out i (by omega))
              obtain ⟨z4, hz4⟩ : ∃ z4, z4 = z3 := ⟨_, rfl⟩
              have HR4 : Hid (Rea z3 z4 mid b) := by rw [hz4]; exact Rea.refl _ _ _
              have HS4 : Hid (SrtI key z4 mid b) := by
                rw [hz4]
                by_cases hx : e = b
                · rw [← hx]; exact HQ1.out
                · rw [show mid = e by omega]; exact HQ2.out
              have HO4 := HO3
              rw [← hz4] at HO4
              have HT4 := Lib.hid HT3.out
              clear hz4
              go_wp2_with fail
              go_end0
              obtain ⟨f1, f2⟩ := merge_join HS1.out HS2.out HE.out (show a ≤ s by omega) (show s ≤ m by omega) (show m ≤ e by omega) (show e ≤ b by omega) hmid (HA.out.imp id (fun h => h.imp id (fun g => by omega))) HB.out HR2.out HR3.out HS3.out HR4.out HS4.out
              exact ⟨rfl, z4, f2, f1, HO4.out, HT4.out⟩
  · go_enter Try.func44, Try.ntmps44
    have HLO2 := Lib.hid hlo2
    have HLO3 := Lib.hid hlo3
    clear hlo2 hlo3
    go_wp2_with fail
    go_loopw [20, 21] (fun u v wr => ∃ s r : Nat, lo ≤ s ∧ s ≤ r ∧ r ≤ hi ∧ u = .int .i64 s ∧ v = .int .i64 r ∧ Hid (s = lo ∨ key (zs.getD (s - 1) 0) ≤ key (zs.getD (mid + m - s) 0)) ∧ Hid (r = hi ∨ key (zs.getD (mid + m - 1 - r) 0) < key (zs.getD r 0)) ∧ Hid (OwnI wr B zs) ∧ Hid (Tch B w wr)) (fun u v _ => (intOf v).toNat - (intOf u).toNat)
    case atStart => exact ⟨lo, hi, Nat.le_refl _, by omega, Nat.le_refl _, by have := HLO2.out; first | go_num | (rw [this]), by rw [HLO3.out], Or.inl rfl, Or.inl rfl, HO.out, Tch.refl _ _⟩
    case round =>
      obtain ⟨s, r, hs, hsr, hr, rfl, rfl, hc1, hc2, hO2, hT2⟩ := hrel
      by_cases hlt : s < r
      · obtain ⟨c, hh⟩ : ∃ c, (s + r) / 2 = c := ⟨_, rfl⟩
        have e2 : ((s : Int) + (r : Int)) / 2 = (c : Int) := by omega
        have hi1 : s ≤ c := by omega
        have hj1 : c < r := by omega
        have HH := Lib.hid hh
        clear hh
        obtain ⟨q, hq⟩ : ∃ q, mid + m - 1 - c = q := ⟨_, rfl⟩
        have e3 : (mid : Int) + (m : Int) - 1 - (c : Int) = (q : Int) := by omega
        have hq1 : m ≤ q := by omega
        have hq2 : q < b := by omega
        have c1 := hO2.out.cell (i := q) (by have := HL.out; omega)
        have c2 := hO2.out.cell (i := c) (by have := HL.out; omega)
        have d1 := HD.out q (by have := HL.out; omega)
        have d2 := HD.out c (by have := HL.out; omega)
        obtain ⟨x, hx⟩ : ∃ x, zs.getD q 0 = x := ⟨_, rfl⟩
        obtain ⟨y, hy⟩ : ∃ y, zs.getD c 0 = y := ⟨_, rfl⟩
        rw [hx] at c1 d1
        rw [hy] at c2 d2
        have HX := Lib.hid hx
        have HY := Lib.hid hy
        have HQ := Lib.hid hq
        obtain ⟨d11, d12⟩ := d1
        obtain ⟨d21, d22⟩ := d2
        have hC' := Lib.hid (HC.out.tch hT2.out)
        have b0 : (0 : Int) ≤ (c : Int) := by omega
        have b1 : (c : Int) < (n : Int) := by omega
        have b2 : (0 : Int) ≤ (q : Int) := by omega
        have b3 : (q : Int) < (n : Int) := by omega
        clear hx hy hq
        go_wp2_with fail
        by_cases hc : key x < key y
        · have hcn : cmpI (key x) (key y) < 0 := cmpI_neg.2 hc
          go_quiet ((go_at_call 35; exact Calls.quiet_of (hC'.out.at _ x y d11 d12 d21 d22)))
          go_wp2_with fail
          go_roundw
          case rel => exact ⟨s, c, by omega, by omega, by omega, rfl, rfl, hc1, Or.inr (by rw [HQ.out, HX.out, HY.out]; omega), hO2.out.drewN _, hT2.out.drewN _⟩
          case measure => simp [intOf]; omega
        · have hcn : ¬ cmpI (key x) (key y) < 0 := fun h => hc (cmpI_neg.1 h)
          go_quiet ((go_at_call 35; exact Calls.quiet_of (hC'.out.at _ x y d11 d12 d21 d22)))
          go_wp2_with fail
          go_roundw
          case rel => exact ⟨c + 1, r, by omega, by omega, by omega, by go_num, rfl, Or.inr (by rw [show c + 1 - 1 = c by omega, show mid + m - (c + 1) = mid + m - 1 - c by omega, HQ.out, HX.out, HY.out]; omega), hc2, hO2.out.drewN _, hT2.out.drewN _⟩
          case measure => simp [intOf]; omega
      · obtain rfl : s = r := by omega
        obtain ⟨e, he⟩ : ∃ e, mid + m - s = e := ⟨_, rfl⟩
        have e2 : (mid : Int) + (m : Int) - (s : Int) = (e : Int) := by omega
        have hmid : mid + m = s + e := by omega
        have HA : Hid (s = a ∨ e = b ∨ key (zs.getD (s - 1) 0) ≤ key (zs.getD e 0)) := by
          rcases hc1.out with h | h
          · rcases HLO.out.2.2.2.2.2.1 with g | g
            · exact Or.inl (by omega)
            · exact Or.inr (Or.inl (by omega))
          · rw [he] at h; exact Or.inr (Or.inr h)
        have HB : Hid (s = m ∨ e = m ∨ key (zs.getD (e - 1) 0) < key (zs.getD s 0)) := by
          rcases hc2.out with h | h
          · rcases HLO.out.2.2.2.2.2.2 with g | g
            · exact Or.inl (by omega)
            · exact Or.inr (Or.inl (by omega))
          · rw [show mid + m - 1 - s = e - 1 by omega] at h; exact Or.inr (Or.inr h)
        clear hc1 hc2
        have HMID := Lib.hid hmid
        have he1 : m ≤ e := by omega
        have he2 : e ≤ b := by omega
        clear he
        by_cases P : s < m
        · by_cases R : s < mid
          · by_cases A : a < s
            · by_cases Z : e < b
              ·
                try (exfalso; have := HLO2.out; have := HLO3.out; omega)
                all_goals
                  go_wp2_with fail
                  refine (rotate_at B n cap zs s m e _ _ _ _ _ HL.out hO2.out rfl rfl rfl (by omega) (by omega) (by omega) hn).mono ?_
                  rintro e1 w1 ⟨rfl, z2, g1, g2, g3⟩
                  have HR2 := Lib.hid g1
                  have HO2 := Lib.hid g2
                  have HT2 := Lib.hid (hT2.out.trans g3)
                  clear g1 g2 g3
                  have HM2 := Lib.hid (merge_halves HS1.out HS2.out HE.out (show a ≤ s by omega) (show s ≤ m by omega) (show m ≤ e by omega) (show e ≤ b by omega) hmid HR2.out)
                  have HL2 : Hid (z2.length = n) := by show _ = _; rw [HR2.out.len, HL.out]
                  have HD2 := Lib.hid (HD.out.perm HR2.out.perm)
                  go_wp2_with fail
                  refine (IH.out z2 a s mid _ _ _ _ (by omega) rfl rfl rfl HL2.out HO2.out HD2.out (HC.out.tch HT2.out) (by omega) (by omega) (by omega) HM2.out.1 HM2.out.2.1 HM2.out.2.2.1).mono ?_
                  rintro e1 w2 ⟨rfl, z3, g0, g1, g2, g3⟩
                  have HR3 := Lib.hid g0
                  have HS3 := Lib.hid g1
                  have HO3 := Lib.hid g2
                  have HT3 := Lib.hid (HT2.out.trans g3)
                  clear g0 g1 g2 g3
                  have HL3 : Hid (z3.length = n) := by show _ = _; rw [HR3.out.len, HL2.out]
                  have HD3 := Lib.hid (HD2.out.perm HR3.out.perm)
                  have HQ1 : Hid (SrtI key z3 mid e) := SrtI.congr HM2.out.2.2.2.1 (fun i i1 i2 => HR3.out.out i (by omega))
                  have HQ2 : Hid (SrtI key z3 e b) := SrtI.congr HM2.out.2.2.2.2.1 (fun i i1 i2 => HR3.out.out i (by omega))
                  have HQ3 : Hid (ErlI z3 mid e b) := ErlI.congr HM2.out.2.2.2.2.2 (fun i i1 i2 => HR3.out.out i (by omega))
                  go_wp2_with fail
                  refine (IH.out z3 mid e b _ _ _ _ (by omega) rfl rfl rfl HL3.out HO3.out HD3.out (HC.out.tch HT3.out) (by omega) (by omega) (by omega) HQ1.out HQ2.out HQ3.out).mono ?_
                  rintro e1 w3 ⟨rfl, z4, g0, g1, g2, g3⟩
                  have HR4 := Lib.hid g0
                  have HS4 := Lib.hid g1
                  have HO4 := Lib.hid g2
                  have HT4 := Lib.hid (HT3.out.trans g3)
                  clear g0 g1 g2 g3
                  go_wp2_with fail
                  go_end0
                  obtain ⟨f1, f2⟩ := merge_join HS1.out HS2.out HE.out (show a ≤ s by omega) (show s ≤ m by omega) (show m ≤ e by omega) (show e ≤ b by omega) hmid (HA.out.imp id (fun h => h.imp id (fun g => by omega))) HB.out HR2.out HR3.out HS3.out HR4.out HS4.out
                  exact ⟨rfl, z4, f2, f1, HO4.out, HT4.out⟩
              ·
                try (exfalso; have := HLO2.out; have := HLO3.out; omega)
                all_goals
                  go_wp2_with fail
                  refine (rotate_at B n cap zs s m e _ _ _ _ _ HL.out hO2.out rfl rfl rfl (by omega) (by omega) (by omega) hn).mono ?_
                  rintro e1 w1 ⟨rfl, z2, g1, g2, g3⟩
                  have HR2 := Lib.hid g1
                  have HO2 := Lib.hid g2
                  have HT2 := Lib.hid (hT2.out.trans g3)
                  clear g1 g2 g3
                  have HM2 := Lib.hid (merge_halves HS1.out HS2.out HE.out (show a ≤ s by omega) (show s ≤ m by omega) (show m ≤ e by omega) (show e ≤ b by omega) hmid HR2.out)
                  have HL2 : Hid (z2.length = n) := by show _ = _; rw [HR2.out.len, HL.out]
                  have HD2 := Lib.hid (HD.out.perm HR2.out.perm)
                  go_wp2_with fail
                  refine (IH.out z2 a s mid _ _ _ _ (by omega) rfl rfl rfl HL2.out HO2.out HD2.out (HC.out.tch HT2.out) (by omega) (by omega) (by omega) HM2.out.1 HM2.out.2.1 HM2.out.2.2.1).mono ?_
                  rintro e1 w2 ⟨rfl, z3, g0, g1, g2, g3⟩
                  have HR3 := Lib.hid g0
                  have HS3 := Lib.hid g1
                  have HO3 := Lib.hid g2
                  have HT3 := Lib.hid (HT2.out.trans g3)
                  clear g0 g1 g2 g3
                  have HL3 : Hid (z3.length = n) := by show _ = _; rw [HR3.out.len, HL2.out]
                  have HD3 := Lib.hid (HD2.out.perm HR3.out.perm)
                  have HQ1 : Hid (SrtI key z3 mid e) := SrtI.congr HM2.out.2.2.2.1 (fun i i1 i2 => HR3.out.out i (by omega))
                  have HQ2 : Hid (SrtI key z3 e b) := SrtI.congr HM2.out.2.2.2.2.1 (fun i i1 i2 => HR3.out.out i (by omega))
                  have HQ3 : Hid (ErlI z3 mid e b) := ErlI.congr HM2.out.2.2.2.2.2 (fun i i1 i2 => HR3.out.out i (by omega))
                  obtain ⟨z4, hz4⟩ : ∃ z4, z4 = z3 := ⟨_, rfl⟩
                  have HR4 : Hid (Rea z3 z4 mid b) := by rw [hz4]; exact Rea.refl _ _ _
                  have HS4 : Hid (SrtI key z4 mid b) := by
                    rw [hz4]
                    by_cases hx : e = b
                    · rw [← hx]; exact HQ1.out
                    · rw [show mid = e by omega]; exact HQ2.out
                  have HO4 := HO3
                  rw [← hz4] at HO4
                  have HT4 := Lib.hid HT3.out
                  clear hz4
                  go_wp2_with fail
                  go_end0
                  obtain ⟨f1, f2⟩ := merge_join HS1.out HS2.out HE.out (show a ≤ s by omega) (show s ≤ m by omega) (show m ≤ e by omega) (show e ≤ b by omega) hmid (HA.out.imp id (fun h => h.imp id (fun g => by omega))) HB.out HR2.out HR3.out HS3.out HR4.out HS4.out
                  exact ⟨rfl, z4, f2, f1, HO4.out, HT4.out⟩
            · by_cases Z : e < b
              ·
                try (exfalso; have := HLO2.out; have := HLO3.out; omega)
                all_goals
                  go_wp2_with fail
                  refine (rotate_at B n cap zs s m e _ _ _ _ _ HL.out hO2.out rfl rfl rfl (by omega) (by omega) (by omega) hn).mono ?_
                  rintro e1 w1 ⟨rfl, z2, g1, g2, g3⟩
                  have HR2 := Lib.hid g1
                  have HO2 := Lib.hid g2
                  have HT2 := Lib.hid (hT2.out.trans g3)
                  clear g1 g2 g3
                  have HM2 := Lib.hid (merge_halves HS1.out HS2.out HE.out (show a ≤ s by omega) (show s ≤ m by omega) (show m ≤ e by omega) (show e ≤ b by omega) hmid HR2.out)
                  have HL2 : Hid (z2.length = n) := by show _ = _; rw [HR2.out.len, HL.out]
                  have HD2 := Lib.hid (HD.out.perm HR2.out.perm)
                  obtain ⟨z3, hz3⟩ : ∃ z3, z3 = z2 := ⟨_, rfl⟩
                  have HR3 : Hid (Rea z2 z3 a mid) := by rw [hz3]; exact Rea.refl _ _ _
                  have HS3 : Hid (SrtI key z3 a mid) := by
                    rw [hz3]
                    by_cases hx : s = mid
                    · rw [← hx]; exact HM2.out.1
                    · rw [show a = s by omega]; exact HM2.out.2.1
                  have HO3 := HO2
                  rw [← hz3] at HO3
                  have HT3 := Lib.hid HT2.out
                  clear hz3
                  have HL3 : Hid (z3.length = n) := by show _ = _; rw [HR3.out.len, HL2.out]
                  have HD3 := Lib.hid (HD2.out.perm HR3.out.perm)
                  have HQ1 : Hid (SrtI key z3 mid e) := SrtI.congr HM2.out.2.2.2.1 (fun i i1 i2 => HR3.out.out i (by omega))
                  have HQ2 : Hid (SrtI key z3 e b) := SrtI.congr HM2.out.2.2.2.2.1 (fun i i1 i2 => HR3.out.out i (by omega))
                  have HQ3 : Hid (ErlI z3 mid e b) := ErlI.congr HM2.out.2.2.2.2.2 (fun i i1 i2 => HR3.out.out i (by omega))
                  go_wp2_with fail
                  refine (IH.out z3 mid e b _ _ _ _ (by omega) rfl rfl rfl HL3.out HO3.out HD3.out (HC.out.tch HT3.out) (by omega) (by omega) (by omega) HQ1.out HQ2.out HQ3.out).mono ?_
                  rintro e1 w3 ⟨rfl, z4, g0, g1, g2, g3⟩
                  have HR4 := Lib.hid g0
                  have HS4 := Lib.hid g1
                  have HO4 := Lib.hid g2
                  have HT4 := Lib.hid (HT3.out.trans g3)
                  clear g0 g1 g2 g3
                  go_wp2_with fail
                  go_end0
                  obtain ⟨f1, f2⟩ := merge_join HS1.out HS2.out HE.out (show a ≤ s by omega) (show s ≤ m by omega) (show m ≤ e by omega) (show e ≤ b by omega) hmid (HA.out.imp id (fun h => h.imp id (fun g => by omega))) HB.out HR2.out HR3.out HS3.out HR4.out HS4.out
                  exact ⟨rfl, z4, f2, f1, HO4.out, HT4.out⟩
              ·
                try (exfalso; have := HLO2.out; have := HLO3.out; omega)
                all_goals
                  go_wp2_with fail
                  refine (rotate_at B n cap zs s m e _ _ _ _ _ HL.out hO2.out rfl rfl rfl (by omega) (by omega) (by omega) hn).mono ?_
                  rintro e1 w1 ⟨rfl, z2, g1, g2, g3⟩
                  have HR2 := Lib.hid g1
                  have HO2 := Lib.hid g2
                  have HT2 := Lib.hid (hT2.out.trans g3)
                  clear g1 g2 g3
                  have HM2 := Lib.hid (merge_halves HS1.out HS2.out HE.out (show a ≤ s by omega) (show s ≤ m by omega) (show m ≤ e by omega) (show e ≤ b by omega) hmid HR2.out)
                  have HL2 : Hid (z2.length = n) := by show _ = _; rw [HR2.out.len, HL.out]
                  have HD2 := Lib.hid (HD.out.perm HR2.out.perm)
                  obtain ⟨z3, hz3⟩ : ∃ z3, z3 = z2 := ⟨_, rfl⟩
                  have HR3 : Hid (Rea z2 z3 a mid) := by rw [hz3]; exact Rea.refl _ _ _
                  have HS3 : Hid (SrtI key z3 a mid) := by
                    rw [hz3]
                    by_cases hx : s = mid
                    · rw [← hx]; exact HM2.out.1
                    · rw [show a = s by omega]; exact HM2.out.2.1
                  have HO3 := HO2
                  rw [← hz3] at HO3
                  have HT3 := Lib.hid HT2.out
                  clear hz3
                  have HL3 : Hid (z3.length = n) := by show _ = _; rw [HR3.out.len, HL2.out]
                  have HD3 := Lib.hid (HD2.out.perm HR3.out.perm)
                  have HQ1 : Hid (SrtI key z3 mid e) := SrtI.congr HM2.out.2.2.2.1 (fun i i1 i2 => HR3.out.out i (by omega))
                  have HQ2 : Hid (SrtI key z3 e b) := SrtI.congr HM2.out.2.2.2.2.1 (fun i i1 i2 => HR3.out.out i (by omega))
                  have HQ3 : Hid (ErlI z3 mid e b) := ErlI.congr HM2.out.2.2.2.2.2 (fun i i1 i2 => HR3.out.out i (by omega))
                  obtain ⟨z4, hz4⟩ : ∃ z4, z4 = z3 := ⟨_, rfl⟩
                  have HR4 : Hid (Rea z3 z4 mid b) := by rw [hz4]; exact Rea.refl _ _ _
                  have HS4 : Hid (SrtI key z4 mid b) := by
                    rw [hz4]
                    by_cases hx : e = b
                    · rw [← hx]; exact HQ1.out
                    · rw [show mid = e by omega]; exact HQ2.out
                  have HO4 := HO3
                  rw [← hz4] at HO4
                  have HT4 := Lib.hid HT3.out
                  clear hz4
                  go_wp2_with fail
                  go_end0
                  obtain ⟨f1, f2⟩ := merge_join HS1.out HS2.out HE.out (show a ≤ s by omega) (show s ≤ m by omega) (show m ≤ e by omega) (show e ≤ b by omega) hmid (HA.out.imp id (fun h => h.imp id (fun g => by omega))) HB.out HR2.out HR3.out HS3.out HR4.out HS4.out
                  exact ⟨rfl, z4, f2, f1, HO4.out, HT4.out⟩
          · by_cases Z : e < b
            ·
              try (exfalso; have := HLO2.out; have := HLO3.out; omega)
              all_goals
                obtain ⟨z2, hz2⟩ : ∃ z2, z2 = zs := ⟨_, rfl⟩
                have HR2 : Hid (Rot zs z2 s m e) := by rw [hz2]; exact Rot.same zs (by omega)
                have HO2 : Hid (OwnI wr B z2) := by rw [hz2]; exact hO2.out
                have HT2 := Lib.hid hT2.out
                clear hz2
                have HM2 := Lib.hid (merge_halves HS1.out HS2.out HE.out (show a ≤ s by omega) (show s ≤ m by omega) (show m ≤ e by omega) (show e ≤ b by omega) hmid HR2.out)
                have HL2 : Hid (z2.length = n) := by show _ = _; rw [HR2.out.len, HL.out]
                have HD2 := Lib.hid (HD.out.perm HR2.out.perm)
                obtain ⟨z3, hz3⟩ : ∃ z3, z3 = z2 := ⟨_, rfl⟩
                have HR3 : Hid (Rea z2 z3 a mid) := by rw [hz3]; exact Rea.refl _ _ _
                have HS3 : Hid (SrtI key z3 a mid) := by
                  rw [hz3]
                  by_cases hx : s = mid
                  · rw [← hx]; exact HM2.out.1
                  · rw [show a = s by omega]; exact HM2.out.2.1
                have HO3 := HO2
                rw [← hz3] at HO3
                have HT3 := Lib.hid HT2.out
                clear hz3
                have HL3 : Hid (z3.length = n) := by show _ = _; rw [HR3.out.len, HL2.out]
                have HD3 := Lib.hid (HD2.out.perm HR3.out.perm)
                have HQ1 : Hid (SrtI key z3 mid e) := SrtI.congr HM2.out.2.2.2.1 (fun i i1 i2 => HR3.out.out i (by omega))
                have HQ2 : Hid (SrtI key z3 e b) := SrtI.congr HM2.out.2.2.2.2.1 (fun i i1 i2 => HR3.out.out i (by omega))
                have HQ3 : Hid (ErlI z3 mid e b) := ErlI.congr HM2.out.2.2.2.2.2 (fun i i1 i2 => HR3.out.out i (by omega))
                go_wp2_with fail
                refine (IH.out z3 mid e b _ _ _ _ (by omega) rfl rfl rfl HL3.out HO3.out HD3.out (HC.out.tch HT3.out) (by omega) (by omega) (by omega) HQ1.out HQ2.out HQ3.out).mono ?_
                rintro e1 w3 ⟨rfl, z4, g0, g1, g2, g3⟩
                have HR4 := Lib.hid g0
                have HS4 := Lib.hid g1
                have HO4 := Lib.hid g2
                have HT4 := Lib.hid (HT3.out.trans g3)
                clear g0 g1 g2 g3
                go_wp2_with fail
                go_end0
                obtain ⟨f1, f2⟩ := merge_join HS1.out HS2.out HE.out (show a ≤ s by omega) (show s ≤ m by omega) (show m ≤ e by omega) (show e ≤ b by omega) hmid (HA.out.imp id (fun h => h.imp id (fun g => by omega))) HB.out HR2.out HR3.out HS3.out HR4.out HS4.out
                exact ⟨rfl, z4, f2, f1, HO4.out, HT4.out⟩
            ·
              try (exfalso; have := HLO2.out; have := HLO3.out; omega)
              all_goals
                obtain ⟨z2, hz2⟩ : ∃ z2, z2 = zs := ⟨_, rfl⟩
                have HR2 : Hid (Rot zs z2 s m e) := by rw [hz2]; exact Rot.same zs (by omega)
                have HO2 : Hid (OwnI wr B z2) := by rw [hz2]; exact hO2.out
                have HT2 := Lib.hid hT2.out
                clear hz2
                have HM2 := Lib.hid (merge_halves HS1.out HS2.out HE.out (show a ≤ s by omega) (show s ≤ m by omega) (show m ≤ e by omega) (show e ≤ b by omega) hmid HR2.out)
                have HL2 : Hid (z2.length = n) := by show _ = _; rw [HR2.out.len, HL.out]
                have HD2 := Lib.hid (HD.out.perm HR2.out.perm)
                obtain ⟨z3, hz3⟩ : ∃ z3, z3 = z2 := ⟨_, rfl⟩
                have HR3 : Hid (Rea z2 z3 a mid) := by rw [hz3]; exact Rea.refl _ _ _
                have HS3 : Hid (SrtI key z3 a mid) := by
                  rw [hz3]
                  by_cases hx : s = mid
                  · rw [← hx]; exact HM2.out.1
                  · rw [show a = s by omega]; exact HM2.out.2.1
                have HO3 := HO2
                rw [← hz3] at HO3
                have HT3 := Lib.hid HT2.out
                clear hz3
                have HL3 : Hid (z3.length = n) := by show _ = _; rw [HR3.out.len, HL2.out]
                have HD3 := Lib.hid (HD2.out.perm HR3.out.perm)
                have HQ1 : Hid (SrtI key z3 mid e) := SrtI.congr HM2.out.2.2.2.1 (fun i i1 i2 => HR3.out.out i (by omega))
                have HQ2 : Hid (SrtI key z3 e b) := SrtI.congr HM2.out.2.2.2.2.1 (fun i i1 i2 => HR3.out.out i (by omega))
                have HQ3 : Hid (ErlI z3 mid e b) := ErlI.congr HM2.out.2.2.2.2.2 (fun i i1 i2 => HR3.out.out i (by omega))
                obtain ⟨z4, hz4⟩ : ∃ z4, z4 = z3 := ⟨_, rfl⟩
                have HR4 : Hid (Rea z3 z4 mid b) := by rw [hz4]; exact Rea.refl _ _ _
                have HS4 : Hid (SrtI key z4 mid b) := by
                  rw [hz4]
                  by_cases hx : e = b
                  · rw [← hx]; exact HQ1.out
                  · rw [show mid = e by omega]; exact HQ2.out
                have HO4 := HO3
                rw [← hz4] at HO4
                have HT4 := Lib.hid HT3.out
                clear hz4
                go_wp2_with fail
                go_end0
                obtain ⟨f1, f2⟩ := merge_join HS1.out HS2.out HE.out (show a ≤ s by omega) (show s ≤ m by omega) (show m ≤ e by omega) (show e ≤ b by omega) hmid (HA.out.imp id (fun h => h.imp id (fun g => by omega))) HB.out HR2.out HR3.out HS3.out HR4.out HS4.out
                exact ⟨rfl, z4, f2, f1, HO4.out, HT4.out⟩
        · by_cases R : s < mid
          ·
            try (exfalso; have := HLO2.out; have := HLO3.out; omega)
            all_goals
              obtain ⟨z2, hz2⟩ : ∃ z2, z2 = zs := ⟨_, rfl⟩
              have HR2 : Hid (Rot zs z2 s m e) := by rw [hz2]; exact Rot.same zs (by omega)
              have HO2 : Hid (OwnI wr B z2) := by rw [hz2]; exact hO2.out
              have HT2 := Lib.hid hT2.out
              clear hz2
              have HM2 := Lib.hid (merge_halves HS1.out HS2.out HE.out (show a ≤ s by omega) (show s ≤ m by omega) (show m ≤ e by omega) (show e ≤ b by omega) hmid HR2.out)
              have HL2 : Hid (z2.length = n) := by show _ = _; rw [HR2.out.len, HL.out]
              have HD2 := Lib.hid (HD.out.perm HR2.out.perm)
              go_wp2_with fail
              refine (IH.out z2 a s mid _ _ _ _ (by omega) rfl rfl rfl HL2.out HO2.out HD2.out (HC.out.tch HT2.out) (by omega) (by omega) (by omega) HM2.out.1 HM2.out.2.1 HM2.out.2.2.1).mono ?_
              rintro e1 w2 ⟨rfl, z3, g0, g1, g2, g3⟩
              have HR3 := Lib.hid g0
              have HS3 := Lib.hid g1
              have HO3 := Lib.hid g2
              have HT3 := Lib.hid (HT2.out.trans g3)
              clear g0 g1 g2 g3
              have HL3 : Hid (z3.length = n) := by show _ = _; rw [HR3.out.len, HL2.out]
              have HD3 := Lib.hid (HD2.out.perm HR3.out.perm)
              have HQ1 : Hid (SrtI key z3 mid e) := SrtI.congr HM2.out.2.2.2.1 (fun i i1 i2 => HR3.out.out i (by omega))
              have HQ2 : Hid (SrtI key z3 e b) := SrtI.congr HM2.out.2.2.2.2.1 (fun i i1 i2 => HR3.out.out i (by omega))
              have HQ3 : Hid (ErlI z3 mid e b) := ErlI.congr HM2.out.2.2.2.2.2 (fun i i1 i2 => HR3.out.out i (by omega))
              obtain ⟨z4, hz4⟩ : ∃ z4, z4 = z3 := ⟨_, rfl⟩
              have HR4 : Hid (Rea z3 z4 mid b) := by rw [hz4]; exact Rea.refl _ _ _
              have HS4 : Hid (SrtI key z4 mid b) := by
                rw [hz4]
                by_cases hx : e = b
                · rw [← hx]; exact HQ1.out
                · rw [show mid = e by omega]; exact HQ2.out
              have HO4 := HO3
              rw [← hz4] at HO4
              have HT4 := Lib.hid HT3.out
              clear hz4
              go_wp2_with fail
              go_end0
              obtain ⟨f1, f2⟩ := merge_join HS1.out HS2.out HE.out (show a ≤ s by omega) (show s ≤ m by omega) (show m ≤ e by omega) (show e ≤ b by omega) hmid (HA.out.imp id (fun h => h.imp id (fun g => by omega))) HB.out HR2.out HR3.out HS3.out HR4.out HS4.out
              exact ⟨rfl, z4, f2, f1, HO4.out, HT4.out⟩
          ·
            try (exfalso; have := HLO2.out; have := HLO3.out; omega)
            all_goals
              obtain ⟨z2, hz2⟩ : ∃ z2, z2 = zs := ⟨_, rfl⟩
              have HR2 : Hid (Rot zs z2 s m e) := by rw [hz2]; exact Rot.same zs (by omega)
              have HO2 : Hid (OwnI wr B z2) := by rw [hz2]; exact hO2.out
              have HT2 := Lib.hid hT2.out
              clear hz2
              have HM2 := Lib.hid (merge_halves HS1.out HS2.out HE.out (show a ≤ s by omega) (show s ≤ m by omega) (show m ≤ e by omega) (show e ≤ b by omega) hmid HR2.out)
              have HL2 : Hid (z2.length = n) := by show _ = _; rw [HR2.out.len, HL.out]
              have HD2 := Lib.hid (HD.out.perm HR2.out.perm)
              obtain ⟨z3, hz3⟩ : ∃ z3, z3 = z2 := ⟨_, rfl⟩
              have HR3 : Hid (Rea z2 z3 a mid) := by rw [hz3]; exact Rea.refl _ _ _
              have HS3 : Hid (SrtI key z3 a mid) := by
                rw [hz3]
                by_cases hx : s = mid
                · rw [← hx]; exact HM2.out.1
                · rw [show a = s by omega]; exact HM2.out.2.1
              have HO3 := HO2
              rw [← hz3] at HO3
              have HT3 := Lib.hid HT2.out
              clear hz3
              have HL3 : Hid (z3.length = n) := by show _ = _; rw [HR3.out.len, HL2.out]
              have HD3 := Lib.hid (HD2.out.perm HR3.out.perm)
              have HQ1 : Hid (SrtI key z3 mid e) := SrtI.congr HM2.out.2.2.2.1 (fun i i1 i2 => HR3.out.out i (by omega))
              have HQ2 : Hid (SrtI key z3 e b) := SrtI.congr HM2.out.2.2.2.2.1 (fun i i1 i2 => HR3.out.out i (by omega))
              have HQ3 : Hid (ErlI z3 mid e b) := ErlI.congr HM2.out.2.2.2.2.2 (fun i i1 i2 => HR3.out.out i (by omega))
              obtain ⟨z4, hz4⟩ : ∃ z4, z4 = z3 := ⟨_, rfl⟩
              have HR4 : Hid (Rea z3 z4 mid b) := by rw [hz4]; exact Rea.refl _ _ _
              have HS4 : Hid (SrtI key z4 mid b) := by
                rw [hz4]
                by_cases hx : e = b
                · rw [← hx]; exact HQ1.out
                · rw [show mid = e by omega]; exact HQ2.out
              have HO4 := HO3
              rw [← hz4] at HO4
              have HT4 := Lib.hid HT3.out
              clear hz4
              go_wp2_with fail
              go_end0
              obtain ⟨f1, f2⟩ := merge_join HS1.out HS2.out HE.out (show a ≤ s by omega) (show s ≤ m by omega) (show m ≤ e by omega) (show e ≤ b by omega) hmid (HA.out.imp id (fun h => h.imp id (fun g => by omega))) HB.out HR2.out HR3.out HS3.out HR4.out HS4.out
              exact ⟨rfl, z4, f2, f1, HO4.out, HT4.out⟩

/-- A stable merge of two neighbouring sorted runs. -/
theorem symMerge_any (B n cap N : Nat) (key : Int → Int) (p : Addr) (hn : n ≤ 1000000) (hN : N ≤ 1000000) : ∀ k, MergeOk B n cap N key p k := by
  intro k
  induction k with
  | zero => intro zs a m b a' m' b' w hk ha hm hb _ _ _ _ h1 h2; omega
  | succ k ih =>
    intro zs a m b a' m' b' w hk ha hm hb hl hO hD hC ham hmb hbn hs1 hs2 hE
    subst ha hm hb
    by_cases c1 : m = a + 1
    · exact symMerge_one B n cap N key p hn hN zs a m b w hl hO hD hC c1 hmb hbn hs2 hE
    · by_cases c2 : b = m + 1
      · exact symMerge_last B n cap N key p hn hN zs a m b w hl hO hD hC (by omega) c2 hbn hs1 hE
      · exact symMerge_more B n cap N key p hn hN k ih zs a m b w hk hl hO hD hC (by omega) (by omega) hbn hs1 hs2 hE

end Go.Proofs.Ytbafhmlmibjgpaa
