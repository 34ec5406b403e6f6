/-
  The walk of slices.SortStableFunc at ints whose numbers rise at the beginning.
-/
import Derived.Test.YtbafhmlmibjgpaaSortE
namespace Go.Proofs.Ytbafhmlmibjgpaa
set_option linter.unusedSimpArgs false
set_option linter.unusedVariables false
open Go.RowKit

theorem insertion_at (B n cap N : Nat) (zs : List Int) (key : Int → Int) (a b : Nat) (a' b' : Int) (p : Addr) (w : World) (hl : zs.length = n) (hO : OwnI w B zs) (hD : DomI zs N) (hC : CmpOk 35 key N p B w)
    (ha' : a' = a) (hb' : b' = b) (hab : a ≤ b) (hb : b ≤ n) (hn : n ≤ 1000000) (hN : N ≤ 1000000) (hE : ∀ i j, a ≤ i → i < j → j < b → zs.getD i 0 < zs.getD j 0) :
    Calls Try.prog 43 #[.slice (some ⟨B, 0, none⟩) n cap, .int .i64 a', .int .i64 b', .func (.func 35) #[] #[.pointer (some p)]] w
      fun e w' => e = .returned (.tuple #[]) ∧ ∃ zs', Rea zs zs' a b ∧ SrtI key zs' a b ∧ OwnI w' B zs' ∧ Tch B w w' := by
  subst ha' hb'
  exact insertion_any B n cap N zs key a b p w hl hO hD hC hab hb hn hN hE

theorem PhI.step' {key : Int → Int} {O zs zs' : List Int} {n s a b : Nat} (h : PhI key O zs n s a) (hk : ∃ k, a = k * s) (hb : b = min (a + s) n) (hr : Rea zs zs' a b) (hs : SrtI key zs' a b) : PhI key O zs' n s (a + s) := by
  obtain ⟨k, rfl⟩ := hk
  exact h.step hb hr hs
/-- Two blocks that stand side by side, as a merge wants them. -/
theorem PhM.pre {key : Int → Int} {O zs : List Int} {n s k a b : Nat} (h : PhM key O zs n s k) (hk : a = k * (2 * s)) (hO : ∀ i j, i < j → j < n → O.getD i 0 < O.getD j 0) (hm : a + s < n) (hb : b = min (a + 2 * s) n) :
    SrtI key zs a (a + s) ∧ SrtI key zs (a + s) b ∧ ErlI zs a (a + s) b := by
  subst hk
  obtain ⟨f1, f2⟩ := h.first
  refine ⟨f1.srt.sub (Nat.le_refl _) (by omega), f2.srt.sub (Nat.le_refl _) (by omega), BlkAt.erl f1 f2 hO (by omega) (by omega)⟩
theorem PhM.step' {key : Int → Int} {O zs zs' : List Int} {n s k a b : Nat} (h : PhM key O zs n s k) (hk : a = k * (2 * s)) (hb : b = min (a + 2 * s) n) (hr : Rea zs zs' a b) (hs : SrtI key zs' a b) : PhM key O zs' n s (k + 1) := by
  subst hk
  exact h.step hb hr hs
theorem next_mul {a k s : Nat} (hk : a = k * s) : a + s = (k + 1) * s := by rw [hk, Nat.succ_mul]

set_option maxRecDepth 100000 in
set_option maxHeartbeats 6400000 in
theorem stable_any (B n cap N : Nat) (O : List Int) (key : Int → Int) (p : Addr) (w : World) (hl : O.length = n) (hO : OwnI w B O) (hD : DomI O N) (hC : CmpOk 35 key N p B w)
    (hn : n ≤ 1000000) (hN : N ≤ 1000000) (hE : ∀ i j, i < j → j < n → O.getD i 0 < O.getD j 0) :
    Calls Try.prog 41 #[.slice (some ⟨B, 0, none⟩) n cap, .int .i64 n, .func (.func 35) #[] #[.pointer (some p)]] w
      fun e w' => e = .returned (.tuple #[]) ∧ ∃ zs', zs'.Perm O ∧ SrtI key zs' 0 n ∧ OwnI w' B zs' ∧ Tch B w w' := by
  have HO := Lib.hid hO
  have HL := Lib.hid hl
  have HC := Lib.hid hC
  have HE := Lib.hid hE
  have HD := Lib.hid hD
  clear hO hl hC hE hD
  go_enter Try.func41, Try.ntmps41
  go_wp2_with fail
  go_loopw [7, 8] (fun u v wr => ∃ a : Nat, ∃ cur : List Int, a ≤ n ∧ u = .int .i64 a ∧ v = .int .i64 ((a : Int) + 20) ∧ Hid (∃ k, a = k * 20) ∧ Hid (PhI key O cur n 20 a) ∧ Hid (OwnI wr B cur) ∧ Hid (Tch B w wr)) (fun u _ _ => n - (intOf u).toNat)
  case atStart => exact ⟨0, O, Nat.zero_le _, rfl, rfl, ⟨0, rfl⟩, PhI.start _ _ _ _, HO.out, Tch.refl _ _⟩
  case round =>
    obtain ⟨a, cur, han, rfl, rfl, hk, hP, hO2, hT2⟩ := hrel
    have hlen : Hid (cur.length = n) := by show _ = _; rw [hP.out.len, HL.out]
    have hE2 : Hid (∀ b, b ≤ n → ∀ i j, a ≤ i → i < j → j < b → cur.getD i 0 < cur.getD j 0) := fun b hb i j h1 h2 h3 => by
      rw [hP.out.rest i h1, hP.out.rest j (by omega)]; exact HE.out i j h2 (by omega)
    by_cases hlt : a + 20 ≤ n
    · go_wp2_with fail
      refine (insertion_at B n cap N cur key a (a + 20) _ _ p _ hlen.out hO2.out (HD.out.perm hP.out.perm) (HC.out.tch hT2.out) rfl (by omega) (by omega) hlt hn hN (hE2.out _ hlt)).mono ?_
      rintro e w1 ⟨rfl, nx, g1, g2, g3, g4⟩
      have H1 := Lib.hid g1
      have H2 := Lib.hid g2
      have H3 := Lib.hid g3
      have H4 := Lib.hid g4
      clear g1 g2 g3 g4
      go_wp2_with fail
      go_roundw
      case rel => exact ⟨a + 20, nx, hlt, by go_num, by go_num, hk.out.elim fun k e => ⟨k + 1, by omega⟩, hP.out.step' hk.out (by omega) H1.out H2.out, H3.out, hT2.out.trans H4.out⟩
      case measure => simp [intOf]; omega
    · go_wp2_with fail
      refine (insertion_at B n cap N cur key a n _ _ p _ hlen.out hO2.out (HD.out.perm hP.out.perm) (HC.out.tch hT2.out) rfl rfl han (Nat.le_refl _) hn hN (hE2.out _ (Nat.le_refl _))).mono ?_
      rintro e w1 ⟨rfl, c1, g1, g2, g3, g4⟩
      have HA := Lib.hid ((hP.out.step' hk.out (show n = min (a + 20) n by omega) g1 g2).all (by omega))
      have H3 := Lib.hid g3
      have H4 := Lib.hid (hT2.out.trans g4)
      clear g1 g2 g3 g4 hP hO2 hT2 hE2 hlen hk
      go_wp2_with fail
      go_loopw [6, 7, 8, 9] (fun u _ _ _ wr => ∃ s : Nat, ∃ cur : List Int, 20 ≤ s ∧ s ≤ 2000000 ∧ u = .int .i64 s ∧ Hid (AllB key O cur n s) ∧ Hid (OwnI wr B cur) ∧ Hid (Tch B w wr)) (fun u _ _ _ _ => n - (intOf u).toNat)
      case atStart => exact ⟨20, c1, by omega, by omega, rfl, HA.out, H3.out, H4.out⟩
      case round =>
        obtain ⟨s, c2, hs1, hs2, rfl, hA, hO3, hT3⟩ := hrel
        by_cases hsn : s < n
        · go_wp2_with fail
          obtain ⟨wo, hwo⟩ : ∃ wo : World, wo = wr := ⟨_, rfl⟩
          subst hwo
          go_loopw [7, 8] (fun u v wr => ∃ a k : Nat, ∃ cur : List Int, a ≤ n ∧ u = .int .i64 a ∧ v = .int .i64 ((a : Int) + 2 * (s : Int)) ∧ Hid (a = k * (2 * s)) ∧ Hid (PhM key O cur n s k) ∧ Hid (OwnI wr B cur) ∧ Hid (Tch B w wr)) (fun u _ _ => n - (intOf u).toNat)
          case atStart => exact ⟨0, 0, c2, Nat.zero_le _, rfl, by go_num, by show 0 = _; omega, hA.out.start, hO3.out, hT3.out⟩
          case round =>
            obtain ⟨a, k, cur, han, rfl, rfl, hk, hP, hO2, hT2⟩ := hrel
            have hlen : Hid (cur.length = n) := by show _ = _; rw [hP.out.len, HL.out]
            by_cases hlt : a + 2 * s ≤ n
            · have hpre := Lib.hid (hP.out.pre hk.out HE.out (show a + s < n by omega) (show a + 2 * s = min (a + 2 * s) n by omega))
              go_wp2_with fail
              refine (symMerge_any B n cap N key p hn hN _ cur a (a + s) (a + 2 * s) _ _ _ _ (Nat.le_refl _) rfl (by omega) (by omega) hlen.out hO2.out (HD.out.perm hP.out.perm) (HC.out.tch hT2.out) (by omega) (by omega) hlt hpre.out.1 hpre.out.2.1 hpre.out.2.2).mono ?_
              rintro e w1 ⟨rfl, nx, g1, g2, g3, g4⟩
              have H1 := Lib.hid g1
              have H2 := Lib.hid g2
              have H5 := Lib.hid g3
              have H6 := Lib.hid g4
              clear g1 g2 g3 g4
              go_wp2_with fail
              go_roundw
              case rel => exact ⟨a + 2 * s, k + 1, nx, hlt, by go_num, by go_num, next_mul hk.out, hP.out.step' hk.out (by omega) H1.out H2.out, H5.out, hT2.out.trans H6.out⟩
              case measure => simp [intOf]; omega
            · by_cases hm : a + s < n
              · have hpre := Lib.hid (hP.out.pre hk.out HE.out hm (show n = min (a + 2 * s) n by omega))
                go_wp2_with fail
                refine (symMerge_any B n cap N key p hn hN _ cur a (a + s) n _ _ _ _ (Nat.le_refl _) rfl (by omega) rfl hlen.out hO2.out (HD.out.perm hP.out.perm) (HC.out.tch hT2.out) (by omega) (by omega) (Nat.le_refl _) hpre.out.1 hpre.out.2.1 hpre.out.2.2).mono ?_
                rintro e w1 ⟨rfl, nx, g1, g2, g3, g4⟩
                have H1 := Lib.hid ((hP.out.step' hk.out (show n = min (a + 2 * s) n by omega) g1 g2).all (by rw [← next_mul hk.out]; omega))
                have H5 := Lib.hid g3
                have H6 := Lib.hid g4
                clear g1 g2 g3 g4
                go_wp2_with fail
                go_roundw
                case rel => exact ⟨2 * s, nx, by omega, by omega, by go_num, H1.out, H5.out, hT2.out.trans H6.out⟩
                case measure => simp [intOf]; omega
              · have H1 := Lib.hid (hP.out.last (by rw [← hk.out]; omega))
                go_wp2_with fail
                go_roundw
                case rel => exact ⟨2 * s, cur, by omega, by omega, by go_num, H1.out, hO2.out, hT2.out⟩
                case measure => simp [intOf]; omega
        · go_wp2_with fail
          go_end0
          exact ⟨rfl, c2, hA.out.perm, hA.out.whole (by omega), hO3.out, hT3.out⟩

set_option maxHeartbeats 800000 in
/-- SortStableFunc at ints that rise at the beginning: the same numbers, by the key; where that is equal, by themselves. -/
theorem sortStable_any (B n cap N : Nat) (O : List Int) (key : Int → Int) (p : Addr) (w : World) (hl : O.length = n) (hO : OwnI w B O) (hD : DomI O N) (hC : CmpOk 35 key N p B w)
    (hn : n ≤ 1000000) (hN : N ≤ 1000000) (hE : ∀ i j, i < j → j < n → O.getD i 0 < O.getD j 0) :
    Calls Try.prog 34 #[.slice (some ⟨B, 0, none⟩) n cap, .func (.func 35) #[] #[.pointer (some p)]] w
      fun e w' => e = .returned (.tuple #[]) ∧ ∃ zs', zs'.Perm O ∧ SrtI key zs' 0 n ∧ OwnI w' B zs' ∧ Tch B w w' := by
  have HO := Lib.hid hO
  have HL := Lib.hid hl
  have HC := Lib.hid hC
  have HE := Lib.hid hE
  have HD := Lib.hid hD
  clear hO hl hC hE hD
  go_enter Try.func34, Try.ntmps34
  go_wp2_with fail
  refine (stable_any B n cap N O key p _ HL.out HO.out HD.out HC.out hn hN HE.out).mono ?_
  rintro e w1 ⟨rfl, nx, g0, g1, g2, g3⟩
  have H0 := Lib.hid g0
  have H1 := Lib.hid g1
  have H2 := Lib.hid g2
  have H3 := Lib.hid g3
  clear g0 g1 g2 g3
  go_wp2_with fail
  go_end0
  exact ⟨rfl, nx, H0.out, H1.out, H2.out, H3.out⟩

end Go.Proofs.Ytbafhmlmibjgpaa
