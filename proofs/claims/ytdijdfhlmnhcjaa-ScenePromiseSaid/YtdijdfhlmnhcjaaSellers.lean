/-
  The iterator over the channels that can be cut off, in the order of their shares: its contract.
-/
import Derived.Test.YtdijdfhlmnhcjaaMWor
import Derived.Test.YtdijdfhlmnhcjaaFence
import Derived.Test.YtdijdfhlmnhcjaaTopD
namespace Go.Proofs.Ytdijdfhlmnhcjaa
set_option linter.unusedSimpArgs false
set_option linter.unusedVariables false
open Go.RowKit Go.Shelf

attribute [local go_sem] Oper.semAt_some

/-- A channel with its share. -/
abbrev ChS := { p : Int × Int // 0 ≤ p.2 ∧ p.2 ≤ 400 }
abbrev encW (p : ChS) : Array Value := #[.int .i64 p.1.1, .int .i64 p.1.2]
/-- The share of a channel, with its bounds. -/
def chS (zs : List Int) (i : Int) : ChS := ⟨(i, min (max (shr zs i) 0) 400), by simp only []; omega⟩
theorem chS_eq {zs : List Int} (h : shIn zs) (i : Int) : (chS zs i).1 = (i, shr zs i) := by
  have := h.getD i.toNat
  unfold chS shr
  simp only [Prod.mk.injEq, true_and]
  omega
def pairsS (zs l : List Int) : List ChS := l.map (chS zs)

theorem top_nc (k m : Nat) (c' : Int) (a : Option Addr) (n cap : Nat) (zs : List Int) (w : World) (hs : SlC w a n cap zs) (hc : c' = k) (hk : k ≤ 30) (hb : sharesB zs = true) (hm : min k n = m) (hn : n ≤ 30) :
    Calls Try.prog 24 #[.slice a n cap, .int .i64 c'] w fun e w' => ∃ b d, e = .returned (.tuple #[.int .i64 (topS zs k), .slice b m d, .int .i64 0]) ∧ SlC w' b m d (topL zs k) ∧ (∀ g o, b = some ⟨g, o, none⟩ → w.heap.size ≤ g) ∧ Below w.heap.size w w' := by
  subst hc
  refine (top_new a n cap zs k w (by omega) hs.sl ⟨hb, by omega, by omega⟩).mono ?_
  rintro e w' ⟨v, rfl, hv, hnew, hbl⟩
  rw [Int.toNat_natCast] at hv ⊢
  obtain ⟨b, d, rfl, h⟩ := hv.sized m (by rw [topL_length, hs.1]; exact hm)
  exact ⟨b, d, rfl, h, fun g o e => hnew m d g o (by rw [e]), hbl⟩
theorem below_grown {w w' : World} (h : Below w.heap.size w w') : w.grownBy w' none := ⟨h.os, h.tape, h.output, h.size, fun i hi _ => h.block i hi⟩

theorem pairsS_take_succ {zs : List Int} {c k : Nat} (hk : k < (topL zs c).length) : pairsS zs ((topL zs c).take (k + 1)) = pairsS zs ((topL zs c).take k) ++ [chS zs ((topL zs c).getD k 0)] := by
  unfold pairsS
  rw [List.take_succ_eq_append_getElem hk, List.map_append]
  simp [List.getD, hk]
theorem pairsS_prefix (zs l : List Int) (k : Nat) : pairsS zs (l.take k) <+: pairsS zs l := by
  unfold pairsS
  rw [List.map_take]
  exact List.take_prefix _ _

set_option maxRecDepth 100000 in
set_option maxHeartbeats 6400000 in
theorem sellers_stops (own : World → Nat → Prop) (m : Nat) (hm : 1 ≤ m) (B : Nat) (r s : Int) (c : Nat) (a : Option Addr) (n cap : Nat) (zs : List Int) (w : World) (hr : Row w B [.int .i64 r, .int .i64 s, .slice a n cap, .int .i64 c])
    (K : SlC w a n cap zs) (hsb : sharesB zs = true) (hc : c ≤ 30)
    (hmono : ∀ A B k, w.heap.size ≤ A.heap.size → Below A.heap.size A B → own B k → own A k) (hown : ∀ k, own w k → k < w.heap.size ∧ k ≠ B ∧ ∀ b o, a = some ⟨b, o, none⟩ → 0 < n → k ≠ b) :
    SeqStopsK Fence.wide m Try.prog 65 #[.pointer (some ⟨B, 0, none⟩)] encW (KeepsO own) (fun xs => xs = pairsS zs (topL zs c)) (fun pre => pre <+: pairsS zs (topL zs c)) (topL zs c).length w := fun l J Jx W hW hJ hJx hY h0 => by
  obtain ⟨hl30, hin⟩ := sharesB_in hsb
  have hn : n ≤ 30 := by have := K.1; omega
  obtain ⟨q, hq⟩ : ∃ q, min c n = q := ⟨_, rfl⟩
  have HQ := Lib.hid hq
  have hqn : q ≤ 30 := by omega
  have HLQ : Hid ((topL zs c).length = q) := by show _ = _; rw [topL_length, K.1]; exact hq
  have hlz : Hid (zs.length = n) := K.1
  have HIN := Lib.hid hin
  have hHS := hW.size
  have hrW : Row W B [.int .i64 r, .int .i64 s, .slice a n cap, .int .i64 c] := hr.of_block (hW.block B hr.lt)
  have KW : SlC W a n cap zs := K.step hW
  have c0 := hrW.cell 2 rfl
  have c1 := hrW.cell 3 rfl
  have ownW : ∀ k, own W k → k < w.heap.size ∧ k ≠ B ∧ ∀ b o, a = some ⟨b, o, none⟩ → 0 < n → k ≠ b := fun k hk => hown k (hmono w W k (Nat.le_refl _) hW hk)
  clear hq hin hl30
  have HMono := Lib.hid hmono
  have HownW := Lib.hid ownW
  have HY := Lib.hid hY
  have HJA := Lib.hid hJ
  have HJxA := Lib.hid hJx
  clear hmono hown ownW hY hJ hJx
  refine callsIn_of_wp Try.func65 rfl trivial ?_ rfl
  simp only [Try.ntmps65, List.size_toArray, List.length_cons, List.length_nil, Nat.reduceAdd, Nat.reduceSub, Array.replicate_succ, Array.replicate_zero, List.push_toArray, List.append_toArray, List.nil_append, List.cons_append]
  gi_wp2_with fail
  refine ⟨trivial, ?_⟩
  refine (callsIn_wide.2 (top_nc c q _ _ _ _ zs _ KW rfl hc hsb HQ.out hn)).mono ?_
  rintro e W1 ⟨b1, d1, rfl, K1, hnew1, hb1⟩
  have HK1 := Lib.hid K1.sl
  have HKW := Lib.hid (KW.step hb1).sl
  have HR1 := Lib.hid (hrW.step hb1)
  have HJ1 : Hid (J [] W1) := HJA.out _ _ _ none h0 (below_grown hb1) (fun r e => by cases e)
  have hs1 := hb1.size
  -- what is not the body's own
  have HNO : Hid (∀ k, own W1 k → k < W.heap.size ∧ k ≠ B ∧ ∀ b o, a = some ⟨b, o, none⟩ → 0 < n → k ≠ b) := fun k hk => by
    have := HownW.out k (HMono.out W W1 k hHS hb1 hk)
    exact ⟨by omega, this.2⟩
  have HNB : Hid (∀ b o, b1 = some ⟨b, o, none⟩ → 0 < q → ¬ own W1 b) := fun b o e _ ho => by
    have g1 := hnew1 b o e
    have g2 := (HNO.out b ho).1
    omega
  clear K1 hb1 hnew1 c0 c1
  gi_wp2_with fail
  gi_loopw [20] (fun i wr => ∃ k : Nat, k ≤ q ∧ i = .int .i64 k ∧ Hid (J (pairsS zs ((topL zs c).take k)) wr) ∧ Hid (KeepsO own W1 wr)) (fun i _ => q - (intOf i).toNat)
  case atStart => exact ⟨0, Nat.zero_le _, rfl, HJ1, ⟨Nat.le_refl _, fun _ _ _ _ _ _ => rfl, fun _ _ h => h⟩⟩
  case round =>
    obtain ⟨k, hk, rfl, hJs, hnx⟩ := hrel
    by_cases hlt : k < q
    · have hkl : k < (topL zs c).length := by rw [HLQ.out]; exact hlt
      obtain ⟨ob, oo, x, e, _, cx, gx, _, gm⟩ := (HK1.out.keepsO hnx.out (fun b o e => HNB.out b o e (by omega))).get hlt
      subst e
      obtain ⟨m1, m2⟩ := topL_mem gm.out
      obtain ⟨i, rfl⟩ := Int.eq_ofNat_of_zero_le m1
      have hi : i < n := by have := hlz.out; omega
      obtain ⟨b2, o2, z, e, _, cz, gz, _, gzm⟩ := (HKW.out.keepsO hnx.out (fun b o e ho => (HNO.out b ho).2.2 b o e (by omega) rfl)).get hi
      subst e
      obtain ⟨z1, z2⟩ := HIN.out z gzm.out
      have HRk := HR1.out.keepsO hnx.out (fun ho => (HNO.out B ho).2.1 rfl)
      have c0 := HRk.cell 2 rfl
      have HX : Hid (chS zs ((topL zs c).getD k 0) = ⟨((i : Int), z), by simp only []; omega⟩) := by
        show _ = _
        apply Subtype.ext
        rw [chS_eq HIN.out, gx.out]
        unfold shr
        rw [Int.toNat_natCast, gz.out]
      obtain ⟨fn, tmps, assign, body, hy, hR⟩ := HY.out _ ⟨((i : Int), z), by simp only []; omega⟩ wr hJs.out (by unfold pairsS; rw [List.length_map, List.length_take]; omega)
      have hJn : pairsS zs ((topL zs c).take k) ++ [⟨((i : Int), z), by simp only []; omega⟩] = pairsS zs ((topL zs c).take (k + 1)) := by rw [pairsS_take_succ hkl, HX.out]
      have HN := Lib.hid hJn
      clear hJn gx gz gm gzm
      dsimp only [encW] at hy
      have i1 : (0 : Int) ≤ (i : Int) := by omega
      have i2 : (i : Int) < (n : Int) := by omega
      gi_wp2_with fail
      refine hR.mono ?_
      rintro e W3 (⟨rfl, hJ3, hk3⟩ | ⟨rfl, hJx3⟩)
      · rw [HN.out] at hJ3
        have H3 := Lib.hid hJ3
        have H4 := Lib.hid (hnx.out.trans hk3)
        clear hJ3 hk3
        gi_wp2_with fail
        go_roundw
        case rel => exact ⟨k + 1, by omega, by go_num, H3, H4⟩
        case measure => simp [intOf]; omega
      · rw [HN.out] at hJx3
        have H3 := Lib.hid hJx3
        clear hJx3
        gi_wp2_with fail
        refine bodyPost_ret (results_none rfl _ _ _) rfl ?_
        exact ⟨⟨_, rfl⟩, .inr ⟨_, pairsS_prefix _ _ _, H3.out⟩⟩
    · obtain rfl : k = q := by omega
      have H3 : Hid (J (pairsS zs (topL zs c)) wr) := by
        have := hJs.out
        rwa [List.take_of_length_le (by rw [HLQ.out]; omega)] at this
      gi_wp2_with fail
      go_end0
      exact ⟨⟨_, rfl⟩, .inl ⟨_, rfl, H3.out⟩⟩

end Go.Proofs.Ytdijdfhlmnhcjaa
