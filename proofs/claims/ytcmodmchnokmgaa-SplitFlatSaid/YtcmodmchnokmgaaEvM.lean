/-
 The iterator over the rates that apply: its contract.
-/
import Derived.Test.YtcmodmchnokmgaaEvL
namespace Go.Proofs.Ytcmodmchnokmgaa
set_option linter.unusedSimpArgs false
set_option linter.unusedVariables false
open Go.RowKit Go.Shelf
attribute [local go_sem ↓] ld_eq st_eq
attribute [local go_sem] ldR_run ldV_drew ldV_alloc ldV_at16 stR_run sz16_rate stB_drew stB_at16 stW_at16 stB_set ldV_set
attribute [local go_sem] Oper.semAt_some
abbrev encT {l : List RateV} {a : AskV} {nt : Int} (x : ThT l a nt) : Array Value := #[x.1.1.val, .int .i64 x.1.2]
theorem below_grownZ {w w' : World} (h : Below w.heap.size w w') : w.grownBy w' none := ⟨h.os, h.tape, h.output, h.size, fun i hi _ => h.block i hi⟩
theorem thK_lt {l : List RateV} {a : AskV} {nt : Int} {k : Nat} {r : RateV} (hr : l[k]? = some r) (h : (appl r a nt).1 = true ∨ (appl r a nt).2 ≠ 0) : (thK l a nt k).length < (thK l a nt l.length).length := by
 have h1 := (thK_prefix l a nt (k + 1)).length_le
 rw [thK_yes hr h] at h1
 simp at h1
 omega
theorem keeps_of_belowZ {P : Nat → Prop} {A B : World} (h : Below A.heap.size A B) : KeepsO (fun _ k => P k) A B := ⟨h.size, fun k _ _ _ e _ => h.block k (Array.getElem?_eq_some_iff.1 e).1, fun _ _ hp => hp⟩
set_option maxRecDepth 100000 in
set_option maxHeartbeats 6400000 in
theorem those_stops (P : Nat → Prop) (m : Nat) (hm : 1 ≤ m) (g0 c0 c1 c2 : Nat) (ad : Option Addr) (n cap : Nat) (l : List RateV) (k fr un ps nt : Int) (w : World)
  (hr0 : Row w c0 [.slice ad n cap]) (hr1 : Row w c1 [.int .i64 k, .int .i64 fr, .int .i64 un, .int .i64 ps]) (hr2 : Row w c2 [.int .i64 nt])
  (hP : ∀ b, P b → g0 ≤ b ∧ b < w.heap.size ∧ b ≠ c0 ∧ b ≠ c1 ∧ b ≠ c2) (hsl : ∀ W, Lo g0 w W → SlR W ad n l) (hn : n ≤ 1000000) (hf : ∀ r ∈ l, formB r = true) (ha : askB ⟨k, fr, un, ps⟩ = true) (hnt : fr ≤ nt ∧ nt < un) :
  SeqStopsK Fence.wide m Try.prog 102 #[.pointer (some ⟨c0, 0, none⟩), .pointer (some ⟨c1, 0, none⟩), .pointer (some ⟨c2, 0, none⟩)] (encT (l := l) (a := ⟨k, fr, un, ps⟩) (nt := nt)) (KeepsO (fun _ b => P b)) (fun xs => xs = thK l ⟨k, fr, un, ps⟩ nt l.length) (fun pre => pre <+: thK l ⟨k, fr, un, ps⟩ nt l.length) (thK l ⟨k, fr, un, ps⟩ nt l.length).length w := fun lb J Jx W hW hJ hJx hY h0 => by
 have hHS := hW.size
 have hr0W := hr0.step hW
 have hr1W := hr1.step hW
 have hr2W := hr2.step hW
 have HSL : Hid (∀ X, Lo g0 W X → SlR X ad n l) := fun X h => hsl X ((Lo.of_below hW).trans h)
 have HP : Hid (∀ b, P b → g0 ≤ b ∧ b < W.heap.size ∧ b ≠ c0 ∧ b ≠ c1 ∧ b ≠ c2) := fun b hb => by have := hP b hb; omega
 have HY := Lib.hid hY
 have HJA := Lib.hid hJ
 have HF := Lib.hid hf
 have HA := Lib.hid ha
 have HNT := Lib.hid hnt
 have HLN : Hid (l.length = n) := (hsl w (Lo.refl _ _)).1
 have H0 : Hid (J (thK l ⟨k, fr, un, ps⟩ nt 0) W) := h0
 clear hr0 hr1 hr2 hP hsl hf ha hnt hY hJ hJx h0
 have a0 := hr0W.cell 0 rfl
 refine callsIn_of_wp Try.func102 rfl trivial ?_ rfl
 simp only [Try.ntmps102, List.size_toArray, List.length_cons, List.length_nil, Nat.reduceAdd, Nat.reduceSub, Array.replicate_succ, Array.replicate_zero, List.push_toArray, List.append_toArray, List.nil_append, List.cons_append]
 gi_wp2_with fail
 gi_loopw [6, 7, 8, 11] (fun _ _ _ i wr => ∃ q : Nat, q ≤ n ∧ i = .int .i64 q ∧ Hid (J (thK l ⟨k, fr, un, ps⟩ nt q) wr) ∧ Hid (KeepsO (fun _ b => P b) W wr)) (fun _ _ _ i _ => n - (intOf i).toNat)
 case atStart => exact ⟨0, Nat.zero_le _, rfl, H0.out, ⟨Nat.le_refl _, fun _ _ _ _ e _ => rfl, fun _ _ h => h⟩⟩
 case round =>
  obtain ⟨q, hq, rfl, hJs, hnx⟩ := hrel
  by_cases hlt : q < n
  ·
   have hLo : Hid (Lo g0 W wr) := Lo.of_keeps hnx.out (fun b hb => (HP.out b hb).1)
   obtain ⟨r, b, off, hr, rfl, hlb, hrin, hcl⟩ := (HSL.out wr hLo.out).get hlt
   have d_r : ldV wr (.pointer (some ⟨b, off + q * 16, none⟩)) = some (.agg #[.int .i64 r.id, .int .i64 r.lv, .int .i64 r.kd, .int .i64 r.fr, .int .i64 r.un, .int .i64 r.ls, .int .i64 r.ms, .int .i64 r.ar, .int .i64 r.kn, .int .i64 r.kk, .int .i64 r.wh.op, .int .i64 r.wh.n, .slice r.wh.at' r.wh.ks.length r.wh.cap, .int .i64 r.pr.op, .int .i64 r.pr.n, .slice r.pr.at' r.pr.ks.length r.pr.cap]) := ldV_at hcl.out rfl
   have R1 := hr1W.keepsO hnx.out (fun ho => (HP.out c1 ho).2.2.2.1 rfl)
   have R2 := hr2W.keepsO hnx.out (fun ho => (HP.out c2 ho).2.2.2.2 rfl)
   have e0 := R1.cell 0 rfl
   have e1 := R1.cell 1 rfl
   have e2 := R1.cell 2 rfl
   have e3 := R1.cell 3 rfl
   have f0 := R2.cell 0 rfl
   have l1 := R1.lt
   have l2 := R2.lt
   have i1 : (0 : Int) ≤ (q : Int) := by omega
   have i2 : (q : Int) < (n : Int) := by omega
   obtain ⟨B, E, hap⟩ : ∃ B E, appl r ⟨k, fr, un, ps⟩ nt = (B, E) := ⟨_, _, rfl⟩
   have HAP := Lib.hid hap
   have HMEM := Lib.hid (List.mem_of_getElem? hr.out)
   clear hap hcl
   gi_wp2_with fail
   have hal : Below wr.heap.size wr (wr.alloc (.cells #[.int .i64 r.id, .int .i64 r.lv, .int .i64 r.kd, .int .i64 r.fr, .int .i64 r.un, .int .i64 r.ls, .int .i64 r.ms, .int .i64 r.ar, .int .i64 r.kn, .int .i64 r.kk, .int .i64 r.wh.op, .int .i64 r.wh.n, .slice r.wh.at' r.wh.ks.length r.wh.cap, .int .i64 r.pr.op, .int .i64 r.pr.n, .slice r.pr.at' r.pr.ks.length r.pr.cap] 30)) := (Below.refl _ _).alloc (Nat.le_refl _) _
   refine ⟨trivial, ?_⟩
   refine (callsIn_wide.2 (applies_p r k fr un ps nt _ (hrin.out.step hal) (HF.out r HMEM.out) HA.out HNT.out B E HAP.out)).mono ?_
   rintro e W2 ⟨rfl, hb2⟩
   have RR : Row W2 wr.heap.size [.int .i64 r.id, .int .i64 r.lv, .int .i64 r.kd, .int .i64 r.fr, .int .i64 r.un, .int .i64 r.ls, .int .i64 r.ms, .int .i64 r.ar, .int .i64 r.kn, .int .i64 r.kk, .int .i64 r.wh.op, .int .i64 r.wh.n, .slice r.wh.at' r.wh.ks.length r.wh.cap, .int .i64 r.pr.op, .int .i64 r.pr.n, .slice r.pr.at' r.pr.ks.length r.pr.cap] := (Row.new' _ _ _ rfl : Row (wr.alloc (.cells #[.int .i64 r.id, .int .i64 r.lv, .int .i64 r.kd, .int .i64 r.fr, .int .i64 r.un, .int .i64 r.ls, .int .i64 r.ms, .int .i64 r.ar, .int .i64 r.kn, .int .i64 r.kk, .int .i64 r.wh.op, .int .i64 r.wh.n, .slice r.wh.at' r.wh.ks.length r.wh.cap, .int .i64 r.pr.op, .int .i64 r.pr.n, .slice r.pr.at' r.pr.ks.length r.pr.cap] 30)) wr.heap.size [.int .i64 r.id, .int .i64 r.lv, .int .i64 r.kd, .int .i64 r.fr, .int .i64 r.un, .int .i64 r.ls, .int .i64 r.ms, .int .i64 r.ar, .int .i64 r.kn, .int .i64 r.kk, .int .i64 r.wh.op, .int .i64 r.wh.n, .slice r.wh.at' r.wh.ks.length r.wh.cap, .int .i64 r.pr.op, .int .i64 r.pr.n, .slice r.pr.at' r.pr.ks.length r.pr.cap]).step hb2
   have d2 := ldV_row RR rfl
   have lRR := RR.lt
   have hbr := hal.trans (hb2.mono hal.size)
   have HK2 : Hid (KeepsO (fun _ b => P b) W W2) := hnx.out.trans (keeps_of_belowZ hbr)
   have HJ2 : Hid (J (thK l ⟨k, fr, un, ps⟩ nt q) W2) := HJA.out _ _ _ none hJs.out (below_grownZ hbr) (fun r e => by cases e)
   clear hb2 hal hbr RR d_r e0 e1 e2 e3 f0 l1 l2 R1 R2
   by_cases hyes : B = true ∨ E ≠ 0
   ·
    have hyes' : (appl r ⟨k, fr, un, ps⟩ nt).1 = true ∨ (appl r ⟨k, fr, un, ps⟩ nt).2 ≠ 0 := by rw [HAP.out]; exact hyes
    obtain ⟨x, hx⟩ : ∃ x : ThT l ⟨k, fr, un, ps⟩ nt, x.1 = (r, E) := ⟨⟨(r, E), HMEM.out, by rw [HAP.out], by rw [HAP.out]; exact hyes⟩, rfl⟩
    have hxe : thK l ⟨k, fr, un, ps⟩ nt (q + 1) = thK l ⟨k, fr, un, ps⟩ nt q ++ [x] := by
     rw [thK_yes hr.out hyes']
     congr 2
     apply Subtype.ext
     rw [hx]
     simp only [HAP.out]
    have HXE := Lib.hid hxe
    have hlen := thK_lt hr.out hyes'
    obtain ⟨fn, tmps, assign, body, hy, hR⟩ := HY.out _ x W2 HJ2.out hlen
    dsimp only [encT] at hy
    rw [hx] at hy
    dsimp only [RateV.val] at hy
    clear hyes' hxe hlen hx
    cases B with
    | true =>
     clear hyes
     gi_wp2_with fail
     refine hR.mono ?_
     rintro e W3 (⟨rfl, hJ3, hk3⟩ | ⟨rfl, hJx3⟩)
     ·
      rw [← HXE.out] at hJ3
      have H3 := Lib.hid hJ3
      have H4 := Lib.hid (HK2.out.trans hk3)
      clear hJ3 hk3
      gi_wp2_with fail
      go_roundw
      case rel => exact ⟨q + 1, by omega, by go_num, H3, H4⟩
      case measure => simp [intOf]; omega
     ·
      rw [← HXE.out] at hJx3
      have H3 := Lib.hid hJx3
      clear hJx3
      gi_wp2_with fail
      refine bodyPost_ret (results_none rfl _ _ _) rfl ?_
      exact ⟨⟨_, rfl⟩, .inr ⟨_, thK_prefix _ _ _ _, H3.out⟩⟩
    | false =>
     have hE : (E != 0) = true := by
      rcases hyes with h | h
      ·
       cases h
      ·
       simpa using h
     clear hyes
     gi_wp2_with fail
     refine hR.mono ?_
     rintro e W3 (⟨rfl, hJ3, hk3⟩ | ⟨rfl, hJx3⟩)
     ·
      rw [← HXE.out] at hJ3
      have H3 := Lib.hid hJ3
      have H4 := Lib.hid (HK2.out.trans hk3)
      clear hJ3 hk3
      gi_wp2_with fail
      go_roundw
      case rel => exact ⟨q + 1, by omega, by go_num, H3, H4⟩
      case measure => simp [intOf]; omega
     ·
      rw [← HXE.out] at hJx3
      have H3 := Lib.hid hJx3
      clear hJx3
      gi_wp2_with fail
      refine bodyPost_ret (results_none rfl _ _ _) rfl ?_
      exact ⟨⟨_, rfl⟩, .inr ⟨_, thK_prefix _ _ _ _, H3.out⟩⟩
   ·
    have hB : B = false := by cases B with | false => rfl | true => exact (hyes (Or.inl rfl)).elim
    have hE : E = 0 := by
     by_cases h : E = 0
     ·
      exact h
     ·
      exact (hyes (Or.inr h)).elim
    subst hB hE
    have HN : Hid (J (thK l ⟨k, fr, un, ps⟩ nt (q + 1)) W2) := by
     show J _ _
     rw [thK_no hr.out (by rw [HAP.out]; exact hyes)]
     exact HJ2.out
    clear hyes
    gi_wp2_with fail
    refine ⟨fun f h => (by cases h), ?_⟩
    gi_wp2_with fail
    go_roundw
    case rel => exact ⟨q + 1, by omega, by go_num, HN, HK2⟩
    case measure => simp [intOf]; omega
  ·
   obtain rfl : n = q := by omega
   have H3 : Hid (J (thK l ⟨k, fr, un, ps⟩ nt l.length) wr) := by
    have := hJs.out
    rwa [← HLN.out] at this
   gi_wp2_with fail
   go_end0
   exact ⟨⟨_, rfl⟩, .inl ⟨_, rfl, H3.out⟩⟩
end Go.Proofs.Ytcmodmchnokmgaa
