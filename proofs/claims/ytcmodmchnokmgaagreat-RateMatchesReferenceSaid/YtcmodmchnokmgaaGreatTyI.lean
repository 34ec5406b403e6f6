/-
 The walks of the reference of layer 10: Valid, Few.
-/
import Derived.Test.YtcmodmchnokmgaaGreatTyG
import Derived.Test.YtcmodmchnokmgaaGreatTyH
namespace Go.Proofs.YtcmodmchnokmgaaGreat
set_option linter.unusedSimpArgs false
set_option linter.unusedVariables false
open Go.RowKit
theorem R_rate_p (r : RateV) (w : World) (h : r.In w) (p : Bool) (hp : rateB r = p) :
  Calls Tryz.prog 32 #[.agg #[.int .i64 r.id, .int .i64 r.lv, .int .i64 r.kd, .int .i64 r.fr, .int .i64 r.un, .int .i64 r.ls, .int .i64 r.ms, .int .i64 r.ar, .int .i64 r.kn, .int .i64 r.kk, .int .i64 r.wh.op, .int .i64 r.wh.n, .slice r.wh.at' r.wh.ks.length r.wh.cap, .int .i64 r.pr.op, .int .i64 r.pr.n, .slice r.pr.at' r.pr.ks.length r.pr.cap]] w fun e w' => e = .returned (.tuple #[.bool p, .int .i64 (rateE r)]) ∧ Below w.heap.size w w' := by
 subst hp; exact R_rate r w h
theorem R_few_p (x : Ex) (w : World) (h : x.In w) (p : Bool) (hp : fewE x = p) : Calls Tryz.prog 6 #[.agg #[.int .i64 x.op, .int .i64 x.n, .slice x.at' x.ks.length x.cap]] w fun e w' => e = .returned (.bool p) ∧ Below w.heap.size w w' := by
 subst hp; exact R_fewE x w h
set_option maxRecDepth 100000 in
set_option maxHeartbeats 3200000 in
theorem R_few (a : Option Addr) (n cap : Nat) (l : List RateV) (w : World) (hm : n ≤ 9223372036854775807) (hs : SlR w a n l) :
  Calls Tryz.prog 7 #[.slice a n cap] w fun e w' => e = .returned (.bool (fewR l)) ∧ Below w.heap.size w w' := by
 obtain ⟨R, hR⟩ : ∃ R, fewR l = R := ⟨_, rfl⟩
 rw [hR]
 have HR := Lib.hid hR
 have HS := Lib.hid hs
 have HL := Lib.hid hs.1
 clear hR hs
 by_cases hn : n ≤ 105
 ·
  have hnc : ¬ (105 : Int) < n := by omega
  go_enter Tryz.func7, Tryz.ntmps7
  go_wp2_with fail
  go_loopw [3] (fun i wr => ∃ k : Nat, k ≤ n ∧ i = .int .i64 k ∧ Hid ((l.take k).all (fun r => fewE r.wh && fewE r.pr) = true) ∧ Hid (Below w.heap.size w wr)) (fun i _ => n - (intOf i).toNat)
  case atStart => exact ⟨0, Nat.zero_le _, rfl, by show _ = _; rw [List.take_zero]; rfl, Below.refl _ _⟩
  case round =>
   obtain ⟨k, hk, rfl, hT, hB⟩ := hrel
   by_cases hkn : k < n
   ·
    obtain ⟨r, b, off, hr, hrin, rfl, hlb, x0, x1, x2, x3, x4, x5, x6, x7, x8, x9, xa, xb, xc, xd, xe, xf⟩ := (HS.out.step hB.out).rate hkn
    clear x0 x1 x2 x3 x4 x5 x6 x7 x8 x9
    have C1 : CellAt wr b (off + k * 16 + 13) _ := xd
    have C2 : CellAt wr b (off + k * 16 + 14) _ := xe
    have C3 : CellAt wr b (off + k * 16 + 15) _ := xf
    obtain ⟨p, hp⟩ : ∃ p, fewE r.wh = p := ⟨_, rfl⟩
    have HP := Lib.hid hp
    obtain ⟨q, hq⟩ : ∃ q, fewE r.pr = q := ⟨_, rfl⟩
    have HQ := Lib.hid hq
    clear hp hq
    have HTK : Hid ((l.take (k + 1)).all (fun r => fewE r.wh && fewE r.pr) = (p && q)) := by
     show _ = _
     obtain ⟨hk2, e2⟩ := List.getElem?_eq_some_iff.1 hr.out
     rw [List.take_succ_eq_append_getElem hk2, e2, List.all_append, hT.out]
     simp [HP.out, HQ.out]
    have HNO : Hid ((p && q) = false → R = false) := fun h => by
     rw [← HR.out]
     unfold fewR
     have : l.all (fun r => fewE r.wh && fewE r.pr) = false := by
      rw [← List.take_append_drop (k + 1) l, List.all_append, HTK.out, h]; rfl
     rw [this]; simp
    go_wp2_with fail
    refine (R_few_p r.wh _ hrin.out.1 p HP.out).mono ?_
    rintro e w2 ⟨rfl, hb2⟩
    have HB2 : Hid (Below w.heap.size w w2) := hB.out.trans (hb2.mono hB.out.size)
    cases p with
    | false =>
     have hr := HNO.out rfl
     subst hr
     go_wp2_with fail
     go_ret
     exact ⟨rfl, HB2.out⟩
    | true =>
     have y1 := (C1.step hb2).out
     have y2 := (C2.step hb2).out
     have y3 := (C3.step hb2).out
     have lb2 := Nat.lt_of_lt_of_le hlb hb2.size
     have hin2 := Lib.hid (hrin.out.2.step hb2)
     clear hb2 xa xb xc xd xe xf
     go_wp2_with fail
     refine (R_few_p r.pr _ hin2.out q HQ.out).mono ?_
     rintro e w3 ⟨rfl, hb3⟩
     have HB3 : Hid (Below w.heap.size w w3) := HB2.out.trans (hb3.mono HB2.out.size)
     clear hb3
     cases q with
     | false =>
      have hr := HNO.out rfl
      subst hr
      go_wp2_with fail
      go_ret
      exact ⟨rfl, HB3.out⟩
     | true =>
      go_wp2_with fail
      go_roundw
      case rel => exact ⟨k + 1, by omega, by go_num, HTK, HB3⟩
      case measure => simp [intOf]; omega
   ·
    obtain rfl : k = n := by omega
    have hr : R = true := by
     rw [← HR.out]
     unfold fewR
     have h1 := hT.out
     rw [List.take_of_length_le (by have := HL.out; omega)] at h1
     rw [h1, HL.out]
     simpa using hn
    subst hr
    go_wp2_with fail
    go_ret
    exact ⟨rfl, hB.out⟩
 ·
  have hr : R = false := by rw [← HR.out]; unfold fewR; rw [HL.out]; simp; intro h; omega
  subst hr
  have hc : (105 : Int) < n := by omega
  clear hn
  go_enter Tryz.func7, Tryz.ntmps7
  go_wp2_with fail
  go_ret
  exact ⟨rfl, Below.refl _ _⟩
set_option maxRecDepth 100000 in
set_option maxHeartbeats 3200000 in
theorem R_valid10 (a : Option Addr) (n cap : Nat) (l : List RateV) (w : World) (hm : n ≤ 9223372036854775807) (hs : SlR w a n l) :
  Calls Tryz.prog 39 #[.slice a n cap] w fun e w' => e = .returned (.bool (validR l)) ∧ Below w.heap.size w w' := by
 obtain ⟨R, hR⟩ : ∃ R, validR l = R := ⟨_, rfl⟩
 rw [hR]
 have HR := Lib.hid hR
 have HS := Lib.hid hs
 have HL := Lib.hid hs.1
 clear hR hs
 by_cases hn : n ≤ 100
 ·
  have hnc : ¬ (100 : Int) < n := by omega
  go_enter Tryz.func39, Tryz.ntmps39
  go_wp2_with fail
  go_loopw [3, 4, 5, 6] (fun i _ _ _ wr => ∃ k : Nat, k ≤ n ∧ i = .int .i64 k ∧ Hid (((l.take k).all rateB && decide (((l.take k).map RateV.id).Nodup)) = true) ∧ Hid (Below w.heap.size w wr)) (fun i _ _ _ _ => n - (intOf i).toNat)
  case atStart => exact ⟨0, Nat.zero_le _, rfl, by show _ = _; rw [List.take_zero]; simp, Below.refl _ _⟩
  case round =>
   obtain ⟨k, hk, rfl, hT, hB⟩ := hrel
   by_cases hkn : k < n
   ·
    obtain ⟨r, b, off, hr, hrin, rfl, hlb, x0, x1, x2, x3, x4, x5, x6, x7, x8, x9, xa, xb, xc, xd, xe, xf⟩ := (HS.out.step hB.out).rate hkn
    have C0 : CellAt wr b (off + k * 16) _ := x0
    obtain ⟨p, hp⟩ : ∃ p, rateB r = p := ⟨_, rfl⟩
    have HP := Lib.hid hp
    have HT2 := Lib.hid (validR_take hr.out)
    clear hp
    go_wp2_with fail
    refine (R_rate_p r _ hrin.out p HP.out).mono ?_
    rintro e w2 ⟨rfl, hb2⟩
    have HB2 : Hid (Below w.heap.size w w2) := hB.out.trans (hb2.mono hB.out.size)
    have y0 := (C0.step hb2).out
    have lb2 := Nat.lt_of_lt_of_le hlb hb2.size
    clear x0 x1 x2 x3 x4 x5 x6 x7 x8 x9 xa xb xc xd xe xf hb2
    cases p with
    | false =>
     have hr : R = false := by
      rw [← HR.out]
      refine validR_no (k := k + 1) ?_
      rw [HT2.out, HP.out]; simp
     subst hr
     go_wp2_with fail
     go_ret
     exact ⟨rfl, HB2.out⟩
    | true =>
     have HS2 : Hid (SlR w2 (some ⟨b, off, none⟩) n l) := HS.out.step HB2.out
     have i1 : (0 : Int) ≤ (k : Int) := by omega
     have i2 : (k : Int) < (n : Int) := by omega
     go_wp2_with fail
     go_loopw [6] (fun i wr2 => ∃ j : Nat, j ≤ k ∧ i = .int .i64 j ∧ Hid (∀ m s, m < j → l[m]? = some s → s.id ≠ r.id) ∧ Hid (∃ q, wr2 = w2.drewN q)) (fun i _ => k - (intOf i).toNat)
     case atStart => exact ⟨0, Nat.zero_le _, rfl, fun m s h => by omega, 0, rfl⟩
     case round =>
      obtain ⟨j, hj, rfl, hne, hq⟩ := hrel
      obtain ⟨q, hq⟩ := hq.out
      subst hq
      by_cases hjk : j < k
      ·
       obtain ⟨s, b', off', hs, _, e, _, z0, _⟩ := HS2.out.rate (show j < n by omega)
       cases e
       have j1 : (0 : Int) ≤ (j : Int) := by omega
       have j2 : (j : Int) < (n : Int) := by omega
       by_cases hsr : s.id = r.id
       ·
        have hsr' : (s.id == r.id) = true := by simpa using hsr
        have hr : R = false := by
         rw [← HR.out]
         refine validR_no (k := k + 1) ?_
         rw [HT2.out]
         have hm : r.id ∈ (l.take k).map RateV.id := by
          refine List.mem_map.2 ⟨s, ?_, hsr⟩
          refine List.mem_of_getElem? (i := j) ?_
          rw [List.getElem?_take, if_pos hjk]; exact hs.out
         rw [decide_eq_true hm]; simp
        subst hr
        clear hsr
        go_wp2_with fail
        go_quiet (fail)
        go_wp2_with fail
        go_ret
        exact ⟨rfl, below_drewN (below_drewN HB2.out _) _⟩
       ·
        have hsr' : (s.id == r.id) = false := by simpa using hsr
        have HSR := Lib.hid hsr
        clear hsr
        go_wp2_with fail
        go_quiet (fail)
        go_wp2_with fail
        go_roundw
        case rel => exact ⟨j + 1, by omega, by go_num, fun m s' h1 h2 => by
         by_cases hmj : m = j
         ·
          subst hmj; rw [hs.out] at h2; cases h2; exact HSR.out
         ·
          exact hne.out m s' (by omega) h2, _, rfl⟩
        case measure => simp [intOf]; omega
      ·
       obtain rfl : j = k := by omega
       have hmem : ¬ r.id ∈ (l.take j).map RateV.id := fun hmm => by
        obtain ⟨s, hs, e⟩ := List.mem_map.1 hmm
        obtain ⟨m, hm1, hm2⟩ := List.getElem_of_mem hs
        have hl := List.length_take (l := l) (i := j)
        refine hne.out m s (by omega) ?_ e
        have := List.getElem?_eq_getElem hm1
        rw [List.getElem?_take, if_pos (by omega), hm2] at this
        exact this
       have HTK : Hid (((l.take (j + 1)).all rateB && decide (((l.take (j + 1)).map RateV.id).Nodup)) = true) := by
        show _ = _
        rw [HT2.out, hT.out, HP.out, decide_eq_false hmem]; rfl
       clear hmem
       have HB3 : Hid (Below w.heap.size w (w2.drewN q)) := below_drewN HB2.out q
       go_wp2_with fail
       refine ⟨⟨j + 1, by omega, by go_num, HTK, HB3⟩, ?_⟩
       simp [intOf]; omega
   ·
    obtain rfl : k = n := by omega
    have hr : R = true := by
     rw [← HR.out]
     unfold validR
     have h1 := hT.out
     rw [List.take_of_length_le (by have := HL.out; omega)] at h1
     rw [h1, HL.out]
     simpa using hn
    subst hr
    go_wp2_with fail
    go_ret
    exact ⟨rfl, hB.out⟩
 ·
  have hr : R = false := by rw [← HR.out]; unfold validR; rw [HL.out]; simp; intro h; omega
  subst hr
  have hc : (100 : Int) < n := by omega
  clear hn
  go_enter Tryz.func39, Tryz.ntmps39
  go_wp2_with fail
  go_ret
  exact ⟨rfl, Below.refl _ _⟩
end Go.Proofs.YtcmodmchnokmgaaGreat
