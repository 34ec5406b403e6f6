/-
  TypesTogether: of rates that can be used together any can be left out, and put into any other order; a rate cannot stand there twice; and rates with different IDs that can be used can be used together.
  No condition: for every input (what is not few is not looked at).
-/
import Derived.Test.YtcmodmchnokmgaaTyM
import Derived.Test.YtcmodmchnokmgaaTyU
import Derived.Test.YtcmodmchnokmgaaLdR
namespace Go.Proofs.Ytcmodmchnokmgaa
set_option linter.unusedSimpArgs false
set_option linter.unusedVariables false
open Go.ChangeShapes Go.WideShapes Go.ChangeAt Go.RowKit
attribute [local go_sem ↓] ld_eq st_eq
attribute [local go_sem] ldR_run ldV_drew ldV_alloc ldV_at16 stR_run sz16_rate stB_drew stB_at16 stW_at16

/-- The i-th rate, wherever later. -/
theorem SlR.far {w : World} {a : Option Addr} {n : Nat} {l : List RateV} (h : SlR w a n l) {i : Nat} (hi : i < n) :
    ∃ (r : RateV) (b off : Nat), Hid (l[i]? = some r) ∧ a = some ⟨b, off, none⟩ ∧ b < w.heap.size ∧ Hid (r.In w) ∧ Hid (∀ W, Below w.heap.size w W → ldV W (.pointer (some ⟨b, off + i * 16, none⟩)) = some (.agg #[.int .i64 r.id, .int .i64 r.lv, .int .i64 r.kd, .int .i64 r.fr, .int .i64 r.un, .int .i64 r.ls, .int .i64 r.ms, .int .i64 r.ar, .int .i64 r.kn, .int .i64 r.kk, .int .i64 r.wh.op, .int .i64 r.wh.n, .slice r.wh.at' r.wh.ks.length r.wh.cap, .int .i64 r.pr.op, .int .i64 r.pr.n, .slice r.pr.at' r.pr.ks.length r.pr.cap]) ∧ W.cell? ⟨b, off + i * 16, none⟩ = some (.int .i64 r.id)) := by
  obtain ⟨r, b, off, h1, h2, h3, h4, h5⟩ := h.get hi
  have key : ∀ W, Below w.heap.size w W → ∀ j v, r.cells[j]? = some v → W.cell? ⟨b, off + i * 16 + j, none⟩ = some v := fun W hb j v hj => (hb.cell (p := ⟨b, off + i * 16 + j, none⟩) h3).trans (h5.out j v hj)
  exact ⟨r, b, off, h1, h2, h3, h4, fun W hb => ⟨ldV_at (key W hb) rfl, key W hb 0 _ rfl⟩⟩

set_option maxRecDepth 100000 in
set_option maxHeartbeats 6400000 in
theorem together_walk (a : Option Addr) (n cap : Nat) (l : List RateV) (q : Int) (_ : ∀ y ∈ l, y.Wf) (wq : (Lit.int .u8 q).wf = true) (w : World) (hl : SlR w a n l ∧ n ≤ cap ∧ cap ≤ maxLen) :
    Calls Try.prog 7 #[.slice a n cap, .int .u8 q] w fun e w' => e = .returned (.bool true) ∧ Below w.heap.size w w' := by
  obtain ⟨q0, q1⟩ := bd_u8 wq
  have HL := Lib.hid hl.1
  have HLN := Lib.hid hl.1.1
  have hm : n ≤ 9223372036854775807 := by have h1 := hl.2.1; have h2 := hl.2.2; unfold maxLen at h2; omega
  obtain ⟨p3, hp⟩ : ∃ p, fewR l = p := ⟨_, rfl⟩
  have P3 := Lib.hid hp
  clear hp hl wq
  go_enter Try.func7, Try.ntmps7
  go_wp2_with fail
  refine (head_any _).mono ?_
  rintro e w1 ⟨rfl, hb1⟩
  have HB1 : Below w.heap.size w w1 := by (repeat' (first | (with_reducible exact Below.refl _ _) | (with_reducible assumption) | (with_reducible exact Bw.out (by with_reducible assumption)) | (with_reducible refine bw_alloc ?_ _) | (with_reducible refine bw_step ?_ (by with_reducible assumption)) | (with_reducible refine Below.alloc ?_ ?_ _) | (with_reducible refine Below.drew ?_) | (with_reducible refine below_drewN ?_ _) | (with_reducible refine Below.setCell ?_ ?_ _) | (with_reducible refine below_step ?_ (by with_reducible assumption) ?_) | (with_reducible exact Nat.le_refl _) | omega | (simp; omega) | (simp; done)))
  go_wp2_with fail
  refine (few_ra l a n cap _ hm (HL.out.step HB1) p3 P3.out).mono ?_
  rintro e w2 ⟨rfl, hb2⟩
  have HB2 : Below w.heap.size w w2 := by (repeat' (first | (with_reducible exact Below.refl _ _) | (with_reducible assumption) | (with_reducible exact Bw.out (by with_reducible assumption)) | (with_reducible refine bw_alloc ?_ _) | (with_reducible refine bw_step ?_ (by with_reducible assumption)) | (with_reducible refine Below.alloc ?_ ?_ _) | (with_reducible refine Below.drew ?_) | (with_reducible refine below_drewN ?_ _) | (with_reducible refine Below.setCell ?_ ?_ _) | (with_reducible refine below_step ?_ (by with_reducible assumption) ?_) | (with_reducible exact Nat.le_refl _) | omega | (simp; omega) | (simp; done)))
  clear hb1 HB1
  cases p3 with
  | false =>
    go_wp2_with fail
    go_ret
    refine ⟨(by first | rfl | exact ret_bool (by first | rfl | (simp; done) | (simp; omega))), ?_⟩
    (repeat' (first | (with_reducible exact Below.refl _ _) | (with_reducible assumption) | (with_reducible exact Bw.out (by with_reducible assumption)) | (with_reducible refine bw_alloc ?_ _) | (with_reducible refine bw_step ?_ (by with_reducible assumption)) | (with_reducible refine Below.alloc ?_ ?_ _) | (with_reducible refine Below.drew ?_) | (with_reducible refine below_drewN ?_ _) | (with_reducible refine Below.setCell ?_ ?_ _) | (with_reducible refine below_step ?_ (by with_reducible assumption) ?_) | (with_reducible exact Nat.le_refl _) | omega | (simp; omega) | (simp; done)))
  | true =>
    by_cases hn0 : n = 0
    · have hn1 : ((n : Int) == 0) = true := by simp [hn0]
      clear hn0
      go_wp2_with fail
      go_ret
      refine ⟨(by first | rfl | exact ret_bool (by first | rfl | (simp; done) | (simp; omega))), ?_⟩
      (repeat' (first | (with_reducible exact Below.refl _ _) | (with_reducible assumption) | (with_reducible exact Bw.out (by with_reducible assumption)) | (with_reducible refine bw_alloc ?_ _) | (with_reducible refine bw_step ?_ (by with_reducible assumption)) | (with_reducible refine Below.alloc ?_ ?_ _) | (with_reducible refine Below.drew ?_) | (with_reducible refine below_drewN ?_ _) | (with_reducible refine Below.setCell ?_ ?_ _) | (with_reducible refine below_step ?_ (by with_reducible assumption) ?_) | (with_reducible exact Nat.le_refl _) | omega | (simp; omega) | (simp; done)))
    · have hn1 : ((n : Int) == 0) = false := by simpa using hn0
      have hn105 : n ≤ 105 := by
        have := P3.out
        unfold fewR at this
        simp only [Bool.and_eq_true, decide_eq_true_eq] at this
        have h2 := HLN.out
        omega
      obtain ⟨k, hk⟩ : ∃ k : Nat, q.tmod n = (k : Int) ∧ k < n := ⟨(q.tmod n).toNat, by rw [Int.tmod_eq_emod_of_nonneg q0]; have := Int.emod_nonneg q (show (n : Int) ≠ 0 by omega); omega, by rw [Int.tmod_eq_emod_of_nonneg q0]; have := Int.emod_lt_of_pos q (show (0 : Int) < n by omega); omega⟩
      obtain ⟨hk1, hk2⟩ := hk
      have hnp : 0 < n := by omega
      clear hn0
      have hmm := @run_makeMap Try.prog
      obtain ⟨B0, hB0⟩ : ∃ B, decide ((n : Int) ≤ 100) = B := ⟨_, rfl⟩
      go_upto_region 8 with fail
      obtain ⟨M, hM⟩ : ∃ M, w2.heap.size = M := ⟨_, rfl⟩
      have HI0 : Hid (TogI w (w2.alloc (.map #[] 0)) M l k 0 0 0 (.slice none 0 0) (.slice none 0 0)) := by
        subst hM
        exact TogI.start (HB2.alloc HB2.size _) (imap_made w2) HB2.size (by simp)
      have HA0 : Hid (allV l 0 = B0) := by
        show _ = _
        rw [allV_zero, ← hB0, HLN.out]
        exact decide_eq_decide.2 (by omega)
      try rw [hM]
      try rw [hB0]
      obtain ⟨w3, hw3⟩ : ∃ X, World.alloc w2 (.map #[] 0) = X := ⟨_, rfl⟩
      rw [hw3] at HI0 ⊢
      clear hw3 hM hB0
      go_wp2_with fail
      go_loopw [7, 8, 10, 11, 12, 13, 36] (fun u1 u2 u3 _ _ _ vi wr => ∃ (i : Nat) (v1 v2 : Value) (B : Bool), i ≤ n ∧ vi = .int .i64 i ∧ v1 = u1 ∧ v2 = u2 ∧ u3 = .bool B ∧ Hid (allV l i = B) ∧ Hid (TogI w wr M l k i i i v1 v2)) (fun _ _ _ _ _ _ vi _ => n - (intOf vi).toNat)
      case atStart => exact ⟨0, _, _, _, Nat.zero_le _, rfl, rfl, rfl, rfl, HA0, HI0⟩
      case round =>
        obtain ⟨i, v1, v2, B, hi, rfl, hv1, hv2, rfl, HA, HI⟩ := hrel
        subst hv1 hv2
        by_cases hin : i < n
        · obtain ⟨r, b, off, hr, rfl, hlb, HRI, HFR⟩ := HL.out.far hin
          obtain ⟨s, b', off', hs, e', _, HSI, HFS⟩ := HL.out.far (i := n - 1 - i) (by omega)
          cases e'
          by_cases hik : i = k
          · have hik' : ((i : Int) != (k : Int)) = false := by simp; omega
            have HI4 : Hid (TogI w wr M l k (i + 1) i i v1 v2) := by
              show TogI _ _ _ _ _ _ _ _ _ _
              rw [hik]
              have := HI.out
              rw [hik] at this
              exact this.same
            clear hik
            have d_s := (HFS.out _ HI4.out.low).1
            have hs13 := HI4.out.2.2.2.2.2.2
            have hlw4 := HI4.out.low.size
            go_upto_region 14 with (at_builtin; refine wpList_append_R rfl _ _ _ rfl Try.underlying31 (M + 1) _ _ rfl (HI4.out.2.1.alloc _) wr.heap.size 1 s rfl (by first | exact Row.new' _ _ _ rfl | (simp; done)) (by rw [List.length_take, List.length_reverse]; have := HLN.out; omega) (by simp; omega) ?_; intro v5 w5 hown5 hgr5 hor5 _)
            have HI5 : Hid (TogI w w5 M l k (i + 1) (i + 1) i v1 v5) := (HI4.out.step ((Below.refl _ _).alloc (Nat.le_refl _) _)).back (by rw [HLN.out]; exact hin) (by rw [HLN.out]; exact hs.out) hown5 hgr5 hor5
            clear hown5 hgr5 hor5 d_s hs13 hlw4
            have hlw5 := HI5.out.low.size
            have d_r := (HFR.out _ HI5.out.low).1
            go_wp2_with fail
            obtain ⟨R, hp⟩ : ∃ p, rateB r = p := ⟨_, rfl⟩
            obtain ⟨E, hp2⟩ : ∃ p, rateE r = p := ⟨_, rfl⟩
            have HRB := Lib.hid hp
            have HRE := Lib.hid hp2
            clear hp hp2
            refine (rate_pe r _ (HRI.out.step HI5.out.low) R E ⟨HRB.out, HRE.out⟩).mono ?_
            rintro e w6 ⟨rfl, hb6⟩
            have HI6 : Hid (TogI w w6 M l k (i + 1) (i + 1) i v1 v5) := HI5.out.step hb6
            clear d_r hb6
            have hlw6 := HI6.out.low.size
            have x_r := (HFR.out _ HI6.out.low).2
            cases B with
            | false =>
              have HAN : Hid (allV l (i + 1) = false) := by show _ = _; rw [allV_next hr.out, HA.out]; rfl
              go_wp2_with (first
                | (refine wpList_update_imap _ rfl _ _ _ 46 (.inl rfl) 3 4 Try.underlying46 Try.underlying3 _ _ rfl HI6.out.2.2.2.1 _ _ rfl rfl ?_; intro w7 hm7 hg7))
              have HI8 : Hid (TogI w w7 M l k (i + 1) (i + 1) (i + 1) v1 v5) := HI6.out.seen hr.out hm7 hg7
              clear hm7 hg7
              go_wp2_with fail
              go_roundw
              case rel => exact ⟨i + 1, _, _, _, by omega, by go_num, rfl, rfl, rfl, HAN.out, HI8.out⟩
              case measure => simp [intOf]; omega
            | true =>
              cases R with
              | false =>
                have HAN : Hid (allV l (i + 1) = false) := by show _ = _; rw [allV_next hr.out, HA.out, HRB.out]; rfl
                go_wp2_with (first
                  | (refine wpList_update_imap _ rfl _ _ _ 46 (.inl rfl) 3 4 Try.underlying46 Try.underlying3 _ _ rfl HI6.out.2.2.2.1 _ _ rfl rfl ?_; intro w7 hm7 hg7))
                have HI8 : Hid (TogI w w7 M l k (i + 1) (i + 1) (i + 1) v1 v5) := HI6.out.seen hr.out hm7 hg7
                clear hm7 hg7
                go_wp2_with fail
                go_roundw
                case rel => exact ⟨i + 1, _, _, _, by omega, by go_num, rfl, rfl, rfl, HAN.out, HI8.out⟩
                case measure => simp [intOf]; omega
              | true =>
                have hlu := HI6.out.look r.id
                obtain ⟨D, hD⟩ : ∃ D, decide (r.id ∈ (l.take i).map RateV.id) = D := ⟨_, rfl⟩
                rw [hD] at hlu
                have HAN : Hid (allV l (i + 1) = !D) := by show _ = _; rw [allV_next hr.out, HA.out, HRB.out, hD]; rfl
                clear hD
                go_wp2_with (first
                  | (refine wpList_update_imap _ rfl _ _ _ 46 (.inl rfl) 3 4 Try.underlying46 Try.underlying3 _ _ rfl HI6.out.2.2.2.1 _ _ rfl rfl ?_; intro w7 hm7 hg7))
                have HI8 : Hid (TogI w w7 M l k (i + 1) (i + 1) (i + 1) v1 v5) := HI6.out.seen hr.out hm7 hg7
                clear hm7 hg7
                go_wp2_with fail
                go_roundw
                case rel => exact ⟨i + 1, _, _, _, by omega, by go_num, rfl, rfl, rfl, HAN.out, HI8.out⟩
                case measure => simp [intOf]; omega
          · have hik' : ((i : Int) != (k : Int)) = true := by simp; omega
            have d_r := (HFR.out wr HI.out.low).1
            have hsz := HI.out.2.2.2.2.2.2
            have hlw := HI.out.low.size
            go_upto_region 13 with (at_builtin; refine wpList_append_R rfl _ _ _ rfl Try.underlying31 (M + 1) _ _ rfl (HI.out.1.alloc _) wr.heap.size 1 r rfl (by first | exact Row.new' _ _ _ rfl | (simp; done)) (by have := lessL_length l k i; omega) (by simp; omega) ?_; intro v4 w4 hown hgr hor _)
            have HI4 : Hid (TogI w w4 M l k (i + 1) i i v4 v2) := (HI.out.step ((Below.refl _ _).alloc (Nat.le_refl _) _)).less hr.out hik hown hgr hor
            clear hown hgr hor d_r hsz hlw hik HI
            have d_s := (HFS.out _ HI4.out.low).1
            have hs13 := HI4.out.2.2.2.2.2.2
            have hlw4 := HI4.out.low.size
            go_upto_region 14 with (at_builtin; refine wpList_append_R rfl _ _ _ rfl Try.underlying31 (M + 1) _ _ rfl (HI4.out.2.1.alloc _) w4.heap.size 1 s rfl (by first | exact Row.new' _ _ _ rfl | (simp; done)) (by rw [List.length_take, List.length_reverse]; have := HLN.out; omega) (by simp; omega) ?_; intro v5 w5 hown5 hgr5 hor5 _)
            have HI5 : Hid (TogI w w5 M l k (i + 1) (i + 1) i v4 v5) := (HI4.out.step ((Below.refl _ _).alloc (Nat.le_refl _) _)).back (by rw [HLN.out]; exact hin) (by rw [HLN.out]; exact hs.out) hown5 hgr5 hor5
            clear hown5 hgr5 hor5 d_s hs13 hlw4
            have hlw5 := HI5.out.low.size
            have d_r := (HFR.out _ HI5.out.low).1
            go_wp2_with fail
            obtain ⟨R, hp⟩ : ∃ p, rateB r = p := ⟨_, rfl⟩
            obtain ⟨E, hp2⟩ : ∃ p, rateE r = p := ⟨_, rfl⟩
            have HRB := Lib.hid hp
            have HRE := Lib.hid hp2
            clear hp hp2
            refine (rate_pe r _ (HRI.out.step HI5.out.low) R E ⟨HRB.out, HRE.out⟩).mono ?_
            rintro e w6 ⟨rfl, hb6⟩
            have HI6 : Hid (TogI w w6 M l k (i + 1) (i + 1) i v4 v5) := HI5.out.step hb6
            clear d_r hb6
            have hlw6 := HI6.out.low.size
            have x_r := (HFR.out _ HI6.out.low).2
            cases B with
            | false =>
              have HAN : Hid (allV l (i + 1) = false) := by show _ = _; rw [allV_next hr.out, HA.out]; rfl
              go_wp2_with (first
                | (refine wpList_update_imap _ rfl _ _ _ 46 (.inl rfl) 3 4 Try.underlying46 Try.underlying3 _ _ rfl HI6.out.2.2.2.1 _ _ rfl rfl ?_; intro w7 hm7 hg7))
              have HI8 : Hid (TogI w w7 M l k (i + 1) (i + 1) (i + 1) v4 v5) := HI6.out.seen hr.out hm7 hg7
              clear hm7 hg7
              go_wp2_with fail
              go_roundw
              case rel => exact ⟨i + 1, _, _, _, by omega, by go_num, rfl, rfl, rfl, HAN.out, HI8.out⟩
              case measure => simp [intOf]; omega
            | true =>
              cases R with
              | false =>
                have HAN : Hid (allV l (i + 1) = false) := by show _ = _; rw [allV_next hr.out, HA.out, HRB.out]; rfl
                go_wp2_with (first
                  | (refine wpList_update_imap _ rfl _ _ _ 46 (.inl rfl) 3 4 Try.underlying46 Try.underlying3 _ _ rfl HI6.out.2.2.2.1 _ _ rfl rfl ?_; intro w7 hm7 hg7))
                have HI8 : Hid (TogI w w7 M l k (i + 1) (i + 1) (i + 1) v4 v5) := HI6.out.seen hr.out hm7 hg7
                clear hm7 hg7
                go_wp2_with fail
                go_roundw
                case rel => exact ⟨i + 1, _, _, _, by omega, by go_num, rfl, rfl, rfl, HAN.out, HI8.out⟩
                case measure => simp [intOf]; omega
              | true =>
                have hlu := HI6.out.look r.id
                obtain ⟨D, hD⟩ : ∃ D, decide (r.id ∈ (l.take i).map RateV.id) = D := ⟨_, rfl⟩
                rw [hD] at hlu
                have HAN : Hid (allV l (i + 1) = !D) := by show _ = _; rw [allV_next hr.out, HA.out, HRB.out, hD]; rfl
                clear hD
                go_wp2_with (first
                  | (refine wpList_update_imap _ rfl _ _ _ 46 (.inl rfl) 3 4 Try.underlying46 Try.underlying3 _ _ rfl HI6.out.2.2.2.1 _ _ rfl rfl ?_; intro w7 hm7 hg7))
                have HI8 : Hid (TogI w w7 M l k (i + 1) (i + 1) (i + 1) v4 v5) := HI6.out.seen hr.out hm7 hg7
                clear hm7 hg7
                go_wp2_with fail
                go_roundw
                case rel => exact ⟨i + 1, _, _, _, by omega, by go_num, rfl, rfl, rfl, HAN.out, HI8.out⟩
                case measure => simp [intOf]; omega
        · obtain rfl : n = i := by omega
          have HV : Hid (validR l = B) := by show _ = _; rw [← HA.out, ← HLN.out, allV_end]
          have hless : lessL l k n = l.eraseIdx k := by unfold lessL; rw [List.take_of_length_le (by rw [HLN.out]; exact Nat.le_refl _)]
          have hback : l.reverse.take n = l.reverse := List.take_of_length_le (by rw [List.length_reverse, HLN.out]; exact Nat.le_refl _)
          obtain ⟨h1, h2, h3, _, h5, h6, h7⟩ := HI.out
          rw [hless] at h1
          rw [hback] at h2
          obtain ⟨ad1, cp1, rfl, _, hc1, hc2⟩ := h1.shape (n - 1) (by rw [List.length_eraseIdx_of_lt (by rw [HLN.out]; exact hk2), HLN.out])
          obtain ⟨ad2, cp2, rfl, _, hc3, hc4⟩ := h2.shape n (by rw [List.length_reverse, HLN.out])
          have HO1 := Lib.hid h1
          have HO2 := Lib.hid h2
          have HB3 := Lib.hid h5
          have hMw := h7
          have hMl := h6
          have hin : ∀ {W : World}, Below w.heap.size w W → ∀ x ∈ l, x.In W := fun hb x hx => by
            obtain ⟨j, hj, e⟩ := List.getElem_of_mem hx
            exact ((HL.out.2 j x (by rw [List.getElem?_eq_getElem hj, e])).1).step hb
          have HIN := fun {W : World} (hb : Below w.heap.size w W) => Lib.hid (hin hb)
          clear h1 h2 h3 h5 h6 h7 hless hback HI hin
          go_wp2_with fail
          refine (valid_ra l a n cap _ hm (HL.out.step HB3.out) B HV.out).mono ?_
          rintro e w4 ⟨rfl, hb4⟩
          have HB4 : Hid (Below w.heap.size w w4) := HB3.out.trans (hb4.mono HB3.out.size)
          have HO14 := Lib.hid (HO1.out.step hb4)
          have HO24 := Lib.hid (HO2.out.step hb4)
          have hs4 := hb4.size
          clear hb4 HO1 HO2
          have hBB : (B != B) = false := by simp
          go_wp2_with fail
          refine (valid_ra l.reverse ad2 n cp2 _ hm (HO24.out.sl (by rw [List.length_reverse, HLN.out]) (fun x hx => (HIN HB4.out).out x (List.mem_reverse.1 hx))) B (by rw [valid_back]; exact HV.out)).mono ?_
          rintro e w5 ⟨rfl, hb5⟩
          have HB5 : Hid (Below w.heap.size w w5) := HB4.out.trans (hb5.mono HB4.out.size)
          have HO15 := Lib.hid (HO14.out.step hb5)
          have HO25 := Lib.hid (HO24.out.step hb5)
          have hs5 := hb5.size
          clear hb5 HO14 HO24
          cases B with
          | false =>
            go_wp2_with fail
            go_ret
            exact ⟨rfl, HB5.out⟩
          | true =>
            go_wp2_with fail
            refine (valid_ra (l.eraseIdx k) ad1 (n - 1) cp1 _ (by omega) (HO15.out.sl (by rw [List.length_eraseIdx_of_lt (by rw [HLN.out]; exact hk2), HLN.out]) (fun x hx => (HIN HB5.out).out x (List.mem_of_mem_eraseIdx hx))) true (valid_less HV.out)).mono ?_
            rintro e w6 ⟨rfl, hb6⟩
            have HB6 : Hid (Below w.heap.size w w6) := HB5.out.trans (hb6.mono HB5.out.size)
            have HO26 := Lib.hid (HO25.out.step hb6)
            have hs6 := hb6.size
            clear hb6 HO15 HO25
            obtain ⟨t, b, off, ht, rfl, hlb, HTI, HFT⟩ := HL.out.far hk2
            have d_t := (HFT.out w6 HB6.out).1
            have hlw6 := HB6.out.size
            go_wp2_with (at_builtin; refine wpList_append_Rw (by kernel_rfl) _ _ _ rfl Try.underlying31 (M + 1) _ _ rfl (HO26.out.alloc _) w6.heap.size 1 t rfl (by first | exact Row.new' _ _ _ rfl | (simp; done)) (by rw [List.length_reverse]; have := HLN.out; omega) (by simp; omega) ?_; intro v7 w7 hown hbl)
            have HB7 : Hid (Below w.heap.size w w7) := by
              have h1 := hbl w6 (((Below.refl _ w6).mono (show M + 1 ≤ w6.heap.size by omega)).alloc (by omega) _)
              exact HB6.out.trans (h1.mono (by omega))
            clear hbl d_t
            obtain ⟨ad7, cp7, rfl, _, _, _⟩ := hown.shape (n + 1) (by simp [HLN.out])
            refine (valid_ra (l.reverse ++ [t]) ad7 (n + 1) cp7 _ (by omega) (hown.sl (by simp [HLN.out]) (fun x hx => (HIN HB7.out).out x (by
              rcases List.mem_append.1 hx with h | h
              · exact List.mem_reverse.1 h
              · simp at h; rw [h]; exact List.mem_of_getElem? ht.out))) false (valid_twice (List.mem_reverse.2 (List.mem_of_getElem? ht.out)))).mono ?_
            rintro e w8 ⟨rfl, hb8⟩
            have HB8 := HB7.out.trans (hb8.mono HB7.out.size)
            go_wp2_with fail
            go_ret
            exact ⟨rfl, HB8⟩


set_option maxRecDepth 100000 in
theorem typesTogether_lifted (os : Os) (started : os.Started) (H : Type) (enc : TypeId × Value → H) :
    ReturnsInHanded {} Try.checked os 7 .any (Rows.typesTogetherSpec.pre6 enc Try.prog Try.f7 Rows.typesTogetherRow.domain false) (Rows.typesTogetherSpec.post enc Try.prog Try.f7 false true false false) := by
  refine returnsInHanded_of_change (C := Try.checked) own started (by kernel_rfl) Try.func7
    (ChangeSpec.witness6 (enc := enc) (C := Try.checked) false ⟨#[], #[.slice none 0 0, .int .u8 0], []⟩ 8 (by kernel_rfl) (by kernel_rfl) (by kernel_rfl) (by kernel_rfl)) ?_
  intro W base args ds gs before hval0 hW _ _
  have hval : ∀ (j : Nat) t v, Try.f7.params[j]? = some t → args[j]? = some v → Value.okWide Try.prog W .any base t v := hval0
  have hW' := hW
  obtain ⟨p, q, hA0, hV, rfl, hfz, hnd⟩ := hW
  obtain ⟨rfl, rfl⟩ := trodVars_none hV
  have hA : DataW.TrodAll enc Try.prog W 0 (fun _ => true) true Try.f7.params.toList args.toList ds p := hA0
  rw [Try.params7] at hA hval
  obtain ⟨v0, vs0, d0, ds0, p0, q0, hargs, rfl, rfl, h0, r0⟩ := trodAll_cons hA
  obtain ⟨v1, vs1, d1, ds1, p1, q1, rfl, rfl, rfl, h1, r1⟩ := trodAll_cons r0
  obtain ⟨rfl, rfl, rfl⟩ := trodAll_nil r1
  obtain rfl : args = #[v0, v1] := by cases args; simp_all
  obtain ⟨a0_l, n0_l, c0_l, rfl⟩ := okWide_slice Try.underlying31 (hval 0 31 v0 rfl rfl)
  obtain ⟨fu_l, hf_l⟩ := h0
  obtain ⟨a_l, n_l, c_l, l_l, e_l, g1_l, g2_l, hs_l, wf_l⟩ := slr_of_rates (by simpa [Value.cells] using hf_l)
  cases e_l
  obtain ⟨q, rfl, rfl, rfl, wq⟩ := open_int Try.underlying5 (hval 1 5 v1 rfl rfl) h1
  clear hA0 hval0
  refine (together_walk _ _ _ l_l q wf_l wq W ⟨hs_l, g1_l, g2_l⟩).mono fun e W' ⟨he, hb⟩ => ?_
  subst he
  exact ⟨_, rfl, law_post (B := 4) laidOut (by rw [Try.params7]; simp only [List.mem_cons, List.not_mem_nil, or_false, forall_eq_or_imp, forall_eq]; first | exact readable_typesTogether | (repeat' apply And.intro) <;> first | exact of_decide_eq_true (by kernel_rfl) | kernel_rfl) rfl Try.underlying4 rfl rfl hW' hb⟩

theorem typesTogether_over : Rows.typesTogetherRow.holds Try.pinned (OpenSpec.ofChange Rows.typesTogetherSpec) :=
  OpenClaim.holds_of_wide 7 Try.f7 rfl rfl rfl rfl rfl rfl rfl ⟨rfl, rfl, rfl, rfl, rfl⟩ rfl rfl rfl rfl rfl (by kernel_rfl) Try.func7 (by kernel_rfl)
    (of_decide_eq_true (by kernel_rfl)) (by unfold Func.isWrapper; first | (rw [if_pos (by decide +kernel)]; kernel_rfl) | (rw [if_neg (by decide +kernel)]; exact ⟨rfl, rfl⟩))
    (fun os started H enc _ => typesTogether_lifted os started H enc)

theorem typesTogether_holds : Rows.TypesTogetherSaid := typesTogether_over
#print axioms typesTogether_holds

end Go.Proofs.Ytcmodmchnokmgaa
