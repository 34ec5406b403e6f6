/-
  The walk of share.Top once more: the slice that it returns lies in new memory.
-/
import Derived.Test.YtdijdfhlmnhcjaaMTop
namespace Go.Proofs.Ytdijdfhlmnhcjaa
set_option linter.unusedSimpArgs false
set_option linter.unusedVariables false
open Go.RowKit

/-- The block that a slice value begins in, if it begins at a block's head, is B or a later one. -/
def NewV (B : Nat) (v : Value) : Prop := ∀ n c b o, v = .slice (some ⟨b, o, none⟩) n c → B ≤ b
theorem NewV.nil (B : Nat) : NewV B (.slice none 0 0) := fun _ _ _ _ e => by cases e
theorem NewV.at {B g n c : Nat} (h : B ≤ g) : NewV B (.slice (some ⟨g, 0, none⟩) n c) := fun _ _ _ _ e => by cases e; exact h

set_option maxRecDepth 100000 in
set_option maxHeartbeats 3200000 in
theorem top_new (a : Option Addr) (n cap : Nat) (zs : List Int) (cut : Int) (w : World) (hm : n ≤ 9223372036854775807) (hs : SlI w a n zs) (h : TopOk zs cut) :
    Calls Try.prog 24 #[.slice a n cap, .int .i64 cut] w
      fun e w' => ∃ v, e = .returned (.tuple #[.int .i64 (topS zs cut.toNat), v, .int .i64 0]) ∧ SlV w' v (topL zs cut.toNat) ∧ NewV w.heap.size v ∧ Below w.heap.size w w' := by
  obtain ⟨hb, hc1, hc2⟩ := h
  obtain ⟨c, rfl⟩ := Int.eq_ofNat_of_zero_le hc1
  rw [Int.toNat_natCast]
  have hc3 : c ≤ 30 := by omega
  obtain ⟨hl30, hin⟩ := sharesB_in hb
  have ho : outB 30 c = false := outB_false ⟨hc1, hc2⟩
  have hln := hs.1
  have hn30 : n ≤ 30 := by omega
  have HLN := Lib.hid hln
  have HIN := Lib.hid hin
  have HS := Lib.hid (hs.below ((Below.refl _ w).alloc (Nat.le_refl _) (.cells #[.slice a n cap] 23)))
  clear hs hln hin hl30
  go_enter Try.func24, Try.ntmps24
  go_wp2_with fail
  refine (areShares_any _ _ _ zs _ hm HS.out).mono ?_
  rintro e w1 ⟨rfl, hb1⟩
  have R_sh_1 : Row w1 (w.heap.size) [.slice a n cap] := by (repeat' (first | (with_reducible assumption) | (with_reducible refine Row.new' _ _ _ (by first | rfl | (simp; done) | omega)) | (with_reducible refine Row.alloc ?_ _) | (with_reducible refine Row.drew ?_) | (with_reducible refine Row.drewN ?_ _) | (with_reducible refine Row.step ?_ (by with_reducible assumption)) | (with_reducible refine Row.set2' ?_ _ _; first | exact ⟨_, _, by with_reducible assumption⟩ | exact ⟨_, _, Row.alloc (by with_reducible assumption) _⟩ | exact ⟨_, _, Row.alloc (Row.alloc (by with_reducible assumption) _) _⟩) | (with_reducible refine Row.other ?_ (by first | omega | (simp; done) | (simp; omega)) _)))
  have c_sh_0_1 := R_sh_1.cell 0 rfl
  have l_sh_1 := R_sh_1.lt
  have HB1 : Below w.heap.size w w1 := by (repeat' (first | (with_reducible exact Below.refl _ _) | (with_reducible assumption) | (with_reducible exact Bw.out (by with_reducible assumption)) | (with_reducible refine bw_alloc ?_ _) | (with_reducible refine bw_step ?_ (by with_reducible assumption)) | (with_reducible refine Below.alloc ?_ ?_ _) | (with_reducible refine Below.drew ?_) | (with_reducible refine below_drewN ?_ _) | (with_reducible refine Below.setCell ?_ ?_ _) | (with_reducible refine below_step ?_ (by with_reducible assumption) ?_) | (with_reducible exact Nat.le_refl _) | omega | (simp; omega) | (simp; done)))
  have HS1 := Lib.hid (HS.out.below hb1)
  go_wp2_with fail
  refine (within_one 30 c _ _ (by (repeat' (first | (with_reducible assumption) | (with_reducible refine Row.new' _ _ _ (by first | rfl | (simp; done) | omega)) | (with_reducible refine Row.alloc ?_ _) | (with_reducible refine Row.drew ?_) | (with_reducible refine Row.drewN ?_ _) | (with_reducible refine Row.step ?_ (by with_reducible assumption)))))).mono ?_
  rintro e w2 ⟨rfl, hb2⟩
  have R_sh_2 : Row w2 (w.heap.size) [.slice a n cap] := by (repeat' (first | (with_reducible assumption) | (with_reducible refine Row.new' _ _ _ (by first | rfl | (simp; done) | omega)) | (with_reducible refine Row.alloc ?_ _) | (with_reducible refine Row.drew ?_) | (with_reducible refine Row.drewN ?_ _) | (with_reducible refine Row.step ?_ (by with_reducible assumption)) | (with_reducible refine Row.set2' ?_ _ _; first | exact ⟨_, _, by with_reducible assumption⟩ | exact ⟨_, _, Row.alloc (by with_reducible assumption) _⟩ | exact ⟨_, _, Row.alloc (Row.alloc (by with_reducible assumption) _) _⟩) | (with_reducible refine Row.other ?_ (by first | omega | (simp; done) | (simp; omega)) _)))
  have c_sh_0_2 := R_sh_2.cell 0 rfl
  have l_sh_2 := R_sh_2.lt
  have HB2 : Below w.heap.size w w2 := by (repeat' (first | (with_reducible exact Below.refl _ _) | (with_reducible assumption) | (with_reducible exact Bw.out (by with_reducible assumption)) | (with_reducible refine bw_alloc ?_ _) | (with_reducible refine bw_step ?_ (by with_reducible assumption)) | (with_reducible refine Below.alloc ?_ ?_ _) | (with_reducible refine Below.drew ?_) | (with_reducible refine below_drewN ?_ _) | (with_reducible refine Below.setCell ?_ ?_ _) | (with_reducible refine below_step ?_ (by with_reducible assumption) ?_) | (with_reducible exact Nat.le_refl _) | omega | (simp; omega) | (simp; done)))
  clear R_sh_1 c_sh_0_1 hb1 HB1
  have HS2 := Lib.hid ((HS1.out.below ((Below.refl _ w1).alloc (Nat.le_refl _) (.cells #[.int .i64 c] 3))).below hb2)
  go_wp2_with fail
  go_loopw [7, 23] (fun v u wr => ∃ k : Nat, k ≤ n ∧ u = .int .i64 k ∧ Hid (k = 0 → v = .slice none 0 0) ∧ Hid (OwnV wr w2.heap.size v (upto k)) ∧ Hid (Below w2.heap.size w2 wr)) (fun _ u _ => n - (intOf u).toNat)
  case atStart => exact ⟨0, Nat.zero_le _, rfl, fun _ => rfl, OwnV.nil _ _, Below.refl _ _⟩
  case round =>
    obtain ⟨k, hk, rfl, hv0, hO, hB⟩ := hrel
    by_cases hlt : k < n
    · go_wp2_with (at_builtin; refine wpList_append_int rfl _ _ _ rfl Try.underlying23 w2.heap.size _ (upto k) rfl (hO.out.alloc _) wr.heap.size 1 (k : Int) rfl (by simp [go_sem]) (by rw [upto_length]; omega) (by have := hB.out.size; simp; omega) ?_; intro v' w3 hown1 hbl1 hsz1)
      have H1 := Lib.hid hown1
      have H2 := Lib.hid (hbl1 w2 (hB.out.alloc hB.out.size _))
      clear hown1 hbl1
      go_wp2_with fail
      go_roundw
      case rel => exact ⟨k + 1, by omega, by go_num, fun h => by omega, by rw [upto_succ]; exact H1.out, H2.out⟩
      case measure => simp [intOf]; omega
    · obtain rfl : k = n := by omega
      have HB := Lib.hid hB.out
      have Bx : Below w.heap.size w wr := by have := HB.out; (repeat' (first | (with_reducible exact Below.refl _ _) | (with_reducible assumption) | (with_reducible exact Bw.out (by with_reducible assumption)) | (with_reducible refine bw_alloc ?_ _) | (with_reducible refine bw_step ?_ (by with_reducible assumption)) | (with_reducible refine Below.alloc ?_ ?_ _) | (with_reducible refine Below.drew ?_) | (with_reducible refine below_drewN ?_ _) | (with_reducible refine Below.setCell ?_ ?_ _) | (with_reducible refine below_step ?_ (by with_reducible assumption) ?_) | (with_reducible exact Nat.le_refl _) | omega | (simp; omega) | (simp; done)))
      have Rx : Row wr w.heap.size [.slice a k cap] := by have := HB.out; (repeat' (first | (with_reducible assumption) | (with_reducible refine Row.new' _ _ _ (by first | rfl | (simp; done) | omega)) | (with_reducible refine Row.alloc ?_ _) | (with_reducible refine Row.drew ?_) | (with_reducible refine Row.drewN ?_ _) | (with_reducible refine Row.step ?_ (by with_reducible assumption))))
      have cx := Rx.cell 0 rfl
      have lx := Rx.lt
      have HS3 := Lib.hid (HS2.out.below HB.out)
      go_wp2_with fail
      by_cases hn0 : k = 0
      · have HV := hv0.out hn0
        subst HV
        subst hn0
        obtain rfl : zs = [] := List.eq_nil_of_length_eq_zero HLN.out
        refine (sortStable_nil _ _).mono ?_
        rintro e w3 ⟨rfl, rfl⟩
        have hT : topL [] c = [] := by simp [topL, topAll, srtK, upto]
        have hT2 : topS [] c = 0 := by simp [topS, topL, topAll, srtK, upto, atL]
        have HT := Lib.hid hT
        have HT2 := Lib.hid hT2
        clear hT hT2
        rcases Nat.eq_zero_or_pos c with hz | hz
        · subst hz
          go_wp2_with fail
          refine wp_loop_rounds 1 ?_
          rw [rounds_succ]
          go_wp2_with fail
          go_ret3
          exact ⟨.slice none 0 0, by (try rw [HT2.out]); (try rfl), by rw [HT.out]; exact SlV.nil _, NewV.nil _, Bx⟩
        · go_wp2_with fail
          refine wp_loop_rounds 1 ?_
          rw [rounds_succ]
          go_wp2_with fail
          go_ret3
          exact ⟨.slice none 0 0, by (try rw [HT2.out]); (try rfl), by rw [HT.out]; exact SlV.nil _, NewV.nil _, Bx⟩
      · obtain ⟨g, cap', hv, hg, hOg, hc1', hc2'⟩ := hO.out.own (by rw [upto_length]; omega)
        rw [upto_length] at hv hc1'
        subst hv
        have HOg := Lib.hid hOg
        clear hOg hO hv0 hB
        unfold maxLen at hc2'
        have hsep : Hid (∀ b o, a = some ⟨b, o, none⟩ → b ≠ g) := fun b o e => by
          obtain ⟨b', o', e', hlt', _⟩ := HS2.out.at (by omega)
          rw [e] at e'
          cases e'
          omega
        have hge : Hid (w.heap.size ≠ g) := by show _ ≠ _; have := HB.out.size; omega
        refine (sortStable_any g k cap' k (upto k) (shKey zs) ⟨w.heap.size, 0, none⟩ _ (upto_length k) HOg.out (fun i hi => by rw [upto_length] at hi; rw [upto_getD hi]; omega)
          (fun w' ht => top1_any a k cap zs w.heap.size w' (ht.sl HS3.out hsep.out) (ht.cell cx hge.out) (by omega)) (by omega) (by omega) (fun i j hij hj => by rw [upto_getD (by omega), upto_getD hj]; omega)).mono ?_
        rintro e w3 ⟨rfl, l, hp1, hp2, hp3, hp4⟩
        have hL : l = topAll zs := topAll_unique (by rw [HLN.out]; exact hp1) (by rw [HLN.out]; exact hp2)
        subst hL
        have HOl := Lib.hid hp3
        have HB3 := Lib.hid (hp4.below Bx (by have := HB.out.size; omega) Bx.size)
        have HS4 := Lib.hid (hp4.sl HS3.out hsep.out)
        have cy := hp4.cell cx hge.out
        have ly := Nat.lt_of_lt_of_le lx hp4.size
        have hgl := HOl.out.lt
        clear hp1 hp2 hp3 hp4
        by_cases hck : c < k
        · have hK : Hid (topL zs c = (topAll zs).take c) := rfl
          go_wp2_with fail
          go_loop [9, 42] (fun u v => ∃ j : Nat, ∃ S : Int, j ≤ c ∧ v = .int .i64 j ∧ u = .int .i64 S ∧ 0 ≤ S ∧ S ≤ 400 * (j : Int) ∧ Hid ((atL zs ((topAll zs).take j)).sum = S)) (fun _ v => c - (intOf v).toNat)
          case atStart => exact ⟨0, 0, Nat.zero_le _, rfl, rfl, by omega, by omega, by show _ = _; simp [atL]⟩
          case round =>
            obtain ⟨j, S, hj, rfl, rfl, hS1, hS2, hS3⟩ := hrel
            by_cases hjl : j < c
            · have hjn : j < (topAll zs).length := by rw [topAll_length, HLN.out]; omega
              have cl := HOl.out.cell (i := j) hjn
              have hmem : (topAll zs).getD j 0 ∈ topAll zs := by simp [List.getD, hjn]
              obtain ⟨m1, m2⟩ := topAll_mem.1 hmem
              obtain ⟨i, hi⟩ := Int.eq_ofNat_of_zero_le m1
              rw [hi] at cl m2
              rw [HLN.out] at m2
              obtain ⟨b, off, z, hab, hbl, cz, hz, _, hzm⟩ := HS4.out.get (i := i) (by omega)
              subst hab
              have hz2 := HIN.out z hzm.out
              obtain ⟨z1, z2⟩ := hz2
              have HI := Lib.hid hi
              have hnx : Hid ((atL zs ((topAll zs).take (j + 1))).sum = S + z) := by
                show _ = _
                rw [atL_take_succ hjn, hS3.out, HI.out, Int.toNat_natCast, hz.out]
              clear hi hmem m1
              go_wp2_with fail
              go_round
              case rel => exact ⟨j + 1, S + z, by omega, by go_num, rfl, by omega, by omega, hnx.out⟩
              case measure => simp [intOf]; omega
            · obtain rfl : c = j := by omega
              go_wp2_with fail
              go_ret3
              refine ⟨.slice (some ⟨g, 0, none⟩) c cap', ?_, ?_, NewV.at (by have := HB2.size; omega), HB3.out⟩
              · have : topS zs c = S := by unfold topS; rw [hK.out]; exact hS3.out
                (try rw [this]); (try rfl)
              · rw [hK.out]
                have hlen : ((topAll zs).take c).length = c := by rw [List.length_take, topAll_length, HLN.out]; omega
                exact ⟨_, cap', by rw [hlen], by rw [hlen]; exact (HOl.out.take c).sl hlen, by omega, by unfold maxLen; omega⟩
        · have hK : Hid (topL zs c = (topAll zs).take k) := by
            show topL zs c = _
            unfold topL
            rw [List.take_of_length_le (by rw [topAll_length, HLN.out]; omega), List.take_of_length_le (by rw [topAll_length, HLN.out]; omega)]
          obtain rfl | hkc : k = c ∨ k < c := by omega
          ·
            go_wp2_with fail
            go_loop [9, 42] (fun u v => ∃ j : Nat, ∃ S : Int, j ≤ k ∧ v = .int .i64 j ∧ u = .int .i64 S ∧ 0 ≤ S ∧ S ≤ 400 * (j : Int) ∧ Hid ((atL zs ((topAll zs).take j)).sum = S)) (fun _ v => k - (intOf v).toNat)
            case atStart => exact ⟨0, 0, Nat.zero_le _, rfl, rfl, by omega, by omega, by show _ = _; simp [atL]⟩
            case round =>
              obtain ⟨j, S, hj, rfl, rfl, hS1, hS2, hS3⟩ := hrel
              by_cases hjl : j < k
              · have hjn : j < (topAll zs).length := by rw [topAll_length, HLN.out]; omega
                have cl := HOl.out.cell (i := j) hjn
                have hmem : (topAll zs).getD j 0 ∈ topAll zs := by simp [List.getD, hjn]
                obtain ⟨m1, m2⟩ := topAll_mem.1 hmem
                obtain ⟨i, hi⟩ := Int.eq_ofNat_of_zero_le m1
                rw [hi] at cl m2
                rw [HLN.out] at m2
                obtain ⟨b, off, z, hab, hbl, cz, hz, _, hzm⟩ := HS4.out.get (i := i) (by omega)
                subst hab
                have hz2 := HIN.out z hzm.out
                obtain ⟨z1, z2⟩ := hz2
                have HI := Lib.hid hi
                have hnx : Hid ((atL zs ((topAll zs).take (j + 1))).sum = S + z) := by
                  show _ = _
                  rw [atL_take_succ hjn, hS3.out, HI.out, Int.toNat_natCast, hz.out]
                clear hi hmem m1
                go_wp2_with fail
                go_round
                case rel => exact ⟨j + 1, S + z, by omega, by go_num, rfl, by omega, by omega, hnx.out⟩
                case measure => simp [intOf]; omega
              · obtain rfl : k = j := by omega
                go_wp2_with fail
                go_ret3
                refine ⟨.slice (some ⟨g, 0, none⟩) k cap', ?_, ?_, NewV.at (by have := HB2.size; omega), HB3.out⟩
                · have : topS zs k = S := by unfold topS; rw [hK.out]; exact hS3.out
                  (try rw [this]); (try rfl)
                · rw [hK.out]
                  have hlen : ((topAll zs).take k).length = k := by rw [List.length_take, topAll_length, HLN.out]; omega
                  exact ⟨_, cap', by rw [hlen], by rw [hlen]; exact (HOl.out.take k).sl hlen, by omega, by unfold maxLen; omega⟩
          ·
            go_wp2_with fail
            go_loop [9, 42] (fun u v => ∃ j : Nat, ∃ S : Int, j ≤ k ∧ v = .int .i64 j ∧ u = .int .i64 S ∧ 0 ≤ S ∧ S ≤ 400 * (j : Int) ∧ Hid ((atL zs ((topAll zs).take j)).sum = S)) (fun _ v => k - (intOf v).toNat)
            case atStart => exact ⟨0, 0, Nat.zero_le _, rfl, rfl, by omega, by omega, by show _ = _; simp [atL]⟩
            case round =>
              obtain ⟨j, S, hj, rfl, rfl, hS1, hS2, hS3⟩ := hrel
              by_cases hjl : j < k
              · have hjn : j < (topAll zs).length := by rw [topAll_length, HLN.out]; omega
                have cl := HOl.out.cell (i := j) hjn
                have hmem : (topAll zs).getD j 0 ∈ topAll zs := by simp [List.getD, hjn]
                obtain ⟨m1, m2⟩ := topAll_mem.1 hmem
                obtain ⟨i, hi⟩ := Int.eq_ofNat_of_zero_le m1
                rw [hi] at cl m2
                rw [HLN.out] at m2
                obtain ⟨b, off, z, hab, hbl, cz, hz, _, hzm⟩ := HS4.out.get (i := i) (by omega)
                subst hab
                have hz2 := HIN.out z hzm.out
                obtain ⟨z1, z2⟩ := hz2
                have HI := Lib.hid hi
                have hnx : Hid ((atL zs ((topAll zs).take (j + 1))).sum = S + z) := by
                  show _ = _
                  rw [atL_take_succ hjn, hS3.out, HI.out, Int.toNat_natCast, hz.out]
                clear hi hmem m1
                go_wp2_with fail
                go_round
                case rel => exact ⟨j + 1, S + z, by omega, by go_num, rfl, by omega, by omega, hnx.out⟩
                case measure => simp [intOf]; omega
              · obtain rfl : k = j := by omega
                go_wp2_with fail
                go_ret3
                refine ⟨.slice (some ⟨g, 0, none⟩) k cap', ?_, ?_, NewV.at (by have := HB2.size; omega), HB3.out⟩
                · have : topS zs c = S := by unfold topS; rw [hK.out]; exact hS3.out
                  (try rw [this]); (try rfl)
                · rw [hK.out]
                  have hlen : ((topAll zs).take k).length = k := by rw [List.length_take, topAll_length, HLN.out]; omega
                  exact ⟨_, cap', by rw [hlen], by rw [hlen]; exact (HOl.out.take k).sl hlen, by omega, by unfold maxLen; omega⟩

end Go.Proofs.Ytdijdfhlmnhcjaa
