/-
  Texts built as one: XTopB, XTopC, XOwnS.
-/
import Derived.Test.YtdijdfhlmnhcjaaMSrt
import Derived.Test.YtdijdfhlmnhcjaaTopA
import Derived.Test.YtdijdfhlmnhcjaaOwnV
import Derived.Test.YtdijdfhlmnhcjaaShareA
import Derived.Deep.RegionLawGrows
namespace Go.Proofs.Ytdijdfhlmnhcjaa

section
set_option linter.unusedSimpArgs false
set_option linter.unusedVariables false
open Go.RowKit

theorem cmpI_flip (a b : Int) : cmpI b a = cmpI (-a) (-b) := by
  have h1 : (b < a) = (-a < -b) := by simp
  have h2 : (a < b) = (-b < -a) := by simp
  unfold cmpI; simp only [h1, h2]

set_option maxRecDepth 100000 in
set_option maxHeartbeats 1600000 in
theorem top1_any (a : Option Addr) (n cap : Nat) (zs : List Int) (p : Nat) (w : World) (hs : SlI w a n zs) (hp : w.cell? ⟨p, 0, none⟩ = some (.slice a n cap)) (hm : n ≤ 1000000) :
    CmpAt 45 (shKey zs) n ⟨p, 0, none⟩ w := by
  intro x y x1 x2 y1 y2
  obtain ⟨i, rfl⟩ := Int.eq_ofNat_of_zero_le x1
  obtain ⟨j, rfl⟩ := Int.eq_ofNat_of_zero_le y1
  obtain ⟨b, off, zx, ha, hb, c1, g1, _, _⟩ := hs.get (i := i) (by omega)
  obtain ⟨b', off', zy, ha', hb', c2, g2, _, _⟩ := hs.get (i := j) (by omega)
  rw [ha] at ha'
  cases ha'
  subst ha
  have e : Hid (cmpI (shKey zs i) (shKey zs j) = cmpI zy zx) := by
    show _ = _
    unfold shKey
    rw [cmpI_flip zx zy]
    simp only [Int.toNat_natCast]
    rw [g1.out, g2.out]
  rw [e.out]
  clear g1 g2 hs
  go_enter Try.func45, Try.ntmps45
  go_wp2_with fail
  go_quiet ((go_at_call 46; exact Calls.quiet_of_same ((compare_int _ _ _).mono fun _ _ h => ⟨h.1, h.2.symm⟩)))
  go_wp2_with fail
  go_ret
  exact ⟨rfl, _, rfl⟩

set_option maxHeartbeats 800000 in
theorem insertion_nil (w : World) (f : Value) : Calls Try.prog 66 #[.slice none 0 0, .int .i64 0, .int .i64 0, f] w fun e w' => e = .returned (.tuple #[]) ∧ w = w' := by
  go_enter Try.func66, Try.ntmps66
  go_wp2_with fail
  refine wp_loop_rounds 1 ?_
  rw [rounds_succ]
  go_wp2_with fail
  go_end0
  exact ⟨rfl, rfl⟩
set_option maxHeartbeats 800000 in
theorem stable_nil (w : World) (f : Value) : Calls Try.prog 62 #[.slice none 0 0, .int .i64 0, f] w fun e w' => e = .returned (.tuple #[]) ∧ w = w' := by
  go_enter Try.func62, Try.ntmps62
  go_wp2_with fail
  refine wp_loop_rounds 1 ?_
  rw [rounds_succ]
  go_wp2_with (go_at_call 66; refine (insertion_nil _ _).mono ?_; rintro e w' ⟨rfl, rfl⟩)
  refine wp_loop_rounds 1 ?_
  rw [rounds_succ]
  go_wp2_with fail
  go_end0
  exact ⟨rfl, rfl⟩
set_option maxHeartbeats 800000 in
theorem sortStable_nil (w : World) (f : Value) : Calls Try.prog 44 #[.slice none 0 0, f] w fun e w' => e = .returned (.tuple #[]) ∧ w = w' := by
  go_enter Try.func44, Try.ntmps44
  go_wp2_with (go_at_call 62; refine (stable_nil _ _).mono ?_; rintro e w' ⟨rfl, rfl⟩)
  go_end0
  exact ⟨rfl, rfl⟩

end

section
set_option linter.unusedSimpArgs false
set_option linter.unusedVariables false
open Go.RowKit

theorem sharesB_in {zs : List Int} (h : sharesB zs = true) : zs.length ≤ 30 ∧ shIn zs := by
  unfold sharesB at h
  simp only [Bool.and_eq_true, decide_eq_true_eq, Bool.not_eq_true', List.any_eq_false] at h
  refine ⟨h.1, fun z hz => ?_⟩
  have := h.2 z hz
  simp [outB] at this
  omega

/-- What Top returns. -/
def TopOk (zs : List Int) (cut : Int) : Prop := sharesB zs = true ∧ 0 ≤ cut ∧ cut ≤ 30
instance (zs : List Int) (cut : Int) : Decidable (TopOk zs cut) := by unfold TopOk; exact inferInstance

set_option maxRecDepth 100000 in
set_option maxHeartbeats 1600000 in
theorem top_not (a : Option Addr) (n cap : Nat) (zs : List Int) (cut : Int) (w : World) (hm : n ≤ 9223372036854775807) (hs : SlI w a n zs) (h : ¬ TopOk zs cut) :
    Calls Try.prog 24 #[.slice a n cap, .int .i64 cut] w fun e w' => e = .returned (.tuple #[.int .i64 0, .slice none 0 0, .int .i64 1]) ∧ Below w.heap.size w w' := by
  have HS := Lib.hid (hs.below ((Below.refl _ w).alloc (Nat.le_refl _) (.cells #[.slice a n cap] 23)))
  clear hs
  cases hb : sharesB zs with
  | false =>
    clear h
    go_enter Try.func24, Try.ntmps24
    go_wp2_with fail
    refine (areShares_any _ _ _ zs _ hm HS.out).mono ?_
    rintro e w1 ⟨rfl, hb1⟩
    have HB1 : Below w.heap.size w w1 := by (repeat' (first | (with_reducible exact Below.refl _ _) | (with_reducible assumption) | (with_reducible exact Bw.out (by with_reducible assumption)) | (with_reducible refine bw_alloc ?_ _) | (with_reducible refine bw_step ?_ (by with_reducible assumption)) | (with_reducible refine Below.alloc ?_ ?_ _) | (with_reducible refine Below.drew ?_) | (with_reducible refine below_drewN ?_ _) | (with_reducible refine Below.setCell ?_ ?_ _) | (with_reducible refine below_step ?_ (by with_reducible assumption) ?_) | (with_reducible exact Nat.le_refl _) | omega | (simp; omega) | (simp; done)))
    go_wp2_with fail
    go_ret3
    refine ⟨rfl, ?_⟩
    (repeat' (first | (with_reducible exact Below.refl _ _) | (with_reducible assumption) | (with_reducible exact Bw.out (by with_reducible assumption)) | (with_reducible refine bw_alloc ?_ _) | (with_reducible refine bw_step ?_ (by with_reducible assumption)) | (with_reducible refine Below.alloc ?_ ?_ _) | (with_reducible refine Below.drew ?_) | (with_reducible refine below_drewN ?_ _) | (with_reducible refine Below.setCell ?_ ?_ _) | (with_reducible refine below_step ?_ (by with_reducible assumption) ?_) | (with_reducible exact Nat.le_refl _) | omega | (simp; omega) | (simp; done)))
  | true =>
    have ho : outB 30 cut = true := outB_true (fun hh => h ⟨hb, hh.1, hh.2⟩)
    clear h
    go_enter Try.func24, Try.ntmps24
    go_wp2_with fail
    refine (areShares_any _ _ _ zs _ hm HS.out).mono ?_
    rintro e w1 ⟨rfl, hb1⟩
    have HB1 : Below w.heap.size w w1 := by (repeat' (first | (with_reducible exact Below.refl _ _) | (with_reducible assumption) | (with_reducible exact Bw.out (by with_reducible assumption)) | (with_reducible refine bw_alloc ?_ _) | (with_reducible refine bw_step ?_ (by with_reducible assumption)) | (with_reducible refine Below.alloc ?_ ?_ _) | (with_reducible refine Below.drew ?_) | (with_reducible refine below_drewN ?_ _) | (with_reducible refine Below.setCell ?_ ?_ _) | (with_reducible refine below_step ?_ (by with_reducible assumption) ?_) | (with_reducible exact Nat.le_refl _) | omega | (simp; omega) | (simp; done)))
    go_wp2_with fail
    refine (within_one 30 cut _ _ (by (repeat' (first | (with_reducible assumption) | (with_reducible refine Row.new' _ _ _ (by first | rfl | (simp; done) | omega)) | (with_reducible refine Row.alloc ?_ _) | (with_reducible refine Row.drew ?_) | (with_reducible refine Row.drewN ?_ _) | (with_reducible refine Row.step ?_ (by with_reducible assumption)))))).mono ?_
    rintro e w2 ⟨rfl, hb2⟩
    have HB2 : Below w.heap.size w w2 := by (repeat' (first | (with_reducible exact Below.refl _ _) | (with_reducible assumption) | (with_reducible exact Bw.out (by with_reducible assumption)) | (with_reducible refine bw_alloc ?_ _) | (with_reducible refine bw_step ?_ (by with_reducible assumption)) | (with_reducible refine Below.alloc ?_ ?_ _) | (with_reducible refine Below.drew ?_) | (with_reducible refine below_drewN ?_ _) | (with_reducible refine Below.setCell ?_ ?_ _) | (with_reducible refine below_step ?_ (by with_reducible assumption) ?_) | (with_reducible exact Nat.le_refl _) | omega | (simp; omega) | (simp; done)))
    clear hb1 HB1
    go_wp2_with fail
    go_ret3
    refine ⟨rfl, ?_⟩
    (repeat' (first | (with_reducible exact Below.refl _ _) | (with_reducible assumption) | (with_reducible exact Bw.out (by with_reducible assumption)) | (with_reducible refine bw_alloc ?_ _) | (with_reducible refine bw_step ?_ (by with_reducible assumption)) | (with_reducible refine Below.alloc ?_ ?_ _) | (with_reducible refine Below.drew ?_) | (with_reducible refine below_drewN ?_ _) | (with_reducible refine Below.setCell ?_ ?_ _) | (with_reducible refine below_step ?_ (by with_reducible assumption) ?_) | (with_reducible exact Nat.le_refl _) | omega | (simp; omega) | (simp; done)))

set_option maxRecDepth 100000 in
set_option maxHeartbeats 3200000 in
theorem top_ok (a : Option Addr) (n cap : Nat) (zs : List Int) (cut : Int) (w : World) (hm : n ≤ 9223372036854775807) (hs : SlI w a n zs) (h : TopOk zs cut) :
    Calls Try.prog 24 #[.slice a n cap, .int .i64 cut] w
      fun e w' => ∃ v, e = .returned (.tuple #[.int .i64 (topS zs cut.toNat), v, .int .i64 0]) ∧ SlV w' v (topL zs cut.toNat) ∧ Below w.heap.size w w' := by
  obtain ⟨hb, hc1, hc2⟩ := h
  obtain ⟨c, rfl⟩ := Int.eq_ofNat_of_zero_le hc1
  rw [Int.toNat_natCast]
  have hc3 : c ≤ 30 := by omega
  obtain ⟨hl30, hin⟩ := sharesB_in hb
  have ho : outB 30 c = false := outB_false ⟨hc1, hc2⟩
  have hln := hs.1
  have hn30 : n ≤ 30 := by omega
  have HLN := Lib.hid hln
  have HIN := Lib.hid hin
  have HS := Lib.hid (hs.below ((Below.refl _ w).alloc (Nat.le_refl _) (.cells #[.slice a n cap] 23)))
  clear hs hln hin hl30
  go_enter Try.func24, Try.ntmps24
  go_wp2_with fail
  refine (areShares_any _ _ _ zs _ hm HS.out).mono ?_
  rintro e w1 ⟨rfl, hb1⟩
  have R_sh_1 : Row w1 (w.heap.size) [.slice a n cap] := by (repeat' (first | (with_reducible assumption) | (with_reducible refine Row.new' _ _ _ (by first | rfl | (simp; done) | omega)) | (with_reducible refine Row.alloc ?_ _) | (with_reducible refine Row.drew ?_) | (with_reducible refine Row.drewN ?_ _) | (with_reducible refine Row.step ?_ (by with_reducible assumption)) | (with_reducible refine Row.set2' ?_ _ _; first | exact ⟨_, _, by with_reducible assumption⟩ | exact ⟨_, _, Row.alloc (by with_reducible assumption) _⟩ | exact ⟨_, _, Row.alloc (Row.alloc (by with_reducible assumption) _) _⟩) | (with_reducible refine Row.other ?_ (by first | omega | (simp; done) | (simp; omega)) _)))
  have c_sh_0_1 := R_sh_1.cell 0 rfl
  have l_sh_1 := R_sh_1.lt
  have HB1 : Below w.heap.size w w1 := by (repeat' (first | (with_reducible exact Below.refl _ _) | (with_reducible assumption) | (with_reducible exact Bw.out (by with_reducible assumption)) | (with_reducible refine bw_alloc ?_ _) | (with_reducible refine bw_step ?_ (by with_reducible assumption)) | (with_reducible refine Below.alloc ?_ ?_ _) | (with_reducible refine Below.drew ?_) | (with_reducible refine below_drewN ?_ _) | (with_reducible refine Below.setCell ?_ ?_ _) | (with_reducible refine below_step ?_ (by with_reducible assumption) ?_) | (with_reducible exact Nat.le_refl _) | omega | (simp; omega) | (simp; done)))
  have HS1 := Lib.hid (HS.out.below hb1)
  go_wp2_with fail
  refine (within_one 30 c _ _ (by (repeat' (first | (with_reducible assumption) | (with_reducible refine Row.new' _ _ _ (by first | rfl | (simp; done) | omega)) | (with_reducible refine Row.alloc ?_ _) | (with_reducible refine Row.drew ?_) | (with_reducible refine Row.drewN ?_ _) | (with_reducible refine Row.step ?_ (by with_reducible assumption)))))).mono ?_
  rintro e w2 ⟨rfl, hb2⟩
  have R_sh_2 : Row w2 (w.heap.size) [.slice a n cap] := by (repeat' (first | (with_reducible assumption) | (with_reducible refine Row.new' _ _ _ (by first | rfl | (simp; done) | omega)) | (with_reducible refine Row.alloc ?_ _) | (with_reducible refine Row.drew ?_) | (with_reducible refine Row.drewN ?_ _) | (with_reducible refine Row.step ?_ (by with_reducible assumption)) | (with_reducible refine Row.set2' ?_ _ _; first | exact ⟨_, _, by with_reducible assumption⟩ | exact ⟨_, _, Row.alloc (by with_reducible assumption) _⟩ | exact ⟨_, _, Row.alloc (Row.alloc (by with_reducible assumption) _) _⟩) | (with_reducible refine Row.other ?_ (by first | omega | (simp; done) | (simp; omega)) _)))
  have c_sh_0_2 := R_sh_2.cell 0 rfl
  have l_sh_2 := R_sh_2.lt
  have HB2 : Below w.heap.size w w2 := by (repeat' (first | (with_reducible exact Below.refl _ _) | (with_reducible assumption) | (with_reducible exact Bw.out (by with_reducible assumption)) | (with_reducible refine bw_alloc ?_ _) | (with_reducible refine bw_step ?_ (by with_reducible assumption)) | (with_reducible refine Below.alloc ?_ ?_ _) | (with_reducible refine Below.drew ?_) | (with_reducible refine below_drewN ?_ _) | (with_reducible refine Below.setCell ?_ ?_ _) | (with_reducible refine below_step ?_ (by with_reducible assumption) ?_) | (with_reducible exact Nat.le_refl _) | omega | (simp; omega) | (simp; done)))
  clear R_sh_1 c_sh_0_1 hb1 HB1
  have HS2 := Lib.hid ((HS1.out.below ((Below.refl _ w1).alloc (Nat.le_refl _) (.cells #[.int .i64 c] 3))).below hb2)
  go_wp2_with fail
  go_loopw [7, 23] (fun v u wr => ∃ k : Nat, k ≤ n ∧ u = .int .i64 k ∧ Hid (k = 0 → v = .slice none 0 0) ∧ Hid (OwnV wr w2.heap.size v (upto k)) ∧ Hid (Below w2.heap.size w2 wr)) (fun _ u _ => n - (intOf u).toNat)
  case atStart => exact ⟨0, Nat.zero_le _, rfl, fun _ => rfl, OwnV.nil _ _, Below.refl _ _⟩
  case round =>
    obtain ⟨k, hk, rfl, hv0, hO, hB⟩ := hrel
    by_cases hlt : k < n
    · go_wp2_with (at_builtin; refine wpList_append_int rfl _ _ _ rfl Try.underlying23 w2.heap.size _ (upto k) rfl (hO.out.alloc _) wr.heap.size 1 (k : Int) rfl (by simp [go_sem]) (by rw [upto_length]; omega) (by have := hB.out.size; simp; omega) ?_; intro v' w3 hown1 hbl1 hsz1)
      have H1 := Lib.hid hown1
      have H2 := Lib.hid (hbl1 w2 (hB.out.alloc hB.out.size _))
      clear hown1 hbl1
      go_wp2_with fail
      go_roundw
      case rel => exact ⟨k + 1, by omega, by go_num, fun h => by omega, by rw [upto_succ]; exact H1.out, H2.out⟩
      case measure => simp [intOf]; omega
    · obtain rfl : k = n := by omega
      have HB := Lib.hid hB.out
      have Bx : Below w.heap.size w wr := by have := HB.out; (repeat' (first | (with_reducible exact Below.refl _ _) | (with_reducible assumption) | (with_reducible exact Bw.out (by with_reducible assumption)) | (with_reducible refine bw_alloc ?_ _) | (with_reducible refine bw_step ?_ (by with_reducible assumption)) | (with_reducible refine Below.alloc ?_ ?_ _) | (with_reducible refine Below.drew ?_) | (with_reducible refine below_drewN ?_ _) | (with_reducible refine Below.setCell ?_ ?_ _) | (with_reducible refine below_step ?_ (by with_reducible assumption) ?_) | (with_reducible exact Nat.le_refl _) | omega | (simp; omega) | (simp; done)))
      have Rx : Row wr w.heap.size [.slice a k cap] := by have := HB.out; (repeat' (first | (with_reducible assumption) | (with_reducible refine Row.new' _ _ _ (by first | rfl | (simp; done) | omega)) | (with_reducible refine Row.alloc ?_ _) | (with_reducible refine Row.drew ?_) | (with_reducible refine Row.drewN ?_ _) | (with_reducible refine Row.step ?_ (by with_reducible assumption))))
      have cx := Rx.cell 0 rfl
      have lx := Rx.lt
      have HS3 := Lib.hid (HS2.out.below HB.out)
      go_wp2_with fail
      by_cases hn0 : k = 0
      · have HV := hv0.out hn0
        subst HV
        subst hn0
        obtain rfl : zs = [] := List.eq_nil_of_length_eq_zero HLN.out
        refine (sortStable_nil _ _).mono ?_
        rintro e w3 ⟨rfl, rfl⟩
        have hT : topL [] c = [] := by simp [topL, topAll, srtK, upto]
        have hT2 : topS [] c = 0 := by simp [topS, topL, topAll, srtK, upto, atL]
        have HT := Lib.hid hT
        have HT2 := Lib.hid hT2
        clear hT hT2
        rcases Nat.eq_zero_or_pos c with hz | hz
        · subst hz
          go_wp2_with fail
          refine wp_loop_rounds 1 ?_
          rw [rounds_succ]
          go_wp2_with fail
          go_ret3
          exact ⟨.slice none 0 0, by (try rw [HT2.out]); (try rfl), by rw [HT.out]; exact SlV.nil _, Bx⟩
        · go_wp2_with fail
          refine wp_loop_rounds 1 ?_
          rw [rounds_succ]
          go_wp2_with fail
          go_ret3
          exact ⟨.slice none 0 0, by (try rw [HT2.out]); (try rfl), by rw [HT.out]; exact SlV.nil _, Bx⟩
      · obtain ⟨g, cap', hv, hg, hOg, hc1', hc2'⟩ := hO.out.own (by rw [upto_length]; omega)
        rw [upto_length] at hv hc1'
        subst hv
        have HOg := Lib.hid hOg
        clear hOg hO hv0 hB
        unfold maxLen at hc2'
        have hsep : Hid (∀ b o, a = some ⟨b, o, none⟩ → b ≠ g) := fun b o e => by
          obtain ⟨b', o', e', hlt', _⟩ := HS2.out.at (by omega)
          rw [e] at e'
          cases e'
          omega
        have hge : Hid (w.heap.size ≠ g) := by show _ ≠ _; have := HB.out.size; omega
        refine (sortStable_any g k cap' k (upto k) (shKey zs) ⟨w.heap.size, 0, none⟩ _ (upto_length k) HOg.out (fun i hi => by rw [upto_length] at hi; rw [upto_getD hi]; omega)
          (fun w' ht => top1_any a k cap zs w.heap.size w' (ht.sl HS3.out hsep.out) (ht.cell cx hge.out) (by omega)) (by omega) (by omega) (fun i j hij hj => by rw [upto_getD (by omega), upto_getD hj]; omega)).mono ?_
        rintro e w3 ⟨rfl, l, hp1, hp2, hp3, hp4⟩
        have hL : l = topAll zs := topAll_unique (by rw [HLN.out]; exact hp1) (by rw [HLN.out]; exact hp2)
        subst hL
        have HOl := Lib.hid hp3
        have HB3 := Lib.hid (hp4.below Bx (by have := HB.out.size; omega) Bx.size)
        have HS4 := Lib.hid (hp4.sl HS3.out hsep.out)
        have cy := hp4.cell cx hge.out
        have ly := Nat.lt_of_lt_of_le lx hp4.size
        have hgl := HOl.out.lt
        clear hp1 hp2 hp3 hp4
        by_cases hck : c < k
        · have hK : Hid (topL zs c = (topAll zs).take c) := rfl
          go_wp2_with fail
          go_loop [9, 42] (fun u v => ∃ j : Nat, ∃ S : Int, j ≤ c ∧ v = .int .i64 j ∧ u = .int .i64 S ∧ 0 ≤ S ∧ S ≤ 400 * (j : Int) ∧ Hid ((atL zs ((topAll zs).take j)).sum = S)) (fun _ v => c - (intOf v).toNat)
          case atStart => exact ⟨0, 0, Nat.zero_le _, rfl, rfl, by omega, by omega, by show _ = _; simp [atL]⟩
          case round =>
            obtain ⟨j, S, hj, rfl, rfl, hS1, hS2, hS3⟩ := hrel
            by_cases hjl : j < c
            · have hjn : j < (topAll zs).length := by rw [topAll_length, HLN.out]; omega
              have cl := HOl.out.cell (i := j) hjn
              have hmem : (topAll zs).getD j 0 ∈ topAll zs := by simp [List.getD, hjn]
              obtain ⟨m1, m2⟩ := topAll_mem.1 hmem
              obtain ⟨i, hi⟩ := Int.eq_ofNat_of_zero_le m1
              rw [hi] at cl m2
              rw [HLN.out] at m2
              obtain ⟨b, off, z, hab, hbl, cz, hz, _, hzm⟩ := HS4.out.get (i := i) (by omega)
              subst hab
              have hz2 := HIN.out z hzm.out
              obtain ⟨z1, z2⟩ := hz2
              have HI := Lib.hid hi
              have hnx : Hid ((atL zs ((topAll zs).take (j + 1))).sum = S + z) := by
                show _ = _
                rw [atL_take_succ hjn, hS3.out, HI.out, Int.toNat_natCast, hz.out]
              clear hi hmem m1
              go_wp2_with fail
              go_round
              case rel => exact ⟨j + 1, S + z, by omega, by go_num, rfl, by omega, by omega, hnx.out⟩
              case measure => simp [intOf]; omega
            · obtain rfl : c = j := by omega
              go_wp2_with fail
              go_ret3
              refine ⟨.slice (some ⟨g, 0, none⟩) c cap', ?_, ?_, HB3.out⟩
              · have : topS zs c = S := by unfold topS; rw [hK.out]; exact hS3.out
                (try rw [this]); (try rfl)
              · rw [hK.out]
                have hlen : ((topAll zs).take c).length = c := by rw [List.length_take, topAll_length, HLN.out]; omega
                exact ⟨_, cap', by rw [hlen], by rw [hlen]; exact (HOl.out.take c).sl hlen, by omega, by unfold maxLen; omega⟩
        · have hK : Hid (topL zs c = (topAll zs).take k) := by
            show topL zs c = _
            unfold topL
            rw [List.take_of_length_le (by rw [topAll_length, HLN.out]; omega), List.take_of_length_le (by rw [topAll_length, HLN.out]; omega)]
          obtain rfl | hkc : k = c ∨ k < c := by omega
          ·
            go_wp2_with fail
            go_loop [9, 42] (fun u v => ∃ j : Nat, ∃ S : Int, j ≤ k ∧ v = .int .i64 j ∧ u = .int .i64 S ∧ 0 ≤ S ∧ S ≤ 400 * (j : Int) ∧ Hid ((atL zs ((topAll zs).take j)).sum = S)) (fun _ v => k - (intOf v).toNat)
            case atStart => exact ⟨0, 0, Nat.zero_le _, rfl, rfl, by omega, by omega, by show _ = _; simp [atL]⟩
            case round =>
              obtain ⟨j, S, hj, rfl, rfl, hS1, hS2, hS3⟩ := hrel
              by_cases hjl : j < k
              · have hjn : j < (topAll zs).length := by rw [topAll_length, HLN.out]; omega
                have cl := HOl.out.cell (i := j) hjn
                have hmem : (topAll zs).getD j 0 ∈ topAll zs := by simp [List.getD, hjn]
                obtain ⟨m1, m2⟩ := topAll_mem.1 hmem
                obtain ⟨i, hi⟩ := Int.eq_ofNat_of_zero_le m1
                rw [hi] at cl m2
                rw [HLN.out] at m2
                obtain ⟨b, off, z, hab, hbl, cz, hz, _, hzm⟩ := HS4.out.get (i := i) (by omega)
                subst hab
                have hz2 := HIN.out z hzm.out
                obtain ⟨z1, z2⟩ := hz2
                have HI := Lib.hid hi
                have hnx : Hid ((atL zs ((topAll zs).take (j + 1))).sum = S + z) := by
                  show _ = _
                  rw [atL_take_succ hjn, hS3.out, HI.out, Int.toNat_natCast, hz.out]
                clear hi hmem m1
                go_wp2_with fail
                go_round
                case rel => exact ⟨j + 1, S + z, by omega, by go_num, rfl, by omega, by omega, hnx.out⟩
                case measure => simp [intOf]; omega
              · obtain rfl : k = j := by omega
                go_wp2_with fail
                go_ret3
                refine ⟨.slice (some ⟨g, 0, none⟩) k cap', ?_, ?_, HB3.out⟩
                · have : topS zs k = S := by unfold topS; rw [hK.out]; exact hS3.out
                  (try rw [this]); (try rfl)
                · rw [hK.out]
                  have hlen : ((topAll zs).take k).length = k := by rw [List.length_take, topAll_length, HLN.out]; omega
                  exact ⟨_, cap', by rw [hlen], by rw [hlen]; exact (HOl.out.take k).sl hlen, by omega, by unfold maxLen; omega⟩
          ·
            go_wp2_with fail
            go_loop [9, 42] (fun u v => ∃ j : Nat, ∃ S : Int, j ≤ k ∧ v = .int .i64 j ∧ u = .int .i64 S ∧ 0 ≤ S ∧ S ≤ 400 * (j : Int) ∧ Hid ((atL zs ((topAll zs).take j)).sum = S)) (fun _ v => k - (intOf v).toNat)
            case atStart => exact ⟨0, 0, Nat.zero_le _, rfl, rfl, by omega, by omega, by show _ = _; simp [atL]⟩
            case round =>
              obtain ⟨j, S, hj, rfl, rfl, hS1, hS2, hS3⟩ := hrel
              by_cases hjl : j < k
              · have hjn : j < (topAll zs).length := by rw [topAll_length, HLN.out]; omega
                have cl := HOl.out.cell (i := j) hjn
                have hmem : (topAll zs).getD j 0 ∈ topAll zs := by simp [List.getD, hjn]
                obtain ⟨m1, m2⟩ := topAll_mem.1 hmem
                obtain ⟨i, hi⟩ := Int.eq_ofNat_of_zero_le m1
                rw [hi] at cl m2
                rw [HLN.out] at m2
                obtain ⟨b, off, z, hab, hbl, cz, hz, _, hzm⟩ := HS4.out.get (i := i) (by omega)
                subst hab
                have hz2 := HIN.out z hzm.out
                obtain ⟨z1, z2⟩ := hz2
                have HI := Lib.hid hi
                have hnx : Hid ((atL zs ((topAll zs).take (j + 1))).sum = S + z) := by
                  show _ = _
                  rw [atL_take_succ hjn, hS3.out, HI.out, Int.toNat_natCast, hz.out]
                clear hi hmem m1
                go_wp2_with fail
                go_round
                case rel => exact ⟨j + 1, S + z, by omega, by go_num, rfl, by omega, by omega, hnx.out⟩
                case measure => simp [intOf]; omega
              · obtain rfl : k = j := by omega
                go_wp2_with fail
                go_ret3
                refine ⟨.slice (some ⟨g, 0, none⟩) k cap', ?_, ?_, HB3.out⟩
                · have : topS zs c = S := by unfold topS; rw [hK.out]; exact hS3.out
                  (try rw [this]); (try rfl)
                · rw [hK.out]
                  have hlen : ((topAll zs).take k).length = k := by rw [List.length_take, topAll_length, HLN.out]; omega
                  exact ⟨_, cap', by rw [hlen], by rw [hlen]; exact (HOl.out.take k).sl hlen, by omega, by unfold maxLen; omega⟩

end

section
set_option linter.unusedSimpArgs false
set_option linter.unusedVariables false
open Go.RowKit

/-- The cells of a slice, as a list of values. -/
theorem SlI.cells {w : World} {a : Option Addr} {n : Nat} {zs : List Int} (h : SlI w a n zs) : ∀ b, a = some b → ∀ j u, (zs.map (Value.int .i64))[j]? = some u → w.cell? (b.add j) = some u := by
  intro b hb j u hu
  have hj : j < n := by
    have := (List.getElem?_eq_some_iff.1 hu).1
    simpa [h.1] using this
  obtain ⟨b', off, e, hc⟩ := h.2 j hj
  rw [hb] at e
  cases e
  rw [show (⟨b', off, none⟩ : Addr).add j = ⟨b', off + j, none⟩ by simp [Addr.add], hc]
  have hjz : j < zs.length := by rw [h.1]; exact hj
  simp [hjz] at hu
  simp [List.getD, hjz, hu]

/-- 'append' of one int to a full slice that came in: a new slice. -/
theorem step_grow_int {ops : Array Oper} {o : Oper} {a : Act} {w : World} {K : Act → World → Prop} {Q : Exit → Act → World → Prop} {E : Prop}
    (hg : o.guard = none) (s x : Operand) (t : TypeId) (hop : o.op = Op.call { callee := Callee.builtin Builtin.append, args := #[s, x], argTypes := #[t, t] }) (ht : Try.prog.underlying t = some (.slice 3))
    (ad : Addr) (n : Nat) (zs : List Int) (hs : a.eval s = .slice (some ad) n n) (hsl : SlI w (some ad) n zs) (g c : Nat) (z : Int) (hx : a.eval x = .slice (some ⟨g, 0, none⟩) 1 c) (hc : w.cell? ⟨g, 0, none⟩ = some (.int .i64 z)) (hn : n ≤ 1000000000000)
    (hK : ∀ v' w', OwnV w' w.heap.size v' (zs ++ [z]) → Below w.heap.size w w' → K (a.put o.dst v') w') :
    if Region.wanted o (yielded ops a.tmps) = true then Oper.wp Try.prog o a w K Q else E := by
  obtain ⟨i0, hi, hz0, hz1, hz2⟩ := info_parts info_int
  refine step_append_grows hg s x t hop 3 i0 (.int .i64 0) 1 8 ht hi hz0 hz1 hz2 rfl (by decide) (some ad) n n (zs.map (Value.int .i64)) hs (fun e => by cases e) (by simp [hsl.1]) (fun b e j u hu => hsl.cells b e j u hu)
    ⟨g, 0, none⟩ 1 c [.int .i64 z] hx rfl ?_ ?_ (by omega) (by unfold maxLen; omega) (by omega) ?_
  · intro j u hj
    cases j with
    | zero => simp at hj; subst hj; exact hc
    | succ j => simp at hj
  · intro u hu; simp at hu; subst hu; rfl
  · intro v' w' h1 h2
    refine hK v' w' ?_ ((Below.refl _ w).grown h2 (Nat.le_refl _) (fun k hk => by cases hk))
    unfold OwnV
    simpa [hsl.1] using h1

/-- 'append' of a slice of ints (it may be empty) to a slice of the call's own. -/
theorem step_own_ints {ops : Array Oper} {o : Oper} {a : Act} {w : World} {K : Act → World → Prop} {Q : Exit → Act → World → Prop} {E : Prop}
    (hg : o.guard = none) (s x : Operand) (t : TypeId) (hop : o.op = Op.call { callee := Callee.builtin Builtin.append, args := #[s, x], argTypes := #[t, t] }) (ht : Try.prog.underlying t = some (.slice 3))
    (base : Nat) (v : Value) (zs : List Int) (hs : a.eval s = v) (hown : OwnV w base v zs) (ad : Addr) (m c : Nat) (ys : List Int) (hx : a.eval x = .slice (some ad) m c) (hsl : SlI w (some ad) m ys)
    (hn : zs.length + m ≤ 1000000000000) (hbase : base ≤ w.heap.size)
    (hK : ∀ v' w', OwnV w' base v' (zs ++ ys) → (∀ w0, Below base w0 w → Below base w0 w') → w.heap.size ≤ w'.heap.size → K (a.put o.dst v') w') :
    if Region.wanted o (yielded ops a.tmps) = true then Oper.wp Try.prog o a w K Q else E := by
  obtain ⟨i0, hi, hz0, hz1, hz2⟩ := info_parts info_int
  have hw : Region.wanted o (yielded ops a.tmps) = true := by simp [Region.wanted, hg]
  rw [if_pos hw]
  obtain ⟨v', w', hrun, r1, r2, _⟩ := run_append_own (P := Try.prog) w base t o.type 3 i0 (.int .i64 0) 1 8 ht hi hz0 hz1 hz2 rfl (by decide) v zs.length (zs.map (Value.int .i64)) hown ad m c (ys.map (Value.int .i64)) (by simp [hsl.1]) (fun j u hu => hsl.cells ad rfl j u hu)
    (by intro u hu; simp at hu; obtain ⟨z, _, rfl⟩ := hu; rfl) (by unfold maxLen; omega) (by omega) hbase
  unfold Oper.wp
  simp [execOp, hop, resolve, invoke, builtin, hs, hx, hrun, Result.andThen]
  refine hK v' w' ?_ (fun w0 hb => hb.grown r2 hbase (fun k hk => (World.ownsRow.lt hown k hk).1)) r2.size
  unfold OwnV
  simpa [hsl.1] using r1

end

end Go.Proofs.Ytdijdfhlmnhcjaa
