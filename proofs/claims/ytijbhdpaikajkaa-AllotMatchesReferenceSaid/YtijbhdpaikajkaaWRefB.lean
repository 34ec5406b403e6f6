/-
  The walks of the reference implementation of worst: Nights; Promise where it returns no scene.
-/
import Derived.Test.YtijbhdpaikajkaaWRefA
import Derived.Test.YtijbhdpaikajkaaPromB
import Derived.Test.YtijbhdpaikajkaaWPlain
namespace Go.Proofs.Ytijbhdpaikajkaa
set_option linter.unusedSimpArgs false
set_option linter.unusedVariables false
open Go.RowKit

theorem R_Nights_not (a : Option Addr) (n cap : Nat) (l : List NightV) (c : Int) (w : World) (hm : n ≤ 9223372036854775807) (hs : SlN w a n l) (hB : (nightsB l && inB c 30) = false) :
    Calls Try.prog 37 #[.slice a n cap, .int .i64 c] w fun e w' => e = .returned (.tuple #[.slice none 0 0, .int .i64 1]) ∧ Below w.heap.size w w' := by
  have HS := Lib.hid hs
  obtain ⟨b1, h1⟩ : ∃ b, nightsB l = b := ⟨_, rfl⟩
  obtain ⟨b2, h2⟩ : ∃ b, inB c 30 = b := ⟨_, rfl⟩
  have H1 := Lib.hid h1
  have H2 := Lib.hid h2
  rw [h1, h2] at hB
  clear hs h1 h2
  cases b1 with
  | false =>
    go_enter Try.func37, Try.ntmps37
    go_wp2_with fail
    refine (R_valid_any _ _ _ l _ hm HS.out false H1.out).mono ?_
    rintro e w1 ⟨rfl, hb1⟩
    have HB1 : Below w.heap.size w w1 := by (repeat' (first | (with_reducible exact Below.refl _ _) | (with_reducible assumption) | (with_reducible exact Bw.out (by with_reducible assumption)) | (with_reducible refine bw_alloc ?_ _) | (with_reducible refine bw_step ?_ (by with_reducible assumption)) | (with_reducible refine Below.alloc ?_ ?_ _) | (with_reducible refine Below.drew ?_) | (with_reducible refine below_drewN ?_ _) | (with_reducible refine Below.setCell ?_ ?_ _) | (with_reducible refine below_step ?_ (by with_reducible assumption) ?_) | (with_reducible exact Nat.le_refl _) | omega | (simp; omega) | (simp; done)))
    go_wp2_with fail
    refine (R_Cut_any _ _).mono ?_
    rintro e w' ⟨rfl, rfl⟩
    rw [H2.out]
    go_wp2_with fail
    go_ret2
    refine ⟨rfl, ?_⟩
    (repeat' (first | (with_reducible exact Below.refl _ _) | (with_reducible assumption) | (with_reducible exact Bw.out (by with_reducible assumption)) | (with_reducible refine bw_alloc ?_ _) | (with_reducible refine bw_step ?_ (by with_reducible assumption)) | (with_reducible refine Below.alloc ?_ ?_ _) | (with_reducible refine Below.drew ?_) | (with_reducible refine below_drewN ?_ _) | (with_reducible refine Below.setCell ?_ ?_ _) | (with_reducible refine below_step ?_ (by with_reducible assumption) ?_) | (with_reducible exact Nat.le_refl _) | omega | (simp; omega) | (simp; done)))
  | true =>
    obtain rfl : b2 = false := by simpa using hB
    go_enter Try.func37, Try.ntmps37
    go_wp2_with fail
    refine (R_valid_any _ _ _ l _ hm HS.out true H1.out).mono ?_
    rintro e w1 ⟨rfl, hb1⟩
    have HB1 : Below w.heap.size w w1 := by (repeat' (first | (with_reducible exact Below.refl _ _) | (with_reducible assumption) | (with_reducible exact Bw.out (by with_reducible assumption)) | (with_reducible refine bw_alloc ?_ _) | (with_reducible refine bw_step ?_ (by with_reducible assumption)) | (with_reducible refine Below.alloc ?_ ?_ _) | (with_reducible refine Below.drew ?_) | (with_reducible refine below_drewN ?_ _) | (with_reducible refine Below.setCell ?_ ?_ _) | (with_reducible refine below_step ?_ (by with_reducible assumption) ?_) | (with_reducible exact Nat.le_refl _) | omega | (simp; omega) | (simp; done)))
    go_wp2_with fail
    refine (R_Cut_any _ _).mono ?_
    rintro e w' ⟨rfl, rfl⟩
    rw [H2.out]
    go_wp2_with fail
    go_ret2
    refine ⟨rfl, ?_⟩
    (repeat' (first | (with_reducible exact Below.refl _ _) | (with_reducible assumption) | (with_reducible exact Bw.out (by with_reducible assumption)) | (with_reducible refine bw_alloc ?_ _) | (with_reducible refine bw_step ?_ (by with_reducible assumption)) | (with_reducible refine Below.alloc ?_ ?_ _) | (with_reducible refine Below.drew ?_) | (with_reducible refine below_drewN ?_ _) | (with_reducible refine Below.setCell ?_ ?_ _) | (with_reducible refine below_step ?_ (by with_reducible assumption) ?_) | (with_reducible exact Nat.le_refl _) | omega | (simp; omega) | (simp; done)))

set_option maxRecDepth 100000 in
set_option maxHeartbeats 3200000 in
theorem R_Nights_any (a : Option Addr) (n cap : Nat) (l : List NightV) (c : Nat) (w : World) (hs : SlN w a n l) (hcaps : ∀ x ∈ l, x.n ≤ x.cap ∧ x.cap ≤ maxLen) (h : nightsB l = true) (hc : c ≤ 30) :
    Calls Try.prog 37 #[.slice a n cap, .int .i64 c] w fun e w' => ∃ v, e = .returned (.tuple #[v, .int .i64 0]) ∧ SlV w' v (l.map (wkN c)) ∧ Below w.heap.size w w' := by
  have hl := nightsB_len h
  have hn : n ≤ 366 := by have := hs.1; omega
  have HL := Lib.hid hs.1
  have HS := Lib.hid hs
  have HC := Lib.hid hcaps
  have HN := Lib.hid h
  have H2 := Lib.hid (inB_true (n := (c : Int)) (most := 30) (by omega) (by omega))
  clear hs hcaps h hl
  go_enter Try.func37, Try.ntmps37
  go_wp2_with fail
  refine (R_valid_any _ _ _ l _ (by omega) HS.out true HN.out).mono ?_
  rintro e w1 ⟨rfl, hb1⟩
  have HB1 : Below w.heap.size w w1 := by (repeat' (first | (with_reducible exact Below.refl _ _) | (with_reducible assumption) | (with_reducible exact Bw.out (by with_reducible assumption)) | (with_reducible refine bw_alloc ?_ _) | (with_reducible refine bw_step ?_ (by with_reducible assumption)) | (with_reducible refine Below.alloc ?_ ?_ _) | (with_reducible refine Below.drew ?_) | (with_reducible refine below_drewN ?_ _) | (with_reducible refine Below.setCell ?_ ?_ _) | (with_reducible refine below_step ?_ (by with_reducible assumption) ?_) | (with_reducible exact Nat.le_refl _) | omega | (simp; omega) | (simp; done)))
  go_wp2_with fail
  refine (R_Cut_any _ _).mono ?_
  rintro e w' ⟨rfl, rfl⟩
  rw [H2.out]
  have HB1' := Lib.hid HB1
  go_wp2_with fail
  go_loopw [8, 9] (fun v i wr => ∃ (k : Nat) (ad : Option Addr) (cp : Nat), k ≤ n ∧ i = .int .i64 k ∧ v = .slice ad k cp ∧ Hid (OwnV wr w.heap.size (.slice ad k cp) ((l.take k).map (wkN c))) ∧ Bw w.heap.size w wr) (fun _ i _ => n - (intOf i).toNat)
  case atStart => exact ⟨0, none, 0, Nat.zero_le _, rfl, rfl, by show OwnV _ _ _ _; rw [List.take_zero]; exact OwnV.nil _ _, by show Below _ _ _; exact HB1'.out⟩
  case round =>
    obtain ⟨k, ad, cp, hk, rfl, rfl, hO, hB⟩ := hrel
    have hB' := hB.out
    by_cases hlt : k < n
    · obtain ⟨x, b, off, hx, hd, hin, rfl, hb, c0, c1, c2⟩ := (HS.out.below hB').get hlt
      obtain ⟨q1, q2⟩ := HC.out x (List.mem_of_getElem? hx)
      have hnx := nightsB_at HN.out hx
      have KX := Lib.hid (hin.2.c q1 q2)
      have HT : Hid ((l.take (k + 1)).map (wkN c) = (l.take k).map (wkN c) ++ [wkI x.rooms x.sold x.zs c]) := by
        show _ = _
        rw [List.take_add_one, hx]; simp [wkN]
      have HLk : Hid (((l.take k).map (wkN c)).length = k) := by
        show _ = _
        rw [List.length_map, List.length_take, HL.out]; omega
      have i1 : (0 : Int) ≤ (k : Int) := by omega
      have i2 : (k : Int) < (n : Int) := by omega
      have HB3 := Lib.hid hB'
      clear hx hd hin q1 q2 hB hB'
      go_wp2_with fail
      refine (R_walked_any x.rooms x.sold c _ _ _ x.zs _ KX.out hnx hc).mono ?_
      rintro e w4 ⟨rfl, hb4⟩
      have HO4 := Lib.hid (hO.out.step hb4)
      have HB5 := Lib.hid (bw_step HB3.out hb4)
      clear hb4
      go_wp2_with (at_builtin; refine wpList_append_int rfl _ _ _ rfl Try.underlying22 w.heap.size _ ((l.take k).map (wkN c)) rfl (HO4.out.alloc _) w4.heap.size 1 _ rfl ((Row.new' w4 [_] _ rfl).cell 0 rfl) (by rw [HLk.out]; omega) (by have := HB5.out.size; simp; omega) ?_; intro v' w5 hown1 hbl1 hsz1)
      have H7 := Lib.hid (hbl1 w (Below.alloc HB5.out (by simpa using HB5.out.size) _))
      rw [← HT.out] at hown1
      obtain ⟨ad3, cp3, rfl, ho3⟩ := hown1.form (k + 1) (by rw [List.length_map, List.length_take, HL.out]; omega)
      have H1 := Lib.hid ho3
      clear hown1 hbl1 ho3
      go_wp2_with fail
      go_roundw
      case rel => exact ⟨k + 1, ad3, cp3, by omega, by go_num, rfl, H1.out, H7.out⟩
      case measure => simp [intOf]; omega
    · obtain rfl : k = n := by omega
      have HV : Hid (SlV wr (.slice ad k cp) (l.map (wkN c))) := by
        have := hO.out.sl
        rwa [List.take_of_length_le (by rw [HL.out]; omega)] at this
      go_wp2_with fail
      go_ret2
      exact ⟨_, rfl, HV.out, hB'⟩

abbrev noScene : Value := .agg #[.int .i64 0, .int .i64 0, .slice none 0 0, .slice none 0 0]
set_option maxRecDepth 100000 in
set_option maxHeartbeats 3200000 in
theorem R_Promise_arg (a : Option Addr) (n cap : Nat) (l : List NightV) (c most : Int) (w : World) (hm : n ≤ 9223372036854775807) (hs : SlN w a n l) (hB : (nightsB l && inB c 30 && inB most 1000) = false) :
    Calls Try.prog 40 #[.slice a n cap, .int .i64 c, .int .i64 most] w
      fun e w' => e = .returned (.tuple #[.agg #[.int .i64 0, .int .i64 0, .slice none 0 0, .slice none 0 0], .bool false, .int .i64 1]) ∧ Below w.heap.size w w' := by
  have HS := Lib.hid hs
  obtain ⟨b1, h1⟩ : ∃ b, nightsB l = b := ⟨_, rfl⟩
  obtain ⟨b2, h2⟩ : ∃ b, inB c 30 = b := ⟨_, rfl⟩
  obtain ⟨b3, h3⟩ : ∃ b, inB most 1000 = b := ⟨_, rfl⟩
  have H1 := Lib.hid h1
  have H2 := Lib.hid h2
  have H3 := Lib.hid h3
  rw [h1, h2, h3] at hB
  clear hs h1 h2 h3
  cases b1 with
  | false =>
    go_enter Try.func40, Try.ntmps40
    go_wp2_with fail
    refine (R_valid_any _ _ _ l _ hm (HS.out.below (by (repeat' (first | (with_reducible exact Below.refl _ _) | (with_reducible assumption) | (with_reducible exact Bw.out (by with_reducible assumption)) | (with_reducible refine bw_alloc ?_ _) | (with_reducible refine bw_step ?_ (by with_reducible assumption)) | (with_reducible refine Below.alloc ?_ ?_ _) | (with_reducible refine Below.drew ?_) | (with_reducible refine below_drewN ?_ _) | (with_reducible refine Below.setCell ?_ ?_ _) | (with_reducible refine below_step ?_ (by with_reducible assumption) ?_) | (with_reducible exact Nat.le_refl _) | omega | (simp; omega) | (simp; done))))) false H1.out).mono ?_
    rintro e w1 ⟨rfl, hb1⟩
    have R_r_1 : Row w1 (w.heap.size) [.int .i64 (0), .int .i64 (0), .slice none 0 0, .slice none 0 0] := by (repeat' (first | (with_reducible assumption) | (with_reducible refine Row.new' _ _ _ (by first | rfl | (simp; done) | omega)) | (with_reducible refine Row.alloc ?_ _) | (with_reducible refine Row.drew ?_) | (with_reducible refine Row.drewN ?_ _) | (with_reducible refine Row.step ?_ (by with_reducible assumption)) | (with_reducible refine Row.set2' ?_ _ _; first | exact ⟨_, _, by with_reducible assumption⟩ | exact ⟨_, _, Row.alloc (by with_reducible assumption) _⟩ | exact ⟨_, _, Row.alloc (Row.alloc (by with_reducible assumption) _) _⟩) | (with_reducible refine Row.other ?_ (by first | omega | (simp; done) | (simp; omega)) _)))
    have c_r_0_1 := R_r_1.cell 0 rfl
    have c_r_1_1 := R_r_1.cell 1 rfl
    have c_r_2_1 := R_r_1.cell 2 rfl
    have c_r_3_1 := R_r_1.cell 3 rfl
    have z_r_0_1 := R_r_1.frozen 0
    have z_r_1_1 := R_r_1.frozen 1
    have z_r_2_1 := R_r_1.frozen 2
    have z_r_3_1 := R_r_1.frozen 3
    have l_r_1 := R_r_1.lt
    have HB1 : Below w.heap.size w w1 := by (repeat' (first | (with_reducible exact Below.refl _ _) | (with_reducible assumption) | (with_reducible exact Bw.out (by with_reducible assumption)) | (with_reducible refine bw_alloc ?_ _) | (with_reducible refine bw_step ?_ (by with_reducible assumption)) | (with_reducible refine Below.alloc ?_ ?_ _) | (with_reducible refine Below.drew ?_) | (with_reducible refine below_drewN ?_ _) | (with_reducible refine Below.setCell ?_ ?_ _) | (with_reducible refine below_step ?_ (by with_reducible assumption) ?_) | (with_reducible exact Nat.le_refl _) | omega | (simp; omega) | (simp; done)))
    go_wp2_with fail
    refine (R_Cut_any _ _).mono ?_
    rintro e w' ⟨rfl, rfl⟩
    rw [H2.out]
    go_wp2_with fail
    refine bodyPost_ret (v := .tuple #[.agg #[.int .i64 0, .int .i64 0, .slice none 0 0, .slice none 0 0], .bool false, .int .i64 1]) (by simp [results, Try.results40, go_sem, c_r_0_1, c_r_1_1, c_r_2_1, c_r_3_1, l_r_1]) rfl ⟨rfl, ?_⟩
    (repeat' (first | (with_reducible exact Below.refl _ _) | (with_reducible assumption) | (with_reducible exact Bw.out (by with_reducible assumption)) | (with_reducible refine bw_alloc ?_ _) | (with_reducible refine bw_step ?_ (by with_reducible assumption)) | (with_reducible refine Below.alloc ?_ ?_ _) | (with_reducible refine Below.drew ?_) | (with_reducible refine below_drewN ?_ _) | (with_reducible refine Below.setCell ?_ ?_ _) | (with_reducible refine below_step ?_ (by with_reducible assumption) ?_) | (with_reducible exact Nat.le_refl _) | omega | (simp; omega) | (simp; done)))
  | true =>
    cases b2 with
    | false =>
      go_enter Try.func40, Try.ntmps40
      go_wp2_with fail
      refine (R_valid_any _ _ _ l _ hm (HS.out.below (by (repeat' (first | (with_reducible exact Below.refl _ _) | (with_reducible assumption) | (with_reducible exact Bw.out (by with_reducible assumption)) | (with_reducible refine bw_alloc ?_ _) | (with_reducible refine bw_step ?_ (by with_reducible assumption)) | (with_reducible refine Below.alloc ?_ ?_ _) | (with_reducible refine Below.drew ?_) | (with_reducible refine below_drewN ?_ _) | (with_reducible refine Below.setCell ?_ ?_ _) | (with_reducible refine below_step ?_ (by with_reducible assumption) ?_) | (with_reducible exact Nat.le_refl _) | omega | (simp; omega) | (simp; done))))) true H1.out).mono ?_
      rintro e w1 ⟨rfl, hb1⟩
      have R_r_1 : Row w1 (w.heap.size) [.int .i64 (0), .int .i64 (0), .slice none 0 0, .slice none 0 0] := by (repeat' (first | (with_reducible assumption) | (with_reducible refine Row.new' _ _ _ (by first | rfl | (simp; done) | omega)) | (with_reducible refine Row.alloc ?_ _) | (with_reducible refine Row.drew ?_) | (with_reducible refine Row.drewN ?_ _) | (with_reducible refine Row.step ?_ (by with_reducible assumption)) | (with_reducible refine Row.set2' ?_ _ _; first | exact ⟨_, _, by with_reducible assumption⟩ | exact ⟨_, _, Row.alloc (by with_reducible assumption) _⟩ | exact ⟨_, _, Row.alloc (Row.alloc (by with_reducible assumption) _) _⟩) | (with_reducible refine Row.other ?_ (by first | omega | (simp; done) | (simp; omega)) _)))
      have c_r_0_1 := R_r_1.cell 0 rfl
      have c_r_1_1 := R_r_1.cell 1 rfl
      have c_r_2_1 := R_r_1.cell 2 rfl
      have c_r_3_1 := R_r_1.cell 3 rfl
      have z_r_0_1 := R_r_1.frozen 0
      have z_r_1_1 := R_r_1.frozen 1
      have z_r_2_1 := R_r_1.frozen 2
      have z_r_3_1 := R_r_1.frozen 3
      have l_r_1 := R_r_1.lt
      have HB1 : Below w.heap.size w w1 := by (repeat' (first | (with_reducible exact Below.refl _ _) | (with_reducible assumption) | (with_reducible exact Bw.out (by with_reducible assumption)) | (with_reducible refine bw_alloc ?_ _) | (with_reducible refine bw_step ?_ (by with_reducible assumption)) | (with_reducible refine Below.alloc ?_ ?_ _) | (with_reducible refine Below.drew ?_) | (with_reducible refine below_drewN ?_ _) | (with_reducible refine Below.setCell ?_ ?_ _) | (with_reducible refine below_step ?_ (by with_reducible assumption) ?_) | (with_reducible exact Nat.le_refl _) | omega | (simp; omega) | (simp; done)))
      go_wp2_with fail
      refine (R_Cut_any _ _).mono ?_
      rintro e w' ⟨rfl, rfl⟩
      rw [H2.out]
      go_wp2_with fail
      refine bodyPost_ret (v := .tuple #[.agg #[.int .i64 0, .int .i64 0, .slice none 0 0, .slice none 0 0], .bool false, .int .i64 1]) (by simp [results, Try.results40, go_sem, c_r_0_1, c_r_1_1, c_r_2_1, c_r_3_1, l_r_1]) rfl ⟨rfl, ?_⟩
      (repeat' (first | (with_reducible exact Below.refl _ _) | (with_reducible assumption) | (with_reducible exact Bw.out (by with_reducible assumption)) | (with_reducible refine bw_alloc ?_ _) | (with_reducible refine bw_step ?_ (by with_reducible assumption)) | (with_reducible refine Below.alloc ?_ ?_ _) | (with_reducible refine Below.drew ?_) | (with_reducible refine below_drewN ?_ _) | (with_reducible refine Below.setCell ?_ ?_ _) | (with_reducible refine below_step ?_ (by with_reducible assumption) ?_) | (with_reducible exact Nat.le_refl _) | omega | (simp; omega) | (simp; done)))
    | true =>
      obtain rfl : b3 = false := by simpa using hB
      go_enter Try.func40, Try.ntmps40
      go_wp2_with fail
      refine (R_valid_any _ _ _ l _ hm (HS.out.below (by (repeat' (first | (with_reducible exact Below.refl _ _) | (with_reducible assumption) | (with_reducible exact Bw.out (by with_reducible assumption)) | (with_reducible refine bw_alloc ?_ _) | (with_reducible refine bw_step ?_ (by with_reducible assumption)) | (with_reducible refine Below.alloc ?_ ?_ _) | (with_reducible refine Below.drew ?_) | (with_reducible refine below_drewN ?_ _) | (with_reducible refine Below.setCell ?_ ?_ _) | (with_reducible refine below_step ?_ (by with_reducible assumption) ?_) | (with_reducible exact Nat.le_refl _) | omega | (simp; omega) | (simp; done))))) true H1.out).mono ?_
      rintro e w1 ⟨rfl, hb1⟩
      have R_r_1 : Row w1 (w.heap.size) [.int .i64 (0), .int .i64 (0), .slice none 0 0, .slice none 0 0] := by (repeat' (first | (with_reducible assumption) | (with_reducible refine Row.new' _ _ _ (by first | rfl | (simp; done) | omega)) | (with_reducible refine Row.alloc ?_ _) | (with_reducible refine Row.drew ?_) | (with_reducible refine Row.drewN ?_ _) | (with_reducible refine Row.step ?_ (by with_reducible assumption)) | (with_reducible refine Row.set2' ?_ _ _; first | exact ⟨_, _, by with_reducible assumption⟩ | exact ⟨_, _, Row.alloc (by with_reducible assumption) _⟩ | exact ⟨_, _, Row.alloc (Row.alloc (by with_reducible assumption) _) _⟩) | (with_reducible refine Row.other ?_ (by first | omega | (simp; done) | (simp; omega)) _)))
      have c_r_0_1 := R_r_1.cell 0 rfl
      have c_r_1_1 := R_r_1.cell 1 rfl
      have c_r_2_1 := R_r_1.cell 2 rfl
      have c_r_3_1 := R_r_1.cell 3 rfl
      have z_r_0_1 := R_r_1.frozen 0
      have z_r_1_1 := R_r_1.frozen 1
      have z_r_2_1 := R_r_1.frozen 2
      have z_r_3_1 := R_r_1.frozen 3
      have l_r_1 := R_r_1.lt
      have HB1 : Below w.heap.size w w1 := by (repeat' (first | (with_reducible exact Below.refl _ _) | (with_reducible assumption) | (with_reducible exact Bw.out (by with_reducible assumption)) | (with_reducible refine bw_alloc ?_ _) | (with_reducible refine bw_step ?_ (by with_reducible assumption)) | (with_reducible refine Below.alloc ?_ ?_ _) | (with_reducible refine Below.drew ?_) | (with_reducible refine below_drewN ?_ _) | (with_reducible refine Below.setCell ?_ ?_ _) | (with_reducible refine below_step ?_ (by with_reducible assumption) ?_) | (with_reducible exact Nat.le_refl _) | omega | (simp; omega) | (simp; done)))
      go_wp2_with fail
      refine (R_Cut_any _ _).mono ?_
      rintro e w' ⟨rfl, rfl⟩
      rw [H2.out]
      go_wp2_with fail
      refine (R_in0 most 1000 _).mono ?_
      rintro e w' ⟨rfl, rfl⟩
      rw [H3.out]
      go_wp2_with fail
      refine bodyPost_ret (v := .tuple #[.agg #[.int .i64 0, .int .i64 0, .slice none 0 0, .slice none 0 0], .bool false, .int .i64 1]) (by simp [results, Try.results40, go_sem, c_r_0_1, c_r_1_1, c_r_2_1, c_r_3_1, l_r_1]) rfl ⟨rfl, ?_⟩
      (repeat' (first | (with_reducible exact Below.refl _ _) | (with_reducible assumption) | (with_reducible exact Bw.out (by with_reducible assumption)) | (with_reducible refine bw_alloc ?_ _) | (with_reducible refine bw_step ?_ (by with_reducible assumption)) | (with_reducible refine Below.alloc ?_ ?_ _) | (with_reducible refine Below.drew ?_) | (with_reducible refine below_drewN ?_ _) | (with_reducible refine Below.setCell ?_ ?_ _) | (with_reducible refine below_step ?_ (by with_reducible assumption) ?_) | (with_reducible exact Nat.le_refl _) | omega | (simp; omega) | (simp; done)))

set_option maxRecDepth 100000 in
set_option maxHeartbeats 3200000 in
theorem R_Promise_none (a : Option Addr) (n cap : Nat) (l : List NightV) (c : Nat) (most : Int) (w : World) (hs : SlN w a n l) (hcaps : ∀ x ∈ l, x.n ≤ x.cap ∧ x.cap ≤ maxLen) (hB : (nightsB l && inB (c : Int) 30 && inB most 1000) = true) (hi : l.any (brk c most) = false) :
    Calls Try.prog 40 #[.slice a n cap, .int .i64 c, .int .i64 most] w
      fun e w' => e = .returned (.tuple #[.agg #[.int .i64 0, .int .i64 0, .slice none 0 0, .slice none 0 0], .bool false, .int .i64 0]) ∧ Below w.heap.size w w' := by
  simp only [Bool.and_eq_true] at hB
  obtain ⟨⟨h1, h2⟩, h3⟩ := hB
  have hn : n ≤ 366 := by have := hs.1; have := nightsB_len h1; omega
  have hc30 : c ≤ 30 := by have := (inB_iff.1 h2).2; omega
  have HL := Lib.hid hs.1
  have HS := Lib.hid hs
  have HC := Lib.hid hcaps
  have H1 := Lib.hid h1
  have H2 := Lib.hid h2
  have H3 := Lib.hid h3
  have HI := Lib.hid hi
  clear hs hcaps h1 h2 h3 hi
  go_enter Try.func40, Try.ntmps40
  go_wp2_with fail
  refine (R_valid_any _ _ _ l _ (by omega) (HS.out.below (by (repeat' (first | (with_reducible exact Below.refl _ _) | (with_reducible assumption) | (with_reducible exact Bw.out (by with_reducible assumption)) | (with_reducible refine bw_alloc ?_ _) | (with_reducible refine bw_step ?_ (by with_reducible assumption)) | (with_reducible refine Below.alloc ?_ ?_ _) | (with_reducible refine Below.drew ?_) | (with_reducible refine below_drewN ?_ _) | (with_reducible refine Below.setCell ?_ ?_ _) | (with_reducible refine below_step ?_ (by with_reducible assumption) ?_) | (with_reducible exact Nat.le_refl _) | omega | (simp; omega) | (simp; done))))) true H1.out).mono ?_
  rintro e w1 ⟨rfl, hb1⟩
  have R_r_1 : Row w1 (w.heap.size) [.int .i64 (0), .int .i64 (0), .slice none 0 0, .slice none 0 0] := by (repeat' (first | (with_reducible assumption) | (with_reducible refine Row.new' _ _ _ (by first | rfl | (simp; done) | omega)) | (with_reducible refine Row.alloc ?_ _) | (with_reducible refine Row.drew ?_) | (with_reducible refine Row.drewN ?_ _) | (with_reducible refine Row.step ?_ (by with_reducible assumption)) | (with_reducible refine Row.set2' ?_ _ _; first | exact ⟨_, _, by with_reducible assumption⟩ | exact ⟨_, _, Row.alloc (by with_reducible assumption) _⟩ | exact ⟨_, _, Row.alloc (Row.alloc (by with_reducible assumption) _) _⟩) | (with_reducible refine Row.other ?_ (by first | omega | (simp; done) | (simp; omega)) _)))
  have c_r_0_1 := R_r_1.cell 0 rfl
  have c_r_1_1 := R_r_1.cell 1 rfl
  have c_r_2_1 := R_r_1.cell 2 rfl
  have c_r_3_1 := R_r_1.cell 3 rfl
  have z_r_0_1 := R_r_1.frozen 0
  have z_r_1_1 := R_r_1.frozen 1
  have z_r_2_1 := R_r_1.frozen 2
  have z_r_3_1 := R_r_1.frozen 3
  have l_r_1 := R_r_1.lt
  have HB1 : Below w.heap.size w w1 := by (repeat' (first | (with_reducible exact Below.refl _ _) | (with_reducible assumption) | (with_reducible exact Bw.out (by with_reducible assumption)) | (with_reducible refine bw_alloc ?_ _) | (with_reducible refine bw_step ?_ (by with_reducible assumption)) | (with_reducible refine Below.alloc ?_ ?_ _) | (with_reducible refine Below.drew ?_) | (with_reducible refine below_drewN ?_ _) | (with_reducible refine Below.setCell ?_ ?_ _) | (with_reducible refine below_step ?_ (by with_reducible assumption) ?_) | (with_reducible exact Nat.le_refl _) | omega | (simp; omega) | (simp; done)))
  go_wp2_with fail
  refine (R_Cut_any _ _).mono ?_
  rintro e w' ⟨rfl, rfl⟩
  rw [H2.out]
  go_wp2_with fail
  refine (R_in0 most 1000 _).mono ?_
  rintro e w' ⟨rfl, rfl⟩
  rw [H3.out]
  go_wp2_with fail
  go_loopw [11] (fun i wr => ∃ k : Nat, k ≤ n ∧ i = .int .i64 k ∧ Hid (Below w1.heap.size w1 wr)) (fun i _ => n - (intOf i).toNat)
  case atStart => exact ⟨0, Nat.zero_le _, rfl, by show Below _ _ _; (repeat' (first | (with_reducible exact Below.refl _ _) | (with_reducible assumption) | (with_reducible exact Bw.out (by with_reducible assumption)) | (with_reducible refine bw_alloc ?_ _) | (with_reducible refine bw_step ?_ (by with_reducible assumption)) | (with_reducible refine Below.alloc ?_ ?_ _) | (with_reducible refine Below.drew ?_) | (with_reducible refine below_drewN ?_ _) | (with_reducible refine Below.setCell ?_ ?_ _) | (with_reducible refine below_step ?_ (by with_reducible assumption) ?_) | (with_reducible exact Nat.le_refl _) | omega | (simp; omega) | (simp; done)))⟩
  case round =>
    obtain ⟨k, hk, rfl, hB⟩ := hrel
    have hBw := HB1.trans (hB.out.mono HB1.size)
    have Rr := R_r_1.step hB.out
    by_cases hlt : k < n
    · obtain ⟨x, b, off, hx, hd, hin, rfl, hb, c0, c1, c2⟩ := (HS.out.below hBw).get hlt
      obtain ⟨q1, q2⟩ := HC.out x (List.mem_of_getElem? hx)
      have hnx := nightsB_at H1.out hx
      have KX := Lib.hid (hin.2.c q1 q2)
      obtain ⟨W, hW⟩ : ∃ W, wkI x.rooms x.sold x.zs c = W := ⟨_, rfl⟩
      have hle : W ≤ most := by rw [← hW]; exact brk_wkf.1 (any_brk HI.out hx)
      have HW := Lib.hid hW
      have i1 : (0 : Int) ≤ (k : Int) := by omega
      have i2 : (k : Int) < (n : Int) := by omega
      have hBk := hB
      clear hx hd hin q1 q2 hB hW
      go_wp2_with fail
      refine (R_walked_any x.rooms x.sold c _ _ _ x.zs _ KX.out hnx hc30).mono ?_
      rintro e w4 ⟨rfl, hb4⟩
      rw [HW.out]
      go_wp2_with fail
      go_roundw
      case rel => exact ⟨k + 1, by omega, by go_num, hBk.out.trans (hb4.mono hBk.out.size)⟩
      case measure => simp [intOf]; omega
    · obtain rfl : k = n := by omega
      have d0 := Rr.cell 0 rfl
      have d1 := Rr.cell 1 rfl
      have d2 := Rr.cell 2 rfl
      have d3 := Rr.cell 3 rfl
      have e0 := Rr.frozen 0
      have e1 := Rr.frozen 1
      have e2 := Rr.frozen 2
      have e3 := Rr.frozen 3
      have dl := Rr.lt
      have RZ := Row.set4' ⟨_, _, _, _, Rr⟩ (.int .i64 0) (.int .i64 0) (.slice none 0 0) (.slice none 0 0)
      have z0 := RZ.cell 0 rfl
      have z1 := RZ.cell 1 rfl
      have z2 := RZ.cell 2 rfl
      have z3 := RZ.cell 3 rfl
      have zl := RZ.lt
      clear hB hlt
      go_wp2_with fail
      refine bodyPost_ret (v := .tuple #[.agg #[.int .i64 0, .int .i64 0, .slice none 0 0, .slice none 0 0], .bool false, .int .i64 0]) (by simp [results, Try.results40, go_sem, z0, z1, z2, z3, zl, d0, d1, d2, d3, dl]) rfl ⟨rfl, ?_⟩
      (repeat' (first | (with_reducible exact Below.refl _ _) | (with_reducible assumption) | (with_reducible exact Bw.out (by with_reducible assumption)) | (with_reducible refine bw_alloc ?_ _) | (with_reducible refine bw_step ?_ (by with_reducible assumption)) | (with_reducible refine Below.alloc ?_ ?_ _) | (with_reducible refine Below.drew ?_) | (with_reducible refine below_drewN ?_ _) | (with_reducible refine Below.setCell ?_ ?_ _) | (with_reducible refine below_step ?_ (by with_reducible assumption) ?_) | (with_reducible exact Nat.le_refl _) | omega | (simp; omega) | (simp; done)))

end Go.Proofs.Ytijbhdpaikajkaa
