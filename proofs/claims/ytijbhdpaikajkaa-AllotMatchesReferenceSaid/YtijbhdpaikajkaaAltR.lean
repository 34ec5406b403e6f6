/-
  The walks of the reference's allot, first part: keeps, level, with, Room.
-/
import Derived.Test.YtijbhdpaikajkaaAltK
import Derived.Test.YtijbhdpaikajkaaRTop
namespace Go.Proofs.Ytijbhdpaikajkaa
set_option linter.unusedSimpArgs false
set_option linter.unusedVariables false
open Go.RowKit

set_option maxRecDepth 100000 in
set_option maxHeartbeats 1600000 in
theorem rkeeps_any (zs : List Int) (c : Nat) (b : Int) (a : Option Addr) (n cap : Nat) (w : World) (K : SlC w a n cap zs) (hb : sharesB zs = true) (hc : c ≤ 30) :
    Calls Try.prog 44 #[.slice a n cap, .int .i64 c, .int .i64 b] w fun e w' => e = .returned (.bool (decide (topS zs c ≤ b))) ∧ Below w.heap.size w w' := by
  obtain ⟨T, hT⟩ : ∃ T, topS zs c = T := ⟨_, rfl⟩
  rw [hT]
  have HT : Hid (topS zs (c : Int).toNat = T) := by show _ = _; rw [Int.toNat_natCast]; exact hT
  have HB := Lib.hid hb
  clear hT hb
  go_enter Try.func44, Try.ntmps44
  go_wp2_with fail
  refine (R_top_ok a n cap zs c _ K.sl (TopOk.at HB.out (by omega))).mono ?_
  rintro e w1 ⟨v, rfl, hv, hb1⟩
  have HB1 : Below w.heap.size w w1 := by (repeat' (first | (with_reducible exact Below.refl _ _) | (with_reducible assumption) | (with_reducible exact Bw.out (by with_reducible assumption)) | (with_reducible refine bw_alloc ?_ _) | (with_reducible refine bw_step ?_ (by with_reducible assumption)) | (with_reducible refine Below.alloc ?_ ?_ _) | (with_reducible refine Below.drew ?_) | (with_reducible refine below_drewN ?_ _) | (with_reducible refine Below.setCell ?_ ?_ _) | (with_reducible refine below_step ?_ (by with_reducible assumption) ?_) | (with_reducible exact Nat.le_refl _) | omega | (simp; omega) | (simp; done)))
  rw [HT.out]
  go_wp2_with fail
  go_ret
  refine ⟨rfl, ?_⟩
  (repeat' (first | (with_reducible exact Below.refl _ _) | (with_reducible assumption) | (with_reducible exact Bw.out (by with_reducible assumption)) | (with_reducible refine bw_alloc ?_ _) | (with_reducible refine bw_step ?_ (by with_reducible assumption)) | (with_reducible refine Below.alloc ?_ ?_ _) | (with_reducible refine Below.drew ?_) | (with_reducible refine below_drewN ?_ _) | (with_reducible refine Below.setCell ?_ ?_ _) | (with_reducible refine below_step ?_ (by with_reducible assumption) ?_) | (with_reducible exact Nat.le_refl _) | omega | (simp; omega) | (simp; done)))

set_option maxRecDepth 100000 in
set_option maxHeartbeats 3200000 in
theorem rlevel_any (a : Option Addr) (n cap : Nat) (zs : List Int) (h : Int) (w : World) (hm : n ≤ 1000000) (hs : SlI w a n zs) (hb : ∀ z ∈ zs, -9223372036854775808 ≤ z ∧ z ≤ 9223372036854775807) :
    Calls Try.prog 45 #[.slice a n cap, .int .i64 h] w fun e w' => ∃ v, e = .returned v ∧ OwnV w' w.heap.size v (capL zs h) ∧ Below w.heap.size w w' := by
  have HS := Lib.hid hs
  have HL := Lib.hid hs.1
  have HBD := Lib.hid hb
  clear hs hb
  go_enter Try.func45, Try.ntmps45
  go_wp2_with fail
  go_loopw [5, 6] (fun v i wr => ∃ (k : Nat) (ad : Option Addr) (cp : Nat), k ≤ n ∧ i = .int .i64 k ∧ v = .slice ad k cp ∧ Hid (OwnV wr w.heap.size (.slice ad k cp) ((capL zs h).take k)) ∧ Hid (Below w.heap.size w wr)) (fun _ i _ => n - (intOf i).toNat)
  case atStart => exact ⟨0, none, 0, Nat.zero_le _, rfl, rfl, by show OwnV _ _ _ _; rw [List.take_zero]; exact OwnV.nil _ _, Below.refl _ _⟩
  case round =>
    obtain ⟨k, ad, cp, hk, rfl, rfl, hO, hB⟩ := hrel
    by_cases hlt : k < n
    · obtain ⟨b, off, z, hpa, hbl, cz, gz, _, gm⟩ := (HS.out.below hB.out).get hlt
      subst hpa
      obtain ⟨z0, z1⟩ := HBD.out z gm.out
      have hkl : k < zs.length := by rw [HL.out]; exact hlt
      have HLk : Hid (((capL zs h).take k).length = k) := by show _ = _; rw [List.length_take, capL_length, HL.out]; omega
      have hTK : (capL zs h).take k ++ [min z h] = (capL zs h).take (k + 1) := by
        rw [take_succ_getD (by rw [capL_length]; exact hkl), capL_getD hkl, gz.out]
      have i1 : (0 : Int) ≤ (k : Int) := by omega
      have i2 : (k : Int) < (n : Int) := by omega
      clear gz gm hkl
      rcases (show z < h ∨ z = h ∨ h < z by omega) with hc | hc | hc
      · have HTK : Hid ((capL zs h).take k ++ [z] = (capL zs h).take (k + 1)) := by show _ = _; rw [← hTK, show min z h = z by omega]
        clear hTK
        go_wp2_with (at_builtin; refine wpList_append_int rfl _ _ _ rfl Try.underlying22 w.heap.size _ ((capL zs h).take k) rfl (hO.out.alloc _) wr.heap.size 1 z rfl ((Row.new' wr [_] _ rfl).cell 0 rfl) (by rw [HLk.out]; omega) (by have := hB.out.size; simp; omega) ?_; intro v' w5 hown1 hbl1 hsz1)
        have H7 := Lib.hid (hbl1 w ((hB.out).alloc (by have := hB.out.size; omega) _))
        rw [HTK.out] at hown1
        obtain ⟨ad3, cp3, rfl, ho3⟩ := hown1.form (k + 1) (by rw [List.length_take, capL_length, HL.out]; omega)
        have H1 := Lib.hid ho3
        clear hown1 hbl1 ho3
        go_wp2_with fail
        go_roundw
        case rel => exact ⟨k + 1, ad3, cp3, by omega, by go_num, rfl, H1.out, H7.out⟩
        case measure => simp [intOf]; omega
      · subst hc
        have HTK : Hid ((capL zs z).take k ++ [z] = (capL zs z).take (k + 1)) := by show _ = _; rw [← hTK, show min z z = z by omega]
        clear hTK
        go_wp2_with (at_builtin; refine wpList_append_int rfl _ _ _ rfl Try.underlying22 w.heap.size _ ((capL zs z).take k) rfl (hO.out.alloc _) wr.heap.size 1 z rfl ((Row.new' wr [_] _ rfl).cell 0 rfl) (by rw [HLk.out]; omega) (by have := hB.out.size; simp; omega) ?_; intro v' w5 hown1 hbl1 hsz1)
        have H7 := Lib.hid (hbl1 w ((hB.out).alloc (by have := hB.out.size; omega) _))
        rw [HTK.out] at hown1
        obtain ⟨ad3, cp3, rfl, ho3⟩ := hown1.form (k + 1) (by rw [List.length_take, capL_length, HL.out]; omega)
        have H1 := Lib.hid ho3
        clear hown1 hbl1 ho3
        go_wp2_with fail
        go_roundw
        case rel => exact ⟨k + 1, ad3, cp3, by omega, by go_num, rfl, H1.out, H7.out⟩
        case measure => simp [intOf]; omega
      · have HTK : Hid ((capL zs h).take k ++ [h] = (capL zs h).take (k + 1)) := by show _ = _; rw [← hTK, show min z h = h by omega]
        clear hTK
        go_wp2_with (at_builtin; refine wpList_append_int rfl _ _ _ rfl Try.underlying22 w.heap.size _ ((capL zs h).take k) rfl (hO.out.alloc _) wr.heap.size 1 h rfl ((Row.new' wr [_] _ rfl).cell 0 rfl) (by rw [HLk.out]; omega) (by have := hB.out.size; simp; omega) ?_; intro v' w5 hown1 hbl1 hsz1)
        have H7 := Lib.hid (hbl1 w ((hB.out).alloc (by have := hB.out.size; omega) _))
        rw [HTK.out] at hown1
        obtain ⟨ad3, cp3, rfl, ho3⟩ := hown1.form (k + 1) (by rw [List.length_take, capL_length, HL.out]; omega)
        have H1 := Lib.hid ho3
        clear hown1 hbl1 ho3
        go_wp2_with fail
        go_roundw
        case rel => exact ⟨k + 1, ad3, cp3, by omega, by go_num, rfl, H1.out, H7.out⟩
        case measure => simp [intOf]; omega
    · obtain rfl : n = k := by omega
      have HV : Hid (OwnV wr w.heap.size (.slice ad n cp) (capL zs h)) := by
        have := hO.out
        rwa [List.take_of_length_le (by rw [capL_length, HL.out]; omega)] at this
      go_wp2_with fail
      go_ret
      exact ⟨_, rfl, HV.out, hB.out⟩

theorem set_take {zs : List Int} {q k : Nat} {x : Int} (h : k < zs.length) : (zs.set q x).take (k + 1) = (zs.set q x).take k ++ [if k = q then x else zs.getD k 0] := by
  rw [take_succ_getD (by rw [List.length_set]; exact h)]
  by_cases hq : q < zs.length
  · rw [getD_setA _ hq]
  · rw [List.set_eq_of_length_le (by omega), if_neg (by omega)]
set_option maxRecDepth 100000 in
set_option maxHeartbeats 3200000 in
theorem rwith_any (a : Option Addr) (n cap : Nat) (zs : List Int) (q : Nat) (w : World) (hm : n ≤ 1000000) (hq : q < n) (hs : SlI w a n zs) (hb : ∀ z ∈ zs, -1000000 ≤ z ∧ z ≤ 1000000) :
    Calls Try.prog 46 #[.slice a n cap, .int .i64 q] w fun e w' => ∃ v, e = .returned v ∧ OwnV w' w.heap.size v (zs.set q (zs.getD q 0 + 1)) ∧ Below w.heap.size w w' := by
  have HS := Lib.hid hs
  have HL := Lib.hid hs.1
  have HBD := Lib.hid hb
  clear hs hb
  go_enter Try.func46, Try.ntmps46
  go_wp2_with fail
  go_loopw [5, 6] (fun v i wr => ∃ (k : Nat) (ad : Option Addr) (cp : Nat), k ≤ n ∧ i = .int .i64 k ∧ v = .slice ad k cp ∧ Hid (OwnV wr w.heap.size (.slice ad k cp) ((zs.set q (zs.getD q 0 + 1)).take k)) ∧ Hid (Below w.heap.size w wr)) (fun _ i _ => n - (intOf i).toNat)
  case atStart => exact ⟨0, none, 0, Nat.zero_le _, rfl, rfl, by show OwnV _ _ _ _; rw [List.take_zero]; exact OwnV.nil _ _, Below.refl _ _⟩
  case round =>
    obtain ⟨k, ad, cp, hk, rfl, rfl, hO, hB⟩ := hrel
    by_cases hlt : k < n
    · obtain ⟨b, off, z, hpa, hbl, cz, gz, _, gm⟩ := (HS.out.below hB.out).get hlt
      subst hpa
      obtain ⟨z0, z1⟩ := HBD.out z gm.out
      have hkl : k < zs.length := by rw [HL.out]; exact hlt
      have HLk : Hid (((zs.set q (zs.getD q 0 + 1)).take k).length = k) := by show _ = _; rw [List.length_take, List.length_set, HL.out]; omega
      have hTK := set_take (q := q) (x := zs.getD q 0 + 1) hkl
      have i1 : (0 : Int) ≤ (k : Int) := by omega
      have i2 : (k : Int) < (n : Int) := by omega
      by_cases hkq : k = q
      · subst hkq
        have HTK : Hid ((zs.set k (zs.getD k 0 + 1)).take k ++ [z + 1] = (zs.set k (zs.getD k 0 + 1)).take (k + 1)) := by show _ = _; rw [hTK, if_pos rfl, gz.out]
        clear hTK gz gm hkl
        go_wp2_with (at_builtin; refine wpList_append_int rfl _ _ _ rfl Try.underlying22 w.heap.size _ ((zs.set k (zs.getD k 0 + 1)).take k) rfl (hO.out.alloc _) wr.heap.size 1 (z + 1) rfl ((Row.new' wr [_] _ rfl).cell 0 rfl) (by rw [HLk.out]; omega) (by have := hB.out.size; simp; omega) ?_; intro v' w5 hown1 hbl1 hsz1)
        have H7 := Lib.hid (hbl1 w ((hB.out).alloc (by have := hB.out.size; omega) _))
        rw [HTK.out] at hown1
        obtain ⟨ad3, cp3, rfl, ho3⟩ := hown1.form (k + 1) (by rw [List.length_take, List.length_set, HL.out]; omega)
        have H1 := Lib.hid ho3
        clear hown1 hbl1 ho3
        go_wp2_with fail
        go_roundw
        case rel => exact ⟨k + 1, ad3, cp3, by omega, by go_num, rfl, H1.out, H7.out⟩
        case measure => simp [intOf]; omega
      · have HTK : Hid ((zs.set q (zs.getD q 0 + 1)).take k ++ [z] = (zs.set q (zs.getD q 0 + 1)).take (k + 1)) := by show _ = _; rw [hTK, if_neg hkq, gz.out]
        have hki : ((k : Int) == (q : Int)) = false := by simp; omega
        clear hTK gz gm hkl
        go_wp2_with (at_builtin; refine wpList_append_int rfl _ _ _ rfl Try.underlying22 w.heap.size _ ((zs.set q (zs.getD q 0 + 1)).take k) rfl (hO.out.alloc _) wr.heap.size 1 z rfl ((Row.new' wr [_] _ rfl).cell 0 rfl) (by rw [HLk.out]; omega) (by have := hB.out.size; simp; omega) ?_; intro v' w5 hown1 hbl1 hsz1)
        have H7 := Lib.hid (hbl1 w ((hB.out).alloc (by have := hB.out.size; omega) _))
        rw [HTK.out] at hown1
        obtain ⟨ad3, cp3, rfl, ho3⟩ := hown1.form (k + 1) (by rw [List.length_take, List.length_set, HL.out]; omega)
        have H1 := Lib.hid ho3
        clear hown1 hbl1 ho3
        go_wp2_with fail
        go_roundw
        case rel => exact ⟨k + 1, ad3, cp3, by omega, by go_num, rfl, H1.out, H7.out⟩
        case measure => simp [intOf]; omega
    · obtain rfl : n = k := by omega
      have HV : Hid (OwnV wr w.heap.size (.slice ad n cp) (zs.set q (zs.getD q 0 + 1))) := by
        have := hO.out
        rwa [List.take_of_length_le (by rw [List.length_set, HL.out]; omega)] at this
      go_wp2_with fail
      go_ret
      exact ⟨_, rfl, HV.out, hB.out⟩

set_option maxRecDepth 100000 in
set_option maxHeartbeats 3200000 in
theorem rRoom_any (r s c most : Int) (a : Option Addr) (n cap : Nat) (zs : List Int) (w : World) (K : SlC w a n cap zs) (X E : Int) (hX : ifI (okA r s zs c most) (roI r s zs c most) 0 = X) (hE : ifI (okA r s zs c most) 0 1 = E) :
    Calls Try.prog 18 #[.agg #[.int .i64 r, .int .i64 s, .slice a n cap], .int .i64 c, .int .i64 most] w fun e w' => e = .returned (.tuple #[.int .i64 X, .int .i64 E]) ∧ Below w.heap.size w w' := by
  have hn := K.len
  obtain ⟨b1, h1⟩ : ∃ b, nightB r s zs = b := ⟨_, rfl⟩
  obtain ⟨b2, h2⟩ : ∃ b, inB c 30 = b := ⟨_, rfl⟩
  obtain ⟨b3, h3⟩ : ∃ b, inB most 1000 = b := ⟨_, rfl⟩
  have H1 := Lib.hid h1
  have H2 := Lib.hid h2
  have H3 := Lib.hid h3
  unfold okA at hX hE
  rw [h1, h2, h3] at hX hE
  cases b1 with
  | false =>
    obtain rfl : (0 : Int) = X := hX
    obtain rfl : (1 : Int) = E := hE
    clear h1 h2 h3
    go_enter Try.func18, Try.ntmps18
    go_wp2_with fail
    refine (R_night_any r s a n cap zs _ hn (K.step (by (repeat' (first | (with_reducible exact Below.refl _ _) | (with_reducible assumption) | (with_reducible exact Bw.out (by with_reducible assumption)) | (with_reducible refine bw_alloc ?_ _) | (with_reducible refine bw_step ?_ (by with_reducible assumption)) | (with_reducible refine Below.alloc ?_ ?_ _) | (with_reducible refine Below.drew ?_) | (with_reducible refine below_drewN ?_ _) | (with_reducible refine Below.setCell ?_ ?_ _) | (with_reducible refine below_step ?_ (by with_reducible assumption) ?_) | (with_reducible exact Nat.le_refl _) | omega | (simp; omega) | (simp; done))))).sl).mono ?_
    rintro e w1 ⟨rfl, hb1⟩
    have R_n_1 : Row w1 (w.heap.size) [.int .i64 r, .int .i64 s, .slice a n cap] := by (repeat' (first | (with_reducible assumption) | (with_reducible refine Row.new' _ _ _ (by first | rfl | (simp; done) | omega)) | (with_reducible refine Row.alloc ?_ _) | (with_reducible refine Row.drew ?_) | (with_reducible refine Row.drewN ?_ _) | (with_reducible refine Row.step ?_ (by with_reducible assumption)) | (with_reducible refine Row.set2' ?_ _ _; first | exact ⟨_, _, by with_reducible assumption⟩ | exact ⟨_, _, Row.alloc (by with_reducible assumption) _⟩ | exact ⟨_, _, Row.alloc (Row.alloc (by with_reducible assumption) _) _⟩) | (with_reducible refine Row.other ?_ (by first | omega | (simp; done) | (simp; omega)) _)))
    have c_n_0_1 := R_n_1.cell 0 rfl
    have c_n_1_1 := R_n_1.cell 1 rfl
    have c_n_2_1 := R_n_1.cell 2 rfl
    have l_n_1 := R_n_1.lt
    replace K := K.step (show Below w.heap.size w w1 by (repeat' (first | (with_reducible exact Below.refl _ _) | (with_reducible assumption) | (with_reducible exact Bw.out (by with_reducible assumption)) | (with_reducible refine bw_alloc ?_ _) | (with_reducible refine bw_step ?_ (by with_reducible assumption)) | (with_reducible refine Below.alloc ?_ ?_ _) | (with_reducible refine Below.drew ?_) | (with_reducible refine below_drewN ?_ _) | (with_reducible refine Below.setCell ?_ ?_ _) | (with_reducible refine below_step ?_ (by with_reducible assumption) ?_) | (with_reducible exact Nat.le_refl _) | omega | (simp; omega) | (simp; done))))
    have HB1 : Below w.heap.size w w1 := by (repeat' (first | (with_reducible exact Below.refl _ _) | (with_reducible assumption) | (with_reducible exact Bw.out (by with_reducible assumption)) | (with_reducible refine bw_alloc ?_ _) | (with_reducible refine bw_step ?_ (by with_reducible assumption)) | (with_reducible refine Below.alloc ?_ ?_ _) | (with_reducible refine Below.drew ?_) | (with_reducible refine below_drewN ?_ _) | (with_reducible refine Below.setCell ?_ ?_ _) | (with_reducible refine below_step ?_ (by with_reducible assumption) ?_) | (with_reducible exact Nat.le_refl _) | omega | (simp; omega) | (simp; done)))
    rw [H1.out]
    go_wp2_with fail
    go_ret2
    refine ⟨rfl, ?_⟩
    (repeat' (first | (with_reducible exact Below.refl _ _) | (with_reducible assumption) | (with_reducible exact Bw.out (by with_reducible assumption)) | (with_reducible refine bw_alloc ?_ _) | (with_reducible refine bw_step ?_ (by with_reducible assumption)) | (with_reducible refine Below.alloc ?_ ?_ _) | (with_reducible refine Below.drew ?_) | (with_reducible refine below_drewN ?_ _) | (with_reducible refine Below.setCell ?_ ?_ _) | (with_reducible refine below_step ?_ (by with_reducible assumption) ?_) | (with_reducible exact Nat.le_refl _) | omega | (simp; omega) | (simp; done)))
  | true =>
    cases b2 with
    | false =>
      obtain rfl : (0 : Int) = X := hX
      obtain rfl : (1 : Int) = E := hE
      clear h1 h2 h3
      go_enter Try.func18, Try.ntmps18
      go_wp2_with fail
      refine (R_night_any r s a n cap zs _ hn (K.step (by (repeat' (first | (with_reducible exact Below.refl _ _) | (with_reducible assumption) | (with_reducible exact Bw.out (by with_reducible assumption)) | (with_reducible refine bw_alloc ?_ _) | (with_reducible refine bw_step ?_ (by with_reducible assumption)) | (with_reducible refine Below.alloc ?_ ?_ _) | (with_reducible refine Below.drew ?_) | (with_reducible refine below_drewN ?_ _) | (with_reducible refine Below.setCell ?_ ?_ _) | (with_reducible refine below_step ?_ (by with_reducible assumption) ?_) | (with_reducible exact Nat.le_refl _) | omega | (simp; omega) | (simp; done))))).sl).mono ?_
      rintro e w1 ⟨rfl, hb1⟩
      have R_n_1 : Row w1 (w.heap.size) [.int .i64 r, .int .i64 s, .slice a n cap] := by (repeat' (first | (with_reducible assumption) | (with_reducible refine Row.new' _ _ _ (by first | rfl | (simp; done) | omega)) | (with_reducible refine Row.alloc ?_ _) | (with_reducible refine Row.drew ?_) | (with_reducible refine Row.drewN ?_ _) | (with_reducible refine Row.step ?_ (by with_reducible assumption)) | (with_reducible refine Row.set2' ?_ _ _; first | exact ⟨_, _, by with_reducible assumption⟩ | exact ⟨_, _, Row.alloc (by with_reducible assumption) _⟩ | exact ⟨_, _, Row.alloc (Row.alloc (by with_reducible assumption) _) _⟩) | (with_reducible refine Row.other ?_ (by first | omega | (simp; done) | (simp; omega)) _)))
      have c_n_0_1 := R_n_1.cell 0 rfl
      have c_n_1_1 := R_n_1.cell 1 rfl
      have c_n_2_1 := R_n_1.cell 2 rfl
      have l_n_1 := R_n_1.lt
      replace K := K.step (show Below w.heap.size w w1 by (repeat' (first | (with_reducible exact Below.refl _ _) | (with_reducible assumption) | (with_reducible exact Bw.out (by with_reducible assumption)) | (with_reducible refine bw_alloc ?_ _) | (with_reducible refine bw_step ?_ (by with_reducible assumption)) | (with_reducible refine Below.alloc ?_ ?_ _) | (with_reducible refine Below.drew ?_) | (with_reducible refine below_drewN ?_ _) | (with_reducible refine Below.setCell ?_ ?_ _) | (with_reducible refine below_step ?_ (by with_reducible assumption) ?_) | (with_reducible exact Nat.le_refl _) | omega | (simp; omega) | (simp; done))))
      have HB1 : Below w.heap.size w w1 := by (repeat' (first | (with_reducible exact Below.refl _ _) | (with_reducible assumption) | (with_reducible exact Bw.out (by with_reducible assumption)) | (with_reducible refine bw_alloc ?_ _) | (with_reducible refine bw_step ?_ (by with_reducible assumption)) | (with_reducible refine Below.alloc ?_ ?_ _) | (with_reducible refine Below.drew ?_) | (with_reducible refine below_drewN ?_ _) | (with_reducible refine Below.setCell ?_ ?_ _) | (with_reducible refine below_step ?_ (by with_reducible assumption) ?_) | (with_reducible exact Nat.le_refl _) | omega | (simp; omega) | (simp; done)))
      rw [H1.out]
      go_wp2_with fail
      refine (R_Cut_any _ _).mono ?_
      rintro e w' ⟨rfl, rfl⟩
      rw [H2.out]
      go_wp2_with fail
      go_ret2
      refine ⟨rfl, ?_⟩
      (repeat' (first | (with_reducible exact Below.refl _ _) | (with_reducible assumption) | (with_reducible exact Bw.out (by with_reducible assumption)) | (with_reducible refine bw_alloc ?_ _) | (with_reducible refine bw_step ?_ (by with_reducible assumption)) | (with_reducible refine Below.alloc ?_ ?_ _) | (with_reducible refine Below.drew ?_) | (with_reducible refine below_drewN ?_ _) | (with_reducible refine Below.setCell ?_ ?_ _) | (with_reducible refine below_step ?_ (by with_reducible assumption) ?_) | (with_reducible exact Nat.le_refl _) | omega | (simp; omega) | (simp; done)))
    | true =>
      cases b3 with
      | false =>
        obtain rfl : (0 : Int) = X := hX
        obtain rfl : (1 : Int) = E := hE
        clear h1 h2 h3
        go_enter Try.func18, Try.ntmps18
        go_wp2_with fail
        refine (R_night_any r s a n cap zs _ hn (K.step (by (repeat' (first | (with_reducible exact Below.refl _ _) | (with_reducible assumption) | (with_reducible exact Bw.out (by with_reducible assumption)) | (with_reducible refine bw_alloc ?_ _) | (with_reducible refine bw_step ?_ (by with_reducible assumption)) | (with_reducible refine Below.alloc ?_ ?_ _) | (with_reducible refine Below.drew ?_) | (with_reducible refine below_drewN ?_ _) | (with_reducible refine Below.setCell ?_ ?_ _) | (with_reducible refine below_step ?_ (by with_reducible assumption) ?_) | (with_reducible exact Nat.le_refl _) | omega | (simp; omega) | (simp; done))))).sl).mono ?_
        rintro e w1 ⟨rfl, hb1⟩
        have R_n_1 : Row w1 (w.heap.size) [.int .i64 r, .int .i64 s, .slice a n cap] := by (repeat' (first | (with_reducible assumption) | (with_reducible refine Row.new' _ _ _ (by first | rfl | (simp; done) | omega)) | (with_reducible refine Row.alloc ?_ _) | (with_reducible refine Row.drew ?_) | (with_reducible refine Row.drewN ?_ _) | (with_reducible refine Row.step ?_ (by with_reducible assumption)) | (with_reducible refine Row.set2' ?_ _ _; first | exact ⟨_, _, by with_reducible assumption⟩ | exact ⟨_, _, Row.alloc (by with_reducible assumption) _⟩ | exact ⟨_, _, Row.alloc (Row.alloc (by with_reducible assumption) _) _⟩) | (with_reducible refine Row.other ?_ (by first | omega | (simp; done) | (simp; omega)) _)))
        have c_n_0_1 := R_n_1.cell 0 rfl
        have c_n_1_1 := R_n_1.cell 1 rfl
        have c_n_2_1 := R_n_1.cell 2 rfl
        have l_n_1 := R_n_1.lt
        replace K := K.step (show Below w.heap.size w w1 by (repeat' (first | (with_reducible exact Below.refl _ _) | (with_reducible assumption) | (with_reducible exact Bw.out (by with_reducible assumption)) | (with_reducible refine bw_alloc ?_ _) | (with_reducible refine bw_step ?_ (by with_reducible assumption)) | (with_reducible refine Below.alloc ?_ ?_ _) | (with_reducible refine Below.drew ?_) | (with_reducible refine below_drewN ?_ _) | (with_reducible refine Below.setCell ?_ ?_ _) | (with_reducible refine below_step ?_ (by with_reducible assumption) ?_) | (with_reducible exact Nat.le_refl _) | omega | (simp; omega) | (simp; done))))
        have HB1 : Below w.heap.size w w1 := by (repeat' (first | (with_reducible exact Below.refl _ _) | (with_reducible assumption) | (with_reducible exact Bw.out (by with_reducible assumption)) | (with_reducible refine bw_alloc ?_ _) | (with_reducible refine bw_step ?_ (by with_reducible assumption)) | (with_reducible refine Below.alloc ?_ ?_ _) | (with_reducible refine Below.drew ?_) | (with_reducible refine below_drewN ?_ _) | (with_reducible refine Below.setCell ?_ ?_ _) | (with_reducible refine below_step ?_ (by with_reducible assumption) ?_) | (with_reducible exact Nat.le_refl _) | omega | (simp; omega) | (simp; done)))
        rw [H1.out]
        go_wp2_with fail
        refine (R_Cut_any _ _).mono ?_
        rintro e w' ⟨rfl, rfl⟩
        rw [H2.out]
        go_wp2_with fail
        refine (R24_Promise_any _ _).mono ?_
        rintro e w' ⟨rfl, rfl⟩
        rw [H3.out]
        go_wp2_with fail
        go_ret2
        refine ⟨rfl, ?_⟩
        (repeat' (first | (with_reducible exact Below.refl _ _) | (with_reducible assumption) | (with_reducible exact Bw.out (by with_reducible assumption)) | (with_reducible refine bw_alloc ?_ _) | (with_reducible refine bw_step ?_ (by with_reducible assumption)) | (with_reducible refine Below.alloc ?_ ?_ _) | (with_reducible refine Below.drew ?_) | (with_reducible refine below_drewN ?_ _) | (with_reducible refine Below.setCell ?_ ?_ _) | (with_reducible refine below_step ?_ (by with_reducible assumption) ?_) | (with_reducible exact Nat.le_refl _) | omega | (simp; omega) | (simp; done)))
      | true =>
        obtain ⟨q1, q2, ⟨p3, p4⟩, p5, p6⟩ := nightB_parts h1
        obtain ⟨p7, p8⟩ := inB_iff.1 h3
        obtain ⟨p9, p10⟩ := inB_iff.1 h2
        obtain ⟨cN, rfl⟩ := Int.eq_ofNat_of_zero_le p9
        obtain ⟨T, hT⟩ : ∃ T, topS zs cN = T := ⟨_, rfl⟩
        have hT0 : 0 ≤ T ∧ T ≤ 12000 := by rw [← hT]; exact ⟨topS_nonneg q2 cN, topS_le q2 q1 cN⟩
        obtain rfl : (0 : Int) = E := hE
        have hX : min (1000 - s) (max 0 (r + most - s - topS zs cN)) = X := hX
        rw [hT] at hX
        have HT : Hid (topS zs (cN : Int).toNat = T) := by show _ = _; rw [Int.toNat_natCast]; exact hT
        have HSB := Lib.hid (sharesB_of q1 q2)
        subst hX
        clear h1 h2 h3 q1 q2 hT
        go_enter Try.func18, Try.ntmps18
        go_wp2_with fail
        refine (R_night_any r s a n cap zs _ hn (K.step (by (repeat' (first | (with_reducible exact Below.refl _ _) | (with_reducible assumption) | (with_reducible exact Bw.out (by with_reducible assumption)) | (with_reducible refine bw_alloc ?_ _) | (with_reducible refine bw_step ?_ (by with_reducible assumption)) | (with_reducible refine Below.alloc ?_ ?_ _) | (with_reducible refine Below.drew ?_) | (with_reducible refine below_drewN ?_ _) | (with_reducible refine Below.setCell ?_ ?_ _) | (with_reducible refine below_step ?_ (by with_reducible assumption) ?_) | (with_reducible exact Nat.le_refl _) | omega | (simp; omega) | (simp; done))))).sl).mono ?_
        rintro e w1 ⟨rfl, hb1⟩
        have R_n_1 : Row w1 (w.heap.size) [.int .i64 r, .int .i64 s, .slice a n cap] := by (repeat' (first | (with_reducible assumption) | (with_reducible refine Row.new' _ _ _ (by first | rfl | (simp; done) | omega)) | (with_reducible refine Row.alloc ?_ _) | (with_reducible refine Row.drew ?_) | (with_reducible refine Row.drewN ?_ _) | (with_reducible refine Row.step ?_ (by with_reducible assumption)) | (with_reducible refine Row.set2' ?_ _ _; first | exact ⟨_, _, by with_reducible assumption⟩ | exact ⟨_, _, Row.alloc (by with_reducible assumption) _⟩ | exact ⟨_, _, Row.alloc (Row.alloc (by with_reducible assumption) _) _⟩) | (with_reducible refine Row.other ?_ (by first | omega | (simp; done) | (simp; omega)) _)))
        have c_n_0_1 := R_n_1.cell 0 rfl
        have c_n_1_1 := R_n_1.cell 1 rfl
        have c_n_2_1 := R_n_1.cell 2 rfl
        have l_n_1 := R_n_1.lt
        replace K := K.step (show Below w.heap.size w w1 by (repeat' (first | (with_reducible exact Below.refl _ _) | (with_reducible assumption) | (with_reducible exact Bw.out (by with_reducible assumption)) | (with_reducible refine bw_alloc ?_ _) | (with_reducible refine bw_step ?_ (by with_reducible assumption)) | (with_reducible refine Below.alloc ?_ ?_ _) | (with_reducible refine Below.drew ?_) | (with_reducible refine below_drewN ?_ _) | (with_reducible refine Below.setCell ?_ ?_ _) | (with_reducible refine below_step ?_ (by with_reducible assumption) ?_) | (with_reducible exact Nat.le_refl _) | omega | (simp; omega) | (simp; done))))
        have HB1 : Below w.heap.size w w1 := by (repeat' (first | (with_reducible exact Below.refl _ _) | (with_reducible assumption) | (with_reducible exact Bw.out (by with_reducible assumption)) | (with_reducible refine bw_alloc ?_ _) | (with_reducible refine bw_step ?_ (by with_reducible assumption)) | (with_reducible refine Below.alloc ?_ ?_ _) | (with_reducible refine Below.drew ?_) | (with_reducible refine below_drewN ?_ _) | (with_reducible refine Below.setCell ?_ ?_ _) | (with_reducible refine below_step ?_ (by with_reducible assumption) ?_) | (with_reducible exact Nat.le_refl _) | omega | (simp; omega) | (simp; done)))
        rw [H1.out]
        go_wp2_with fail
        refine (R_Cut_any _ _).mono ?_
        rintro e w' ⟨rfl, rfl⟩
        rw [H2.out]
        go_wp2_with fail
        refine (R24_Promise_any _ _).mono ?_
        rintro e w' ⟨rfl, rfl⟩
        rw [H3.out]
        go_wp2_with fail
        refine (R_top_ok a n cap zs cN _ (K.step (by (repeat' (first | (with_reducible exact Below.refl _ _) | (with_reducible assumption) | (with_reducible exact Bw.out (by with_reducible assumption)) | (with_reducible refine bw_alloc ?_ _) | (with_reducible refine bw_step ?_ (by with_reducible assumption)) | (with_reducible refine Below.alloc ?_ ?_ _) | (with_reducible refine Below.drew ?_) | (with_reducible refine below_drewN ?_ _) | (with_reducible refine Below.setCell ?_ ?_ _) | (with_reducible refine below_step ?_ (by with_reducible assumption) ?_) | (with_reducible exact Nat.le_refl _) | omega | (simp; omega) | (simp; done))))).sl (TopOk.at HSB.out (by omega))).mono ?_
        rintro e w2 ⟨v, rfl, hv, hb2⟩
        have R_n_2 : Row w2 (w.heap.size) [.int .i64 r, .int .i64 s, .slice a n cap] := by (repeat' (first | (with_reducible assumption) | (with_reducible refine Row.new' _ _ _ (by first | rfl | (simp; done) | omega)) | (with_reducible refine Row.alloc ?_ _) | (with_reducible refine Row.drew ?_) | (with_reducible refine Row.drewN ?_ _) | (with_reducible refine Row.step ?_ (by with_reducible assumption)) | (with_reducible refine Row.set2' ?_ _ _; first | exact ⟨_, _, by with_reducible assumption⟩ | exact ⟨_, _, Row.alloc (by with_reducible assumption) _⟩ | exact ⟨_, _, Row.alloc (Row.alloc (by with_reducible assumption) _) _⟩) | (with_reducible refine Row.other ?_ (by first | omega | (simp; done) | (simp; omega)) _)))
        have c_n_0_2 := R_n_2.cell 0 rfl
        have c_n_1_2 := R_n_2.cell 1 rfl
        have c_n_2_2 := R_n_2.cell 2 rfl
        have l_n_2 := R_n_2.lt
        replace K := K.step (show Below w1.heap.size w1 w2 by (repeat' (first | (with_reducible exact Below.refl _ _) | (with_reducible assumption) | (with_reducible exact Bw.out (by with_reducible assumption)) | (with_reducible refine bw_alloc ?_ _) | (with_reducible refine bw_step ?_ (by with_reducible assumption)) | (with_reducible refine Below.alloc ?_ ?_ _) | (with_reducible refine Below.drew ?_) | (with_reducible refine below_drewN ?_ _) | (with_reducible refine Below.setCell ?_ ?_ _) | (with_reducible refine below_step ?_ (by with_reducible assumption) ?_) | (with_reducible exact Nat.le_refl _) | omega | (simp; omega) | (simp; done))))
        have HB2 : Below w.heap.size w w2 := by (repeat' (first | (with_reducible exact Below.refl _ _) | (with_reducible assumption) | (with_reducible exact Bw.out (by with_reducible assumption)) | (with_reducible refine bw_alloc ?_ _) | (with_reducible refine bw_step ?_ (by with_reducible assumption)) | (with_reducible refine Below.alloc ?_ ?_ _) | (with_reducible refine Below.drew ?_) | (with_reducible refine below_drewN ?_ _) | (with_reducible refine Below.setCell ?_ ?_ _) | (with_reducible refine below_step ?_ (by with_reducible assumption) ?_) | (with_reducible exact Nat.le_refl _) | omega | (simp; omega) | (simp; done)))
        clear R_n_1 c_n_0_1 c_n_1_1 c_n_2_1 hb1 HB1
        rw [HT.out]
        go_wp2_with fail
        all_goals
          go_ret2
          refine ⟨ret2_int (by omega), ?_⟩
          (repeat' (first | (with_reducible exact Below.refl _ _) | (with_reducible assumption) | (with_reducible exact Bw.out (by with_reducible assumption)) | (with_reducible refine bw_alloc ?_ _) | (with_reducible refine bw_step ?_ (by with_reducible assumption)) | (with_reducible refine Below.alloc ?_ ?_ _) | (with_reducible refine Below.drew ?_) | (with_reducible refine below_drewN ?_ _) | (with_reducible refine Below.setCell ?_ ?_ _) | (with_reducible refine below_step ?_ (by with_reducible assumption) ?_) | (with_reducible exact Nat.le_refl _) | omega | (simp; omega) | (simp; done)))

end Go.Proofs.Ytijbhdpaikajkaa
