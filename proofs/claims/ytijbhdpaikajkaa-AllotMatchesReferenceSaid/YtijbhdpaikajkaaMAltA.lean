/-
  Texts built as one: XAltA, XAltB, XAltC, XAltD, XAltE.
-/
import Derived.Test.YtijbhdpaikajkaaMBase
import Derived.Test.YtijbhdpaikajkaaRTop
import Derived.Test.YtijbhdpaikajkaaMore0
import Derived.Test.YtijbhdpaikajkaaMFence
import Derived.Test.YtijbhdpaikajkaaWorstC
namespace Go.Proofs.Ytijbhdpaikajkaa

section
set_option linter.unusedSimpArgs false
set_option linter.unusedVariables false
open Go.RowKit

set_option maxRecDepth 100000 in
set_option maxHeartbeats 3200000 in
theorem capped_any (a : Option Addr) (n cap : Nat) (zs : List Int) (h : Int) (w : World) (hm : n ≤ 1000000) (hs : SlI w a n zs) (hb : ∀ z ∈ zs, -9223372036854775808 ≤ z ∧ z ≤ 9223372036854775807) :
    Calls Try.prog 67 #[.slice a n cap, .int .i64 h] w fun e w' => ∃ v, e = .returned v ∧ OwnV w' w.heap.size v (capL zs h) ∧ Below w.heap.size w w' := by
  have HS := Lib.hid hs
  have HL := Lib.hid hs.1
  have HBD := Lib.hid hb
  clear hs hb
  go_enter Try.func67, Try.ntmps67
  go_wp2_with fail
  go_loopw [5, 10] (fun v i wr => ∃ (k : Nat) (ad : Option Addr) (cp : Nat), k ≤ n ∧ i = .int .i64 k ∧ v = .slice ad k cp ∧ Hid (OwnV wr w.heap.size (.slice ad k cp) ((capL zs h).take k)) ∧ Hid (Below w.heap.size w wr)) (fun _ i _ => n - (intOf i).toNat)
  case atStart => exact ⟨0, none, 0, Nat.zero_le _, rfl, rfl, by show OwnV _ _ _ _; rw [List.take_zero]; exact OwnV.nil _ _, Below.refl _ _⟩
  case round =>
    obtain ⟨k, ad, cp, hk, rfl, rfl, hO, hB⟩ := hrel
    by_cases hlt : k < n
    · obtain ⟨b, off, z, hpa, hbl, cz, gz, _, gm⟩ := (HS.out.below hB.out).get hlt
      subst hpa
      obtain ⟨z0, z1⟩ := HBD.out z gm.out
      have hkl : k < zs.length := by rw [HL.out]; exact hlt
      have HLk : Hid (((capL zs h).take k).length = k) := by show _ = _; rw [List.length_take, capL_length, HL.out]; omega
      have hTK : (capL zs h).take k ++ [min z h] = (capL zs h).take (k + 1) := by
        rw [take_succ_getD (by rw [capL_length]; exact hkl), capL_getD hkl, gz.out]
      have i1 : (0 : Int) ≤ (k : Int) := by omega
      have i2 : (k : Int) < (n : Int) := by omega
      clear gz gm hkl
      rcases (show z < h ∨ z = h ∨ h < z by omega) with hc | hc | hc
      · have HTK : Hid ((capL zs h).take k ++ [z] = (capL zs h).take (k + 1)) := by show _ = _; rw [← hTK, show min z h = z by omega]
        clear hTK
        go_wp2_with (at_builtin; refine wpList_append_int rfl _ _ _ rfl Try.underlying22 w.heap.size _ ((capL zs h).take k) rfl (hO.out.alloc _) wr.heap.size 1 z rfl ((Row.new' wr [_] _ rfl).cell 0 rfl) (by rw [HLk.out]; omega) (by have := hB.out.size; simp; omega) ?_; intro v' w5 hown1 hbl1 hsz1)
        have H7 := Lib.hid (hbl1 w ((hB.out).alloc (by have := hB.out.size; omega) _))
        rw [HTK.out] at hown1
        obtain ⟨ad3, cp3, rfl, ho3⟩ := hown1.form (k + 1) (by rw [List.length_take, capL_length, HL.out]; omega)
        have H1 := Lib.hid ho3
        clear hown1 hbl1 ho3
        go_wp2_with fail
        go_roundw
        case rel => exact ⟨k + 1, ad3, cp3, by omega, by go_num, rfl, H1.out, H7.out⟩
        case measure => simp [intOf]; omega
      · subst hc
        have HTK : Hid ((capL zs z).take k ++ [z] = (capL zs z).take (k + 1)) := by show _ = _; rw [← hTK, show min z z = z by omega]
        clear hTK
        go_wp2_with (at_builtin; refine wpList_append_int rfl _ _ _ rfl Try.underlying22 w.heap.size _ ((capL zs z).take k) rfl (hO.out.alloc _) wr.heap.size 1 z rfl ((Row.new' wr [_] _ rfl).cell 0 rfl) (by rw [HLk.out]; omega) (by have := hB.out.size; simp; omega) ?_; intro v' w5 hown1 hbl1 hsz1)
        have H7 := Lib.hid (hbl1 w ((hB.out).alloc (by have := hB.out.size; omega) _))
        rw [HTK.out] at hown1
        obtain ⟨ad3, cp3, rfl, ho3⟩ := hown1.form (k + 1) (by rw [List.length_take, capL_length, HL.out]; omega)
        have H1 := Lib.hid ho3
        clear hown1 hbl1 ho3
        go_wp2_with fail
        go_roundw
        case rel => exact ⟨k + 1, ad3, cp3, by omega, by go_num, rfl, H1.out, H7.out⟩
        case measure => simp [intOf]; omega
      · have HTK : Hid ((capL zs h).take k ++ [h] = (capL zs h).take (k + 1)) := by show _ = _; rw [← hTK, show min z h = h by omega]
        clear hTK
        go_wp2_with (at_builtin; refine wpList_append_int rfl _ _ _ rfl Try.underlying22 w.heap.size _ ((capL zs h).take k) rfl (hO.out.alloc _) wr.heap.size 1 h rfl ((Row.new' wr [_] _ rfl).cell 0 rfl) (by rw [HLk.out]; omega) (by have := hB.out.size; simp; omega) ?_; intro v' w5 hown1 hbl1 hsz1)
        have H7 := Lib.hid (hbl1 w ((hB.out).alloc (by have := hB.out.size; omega) _))
        rw [HTK.out] at hown1
        obtain ⟨ad3, cp3, rfl, ho3⟩ := hown1.form (k + 1) (by rw [List.length_take, capL_length, HL.out]; omega)
        have H1 := Lib.hid ho3
        clear hown1 hbl1 ho3
        go_wp2_with fail
        go_roundw
        case rel => exact ⟨k + 1, ad3, cp3, by omega, by go_num, rfl, H1.out, H7.out⟩
        case measure => simp [intOf]; omega
    · obtain rfl : n = k := by omega
      have HV : Hid (OwnV wr w.heap.size (.slice ad n cp) (capL zs h)) := by
        have := hO.out
        rwa [List.take_of_length_le (by rw [capL_length, HL.out]; omega)] at this
      go_wp2_with fail
      go_ret
      exact ⟨_, rfl, HV.out, hB.out⟩

end

section
set_option linter.unusedSimpArgs false
set_option linter.unusedVariables false
open Go.RowKit

set_option maxRecDepth 100000 in
set_option maxHeartbeats 1600000 in
theorem keeps_any (zs : List Int) (c : Nat) (b : Int) (P Q : Nat) (a : Option Addr) (n cap : Nat) (w : World) (K : SlC w a n cap zs) (hb : sharesB zs = true) (hc : c ≤ 30) (hn : n ≤ 30) (hP : Row w P [.int .i64 c]) (hQ : Row w Q [.int .i64 b]) :
    Calls Try.prog 64 #[.slice a n cap, .pointer (some ⟨P, 0, none⟩), .pointer (some ⟨Q, 0, none⟩)] w fun e w' => e = .returned (.bool (decide (topS zs c ≤ b))) ∧ Below w.heap.size w w' := by
  obtain ⟨T, hT⟩ : ∃ T, topS zs c = T := ⟨_, rfl⟩
  rw [hT]
  have HT := Lib.hid hT
  have lP := hP.lt
  have lQ := hQ.lt
  have cP := hP.cell 0 rfl
  have HB := Lib.hid hb
  clear hT hb
  go_enter Try.func64, Try.ntmps64
  go_wp2_with fail
  refine (top_c c (min c n) (c : Int) a n cap zs _ (K.step (by (repeat' (first | (with_reducible exact Below.refl _ _) | (with_reducible assumption) | (with_reducible exact Bw.out (by with_reducible assumption)) | (with_reducible refine bw_alloc ?_ _) | (with_reducible refine bw_step ?_ (by with_reducible assumption)) | (with_reducible refine Below.alloc ?_ ?_ _) | (with_reducible refine Below.drew ?_) | (with_reducible refine below_drewN ?_ _) | (with_reducible refine Below.setCell ?_ ?_ _) | (with_reducible refine below_step ?_ (by with_reducible assumption) ?_) | (with_reducible exact Nat.le_refl _) | omega | (simp; omega) | (simp; done))))) rfl hc HB.out rfl hn).mono ?_
  rintro e w1 ⟨x1, x2, rfl, K1, hb1⟩
  have R_p_1 : Row w1 (P) [.int .i64 (c : Int)] := by (repeat' (first | (with_reducible assumption) | (with_reducible refine Row.new' _ _ _ (by first | rfl | (simp; done) | omega)) | (with_reducible refine Row.alloc ?_ _) | (with_reducible refine Row.drew ?_) | (with_reducible refine Row.drewN ?_ _) | (with_reducible refine Row.step ?_ (by with_reducible assumption)) | (with_reducible refine Row.set2' ?_ _ _; first | exact ⟨_, _, by with_reducible assumption⟩ | exact ⟨_, _, Row.alloc (by with_reducible assumption) _⟩ | exact ⟨_, _, Row.alloc (Row.alloc (by with_reducible assumption) _) _⟩) | (with_reducible refine Row.other ?_ (by first | omega | (simp; done) | (simp; omega)) _)))
  have c_p_0_1 := R_p_1.cell 0 rfl
  have l_p_1 := R_p_1.lt
  have R_q_1 : Row w1 (Q) [.int .i64 (b)] := by (repeat' (first | (with_reducible assumption) | (with_reducible refine Row.new' _ _ _ (by first | rfl | (simp; done) | omega)) | (with_reducible refine Row.alloc ?_ _) | (with_reducible refine Row.drew ?_) | (with_reducible refine Row.drewN ?_ _) | (with_reducible refine Row.step ?_ (by with_reducible assumption)) | (with_reducible refine Row.set2' ?_ _ _; first | exact ⟨_, _, by with_reducible assumption⟩ | exact ⟨_, _, Row.alloc (by with_reducible assumption) _⟩ | exact ⟨_, _, Row.alloc (Row.alloc (by with_reducible assumption) _) _⟩) | (with_reducible refine Row.other ?_ (by first | omega | (simp; done) | (simp; omega)) _)))
  have c_q_0_1 := R_q_1.cell 0 rfl
  have l_q_1 := R_q_1.lt
  replace K := K.step (show Below w.heap.size w w1 by (repeat' (first | (with_reducible exact Below.refl _ _) | (with_reducible assumption) | (with_reducible exact Bw.out (by with_reducible assumption)) | (with_reducible refine bw_alloc ?_ _) | (with_reducible refine bw_step ?_ (by with_reducible assumption)) | (with_reducible refine Below.alloc ?_ ?_ _) | (with_reducible refine Below.drew ?_) | (with_reducible refine below_drewN ?_ _) | (with_reducible refine Below.setCell ?_ ?_ _) | (with_reducible refine below_step ?_ (by with_reducible assumption) ?_) | (with_reducible exact Nat.le_refl _) | omega | (simp; omega) | (simp; done))))
  have HB1 : Below w.heap.size w w1 := by (repeat' (first | (with_reducible exact Below.refl _ _) | (with_reducible assumption) | (with_reducible exact Bw.out (by with_reducible assumption)) | (with_reducible refine bw_alloc ?_ _) | (with_reducible refine bw_step ?_ (by with_reducible assumption)) | (with_reducible refine Below.alloc ?_ ?_ _) | (with_reducible refine Below.drew ?_) | (with_reducible refine below_drewN ?_ _) | (with_reducible refine Below.setCell ?_ ?_ _) | (with_reducible refine below_step ?_ (by with_reducible assumption) ?_) | (with_reducible exact Nat.le_refl _) | omega | (simp; omega) | (simp; done)))
  rw [HT.out]
  clear K1
  go_wp2_with fail
  go_ret
  refine ⟨rfl, ?_⟩
  (repeat' (first | (with_reducible exact Below.refl _ _) | (with_reducible assumption) | (with_reducible exact Bw.out (by with_reducible assumption)) | (with_reducible refine bw_alloc ?_ _) | (with_reducible refine bw_step ?_ (by with_reducible assumption)) | (with_reducible refine Below.alloc ?_ ?_ _) | (with_reducible refine Below.drew ?_) | (with_reducible refine below_drewN ?_ _) | (with_reducible refine Below.setCell ?_ ?_ _) | (with_reducible refine below_step ?_ (by with_reducible assumption) ?_) | (with_reducible exact Nat.le_refl _) | omega | (simp; omega) | (simp; done)))

theorem sharesB_cap {zs : List Int} (hb : sharesB zs = true) {h : Int} (hh : 0 ≤ h) : sharesB (capL zs h) = true := by
  obtain ⟨h1, h2⟩ := sharesB_in hb
  refine sharesB_of (by rw [capL_length]; exact h1) (fun z hz => ?_)
  obtain ⟨y, hy, rfl⟩ := List.mem_map.1 hz
  have := h2 y hy
  omega

set_option maxRecDepth 100000 in
set_option maxHeartbeats 3200000 in
theorem overA_any (zs : List Int) (c : Nat) (b : Int) (P Q C1 C2 : Nat) (a : Option Addr) (n cap : Nat) (h : Int) (w : World) (K : SlC w a n cap zs) (hb : sharesB zs = true) (hc : c ≤ 30) (hn : n ≤ 30) (hP : Row w P [.int .i64 c]) (hQ : Row w Q [.int .i64 b])
    (h1 : Row w C1 [Value.func (.func 64) #[] #[.pointer (some ⟨P, 0, none⟩), .pointer (some ⟨Q, 0, none⟩)]]) (h2 : Row w C2 [.slice a n cap]) (hh0 : 0 ≤ h) (hh1 : h ≤ 400) :
    Calls Try.prog 66 #[.int .i64 h, .pointer (some ⟨C1, 0, none⟩), .pointer (some ⟨C2, 0, none⟩)] w fun e w' => e = .returned (.bool (decide (b < topS (capL zs (h + 1)) c))) ∧ Below w.heap.size w w' := by
  obtain ⟨T, hT⟩ : ∃ T, topS (capL zs (h + 1)) c = T := ⟨_, rfl⟩
  rw [hT]
  have HT := Lib.hid hT
  have HSB := Lib.hid (sharesB_cap hb (h := h + 1) (by omega))
  have HIN := Lib.hid (sharesB_in hb).2
  have HL := Lib.hid K.1
  have HW1 := Lib.hid (IntWalk.i64_in (h + 1) (by omega))
  have HS0 := Lib.hid (show w.cell? ⟨C1, 0, none⟩ = some (Value.func (.func 64) #[] #[.pointer (some ⟨P, 0, none⟩), .pointer (some ⟨Q, 0, none⟩)]) ∧ w.cell? ⟨C2, 0, none⟩ = some (.slice a n cap) from ⟨h1.cell 0 rfl, h2.cell 0 rfl⟩)
  have HC1 := Lib.hid h1
  have HC2 := Lib.hid h2
  clear hT hb h1 h2
  go_enter Try.func66, Try.ntmps66
  go_wp2_with fail
  refine AnyJ.beginP (fun w' : World => w'.cell? ⟨C1, 0, none⟩ = some (Value.func (.func 64) #[] #[.pointer (some ⟨P, 0, none⟩), .pointer (some ⟨Q, 0, none⟩)]) ∧ w'.cell? ⟨C2, 0, none⟩ = some (.slice a n cap)) (fun q => decide (q ≤ 6)) (by kernel_rfl) HS0.out (fun hS => ?_)
  refine AnyJ.takeD (i := 0) (d := some 5) (v := ?_) rfl (by kernel_rfl) (by kernel_rfl) (by kernel_rfl) (by kernel_rfl) (by kernel_rfl) (fun _ _ _ h => h) (Or.inl ⟨by kernel_rfl, ?_⟩) hS ?_
  rotate_left
  · intro w' hS
    obtain ⟨sF0, sF1⟩ := hS
    go_simp
    try with_reducible rfl
  refine AnyJ.takeD (i := 1) (d := some 6) (v := ?_) rfl (by kernel_rfl) (by kernel_rfl) (by kernel_rfl) (by kernel_rfl) (by kernel_rfl) (fun _ _ _ h => h) (Or.inl ⟨by kernel_rfl, ?_⟩) hS ?_
  rotate_left
  · intro w' hS
    obtain ⟨sF0, sF1⟩ := hS
    go_simp
    try with_reducible rfl
  refine AnyJ.takeD (i := 2) (d := some 7) (v := ?_) rfl (by kernel_rfl) (by kernel_rfl) (by kernel_rfl) (by kernel_rfl) (by kernel_rfl) (fun _ _ _ h => h) (Or.inl ⟨by kernel_rfl, ?_⟩) hS ?_
  rotate_left
  · intro w' hS
    clear hS
    go_simp
    try with_reducible rfl
  refine AnyJ.takeD (i := 3) (d := some 8) (v := ?_) rfl (by kernel_rfl) (by kernel_rfl) (by kernel_rfl) (by kernel_rfl) (by kernel_rfl) (fun _ _ _ h => h) (Or.inl ⟨by kernel_rfl, ?_⟩) hS ?_
  rotate_left
  · intro w' hS
    clear hS
    go_simp
    try with_reducible rfl
  clear hS
  refine AnyJ.one (i := 4) (by kernel_rfl) rfl (fun Kz hKz => ?_)
  go_simp
  rw [HW1.out]
  refine (capped_any a n cap zs (h + 1) _ (by omega) K.drew.sl (fun z hz => by have := HIN.out z hz; omega)).mono ?_
  rintro e w4 ⟨v, rfl, HO, hb4⟩
  obtain ⟨ad, cp, rfl, ho⟩ := HO.form n (by rw [capL_length]; exact HL.out)
  have KV : SlC w4 ad n cp (capL zs (h + 1)) := by
    obtain ⟨ad', cap', e, k1, k2, k3⟩ := ho.sl
    exact ⟨by rw [capL_length]; exact HL.out, ad', cap', e, k1, k2, k3⟩
  have hb5 : Below w.heap.size w w4 := ((Below.refl w.heap.size w).drew).trans hb4
  refine hKz _ _ (fun _ => ⟨(HC1.out.step hb5).cell 0 rfl, (HC2.out.step hb5).cell 0 rfl⟩) ?_
  clear hKz Kz ho HO hb4
  refine AnyJ.one (i := 5) (by kernel_rfl) rfl (fun Kz hKz => ?_)
  go_simp
  refine (keeps_any (capL zs (h + 1)) c b P Q ad n cp _ KV HSB.out hc hn (hP.step hb5) (hQ.step hb5)).mono ?_
  rintro e w6 ⟨rfl, hb6⟩
  rw [HT.out]
  have hb7 : Below w.heap.size w w6 := hb5.trans (hb6.mono hb5.size)
  have hS6 := And.intro ((HC1.out.step hb7).cell 0 rfl) ((HC2.out.step hb7).cell 0 rfl)
  refine hKz _ _ (fun _ => hS6) ?_
  clear hKz Kz
  refine AnyJ.takeD (i := 6) (d := some 11) (v := ?_) rfl (by kernel_rfl) (by kernel_rfl) (by kernel_rfl) (by kernel_rfl) (by kernel_rfl) (fun _ _ _ h => h) (Or.inl ⟨by kernel_rfl, ?_⟩) hS6 ?_
  rotate_left
  · intro w' hS
    clear hS
    go_simp
    try with_reducible rfl
  refine AnyJ.takeD (i := 7) (d := some 4) (v := ?_) rfl (by kernel_rfl) (by kernel_rfl) (by kernel_rfl) (by kernel_rfl) (by kernel_rfl) (fun _ _ _ h => h) (Or.inl ⟨by kernel_rfl, ?_⟩) hS6 ?_
  rotate_left
  · intro w' hS
    clear hS
    go_simp
    try with_reducible rfl
  refine AnyJ.done (by kernel_rfl) ?_ _
  try simp only [Act.put, List.setIfInBounds_toArray, List.set_cons_zero, List.set_cons_succ]
  go_wp2_with fail
  go_ret
  exact ⟨ret_bool (by first | rfl | (by_cases hx : T ≤ b <;> simp [hx] <;> omega)), hb7⟩

end

section
set_option linter.unusedSimpArgs false
set_option linter.unusedVariables false
open Go.RowKit

set_option maxRecDepth 100000 in
set_option maxHeartbeats 3200000 in
theorem search_any (zs : List Int) (c : Nat) (b : Int) (P Q C1 C2 : Nat) (a : Option Addr) (n cap : Nat) (w : World) (K : SlC w a n cap zs) (hb : sharesB zs = true) (hc : c ≤ 30) (hn : n ≤ 30) (hP : Row w P [.int .i64 c]) (hQ : Row w Q [.int .i64 b])
    (h1 : Row w C1 [Value.func (.func 64) #[] #[.pointer (some ⟨P, 0, none⟩), .pointer (some ⟨Q, 0, none⟩)]]) (h2 : Row w C2 [.slice a n cap]) :
    Calls Try.prog 65 #[.int .i64 400, Value.func (.func 66) #[] #[.pointer (some ⟨C1, 0, none⟩), .pointer (some ⟨C2, 0, none⟩)]] w fun e w' => e = .returned (.int .i64 (lvl zs c b)) ∧ Below w.heap.size w w' := by
  have h0 : ∀ z ∈ zs, 0 ≤ z := fun z hz => ((sharesB_in hb).2 z hz).1
  have HM : Hid (∀ x y : Nat, x ≤ y → topS (capL zs ((x : Int) + 1)) c ≤ topS (capL zs ((y : Int) + 1)) c) := fun x y hxy => capL_mono h0 (by omega) (by omega) c
  have HK := Lib.hid K
  have HSB := Lib.hid hb
  have HP := Lib.hid hP
  have HQ := Lib.hid hQ
  have HC1 := Lib.hid h1
  have HC2 := Lib.hid h2
  clear K hb hP hQ h1 h2 h0
  go_enter Try.func65, Try.ntmps65
  go_wp2_with fail
  go_loopw [5, 6] (fun u v wr => ∃ i j : Nat, i ≤ j ∧ j ≤ 400 ∧ u = .int .i64 i ∧ v = .int .i64 j ∧ Hid (∀ x : Nat, x < i → topS (capL zs ((x : Int) + 1)) c ≤ b) ∧ Hid (j < 400 → b < topS (capL zs ((j : Int) + 1)) c) ∧ Hid (Below w.heap.size w wr)) (fun u v _ => (intOf v - intOf u).toNat)
  case atStart => exact ⟨0, 400, Nat.zero_le _, Nat.le_refl _, rfl, rfl, (fun x hx => by omega), (fun h => by omega), Below.refl _ _⟩
  case round =>
    obtain ⟨i, j, hij, hj, rfl, rfl, hL, hR, hB⟩ := hrel
    by_cases hlt : i < j
    · obtain ⟨m, hm⟩ : ∃ m, (i + j) / 2 = m := ⟨_, rfl⟩
      have hm1 : i ≤ m := by omega
      have hm2 : m < j := by omega
      obtain ⟨p, hp⟩ : ∃ p, decide (b < topS (capL zs ((m : Int) + 1)) c) = p := ⟨_, rfl⟩
      have HPP := Lib.hid hp
      have HMM := Lib.hid hm
      have e1 : ((i : Int) + (j : Int)) / 2 = (m : Int) := by omega
      have e2 : ((i : Int) + (j : Int)) >>> 1 = (m : Int) := by rw [Int.shiftRight_eq_div_pow]; simpa using e1
      clear hm hp
      go_wp2_with fail
      refine (overA_any zs c b P Q C1 C2 a n cap m _ (HK.out.step (by show Below w.heap.size w _; exact hB.out)) HSB.out hc hn (HP.out.step hB.out) (HQ.out.step hB.out) (HC1.out.step hB.out) (HC2.out.step hB.out) (by omega) (by omega)).mono ?_
      rintro e w2 ⟨rfl, hb2⟩
      have HB2 := Lib.hid (hB.out.trans (hb2.mono hB.out.size))
      rw [HPP.out]
      clear hb2 e1 e2
      cases p with
      | false =>
        have hle : topS (capL zs ((m : Int) + 1)) c ≤ b := by have := HPP.out; simp at this; exact this
        have HL2 : Hid (∀ x : Nat, x < m + 1 → topS (capL zs ((x : Int) + 1)) c ≤ b) := fun x hx => Int.le_trans (HM.out x m (by omega)) hle
        clear hle
        go_wp2_with fail
        go_roundw
        case rel => exact ⟨m + 1, j, by omega, hj, by go_num, rfl, HL2.out, hR.out, HB2.out⟩
        case measure => simp [intOf]; omega
      | true =>
        have HR2 : Hid (m < 400 → b < topS (capL zs ((m : Int) + 1)) c) := fun _ => by have := HPP.out; simp at this; exact this
        go_wp2_with fail
        go_roundw
        case rel => exact ⟨i, m, hm1, by omega, rfl, rfl, hL.out, HR2.out, HB2.out⟩
        case measure => simp [intOf]; omega
    · obtain rfl : i = j := by omega
      have HLV : Hid (lvl zs c b = i) := lvl_unique hj hL.out hR.out
      go_wp2_with fail
      go_ret
      exact ⟨by rw [HLV.out]; rfl, hB.out⟩

end

section
set_option linter.unusedSimpArgs false
set_option linter.unusedVariables false
open Go.RowKit

/-- A store into a slice of the call's own. -/
theorem OwnV.setI {w : World} {base g n cap : Nat} {zs : List Int} (h : OwnV w base (.slice (some ⟨g, 0, none⟩) n cap) zs) {i : Nat} (hi : i < zs.length) (x : Int) : OwnV (w.setCell ⟨g, i, none⟩ (.int .i64 x)) base (.slice (some ⟨g, 0, none⟩) n cap) (zs.set i x) := by
  obtain ⟨h1, h2⟩ := h
  rcases h2 with ⟨h0, _⟩ | ⟨g', cap', cur, e1, e2, e3, e4, e5, e6, e7⟩
  · simp at h0
  · simp only [Value.slice.injEq, Option.some.injEq, Addr.mk.injEq] at e1
    obtain ⟨⟨rfl, _⟩, rfl, rfl⟩ := e1
    refine ⟨by simp, Or.inr ⟨g, cap, cur.setIfInBounds i (.int .i64 x), by rw [List.length_set], e2, ?_, by rw [List.length_set]; exact e4, e5, by simpa using e6, ?_⟩⟩
    · simp [World.setCell, Array.getElem?_modify, e3]
    · rw [List.length_set, Array.toList_setIfInBounds, List.take_set, e7, List.map_set]
theorem OwnV.low {w : World} {b0 base : Nat} {v : Value} {zs : List Int} (h : OwnV w base v zs) (hb : b0 ≤ base) : OwnV w b0 v zs := by
  obtain ⟨h1, h2⟩ := h
  rcases h2 with h2 | ⟨g, cap, cur, e1, e2, e3⟩
  · exact ⟨h1, Or.inl h2⟩
  · exact ⟨h1, Or.inr ⟨g, cap, cur, e1, by omega, e3⟩⟩
theorem OwnV.g {w : World} {base n cap : Nat} {ad : Option Addr} {zs : List Int} (h : OwnV w base (.slice ad n cap) zs) (h0 : 0 < zs.length) : ∃ g, ad = some ⟨g, 0, none⟩ ∧ base ≤ g ∧ OwnI w g zs := by
  obtain ⟨g, c, e, h1, h2, _⟩ := h.own h0
  simp only [Value.slice.injEq] at e
  exact ⟨g, e.1, h1, h2⟩

theorem sharesB_divP {zs : List Int} (hb : sharesB zs = true) {h : Int} (hh : 0 ≤ h) (k : Nat) : sharesB (divP zs h k) = true := by
  obtain ⟨h1, h2⟩ := sharesB_in hb
  refine sharesB_of (by rw [divP_length]; exact h1) (fun z hz => ?_)
  obtain ⟨i, hi, rfl⟩ := List.mem_map.1 hz
  have := h2 _ (getD_memA (List.mem_range.1 hi))
  split <;> omega
set_option maxRecDepth 100000 in
set_option maxHeartbeats 3200000 in
theorem divide_any (zs : List Int) (c : Nat) (b : Int) (a : Option Addr) (n cap : Nat) (w : World) (K : SlC w a n cap zs) (hb : sharesB zs = true) (hc : c ≤ 30) (hn : n ≤ 30) (hb0 : 0 ≤ b) (hb1 : b ≤ 10000) :
    Calls Try.prog 43 #[.slice a n cap, .int .i64 c, .int .i64 b] w fun e w' => ∃ v, e = .returned v ∧ OwnV w' w.heap.size v (divA zs c b) ∧ Below w.heap.size w w' := by
  obtain ⟨h, hh⟩ : ∃ h, lvl zs c b = h := ⟨_, rfl⟩
  have hh4 : h ≤ 400 := by rw [← hh]; exact (lvl_spec zs c b).1
  have HLV := Lib.hid hh
  have HSB := Lib.hid hb
  have HIN := Lib.hid (sharesB_in hb).2
  have HBD : Hid (∀ z ∈ zs, -9223372036854775808 ≤ z ∧ z ≤ 9223372036854775807) := fun z hz => by have := HIN.out z hz; omega
  have HL := Lib.hid K.1
  have HK0 := Lib.hid K
  have HDV : Hid (divA zs c b = divP zs h (fillF zs c b h n 0)) := by show _ = _; unfold divA; rw [hh, HL.out]
  clear hh hb
  go_enter Try.func43, Try.ntmps43
  go_wp2_with fail
  refine (search_any zs c b (w.heap.size + 1) (w.heap.size + 2) (w.heap.size + 3) w.heap.size a n cap _ (K.step (by (repeat' (first | (with_reducible exact Below.refl _ _) | (with_reducible assumption) | (with_reducible exact Bw.out (by with_reducible assumption)) | (with_reducible refine bw_alloc ?_ _) | (with_reducible refine bw_step ?_ (by with_reducible assumption)) | (with_reducible refine Below.alloc ?_ ?_ _) | (with_reducible refine Below.drew ?_) | (with_reducible refine below_drewN ?_ _) | (with_reducible refine Below.setCell ?_ ?_ _) | (with_reducible refine below_step ?_ (by with_reducible assumption) ?_) | (with_reducible exact Nat.le_refl _) | omega | (simp; omega) | (simp; done))))) HSB.out hc hn (by (repeat' (first | (with_reducible assumption) | (with_reducible refine Row.new' _ _ _ (by first | rfl | (simp; done) | omega)) | (with_reducible refine Row.alloc ?_ _) | (with_reducible refine Row.drew ?_) | (with_reducible refine Row.drewN ?_ _) | (with_reducible refine Row.step ?_ (by with_reducible assumption)) | (with_reducible refine Row.set2' ?_ _ _; first | exact ⟨_, _, by with_reducible assumption⟩ | exact ⟨_, _, Row.alloc (by with_reducible assumption) _⟩ | exact ⟨_, _, Row.alloc (Row.alloc (by with_reducible assumption) _) _⟩) | (with_reducible refine Row.other ?_ (by first | omega | (simp; done) | (simp; omega)) _)))) (by (repeat' (first | (with_reducible assumption) | (with_reducible refine Row.new' _ _ _ (by first | rfl | (simp; done) | omega)) | (with_reducible refine Row.alloc ?_ _) | (with_reducible refine Row.drew ?_) | (with_reducible refine Row.drewN ?_ _) | (with_reducible refine Row.step ?_ (by with_reducible assumption)) | (with_reducible refine Row.set2' ?_ _ _; first | exact ⟨_, _, by with_reducible assumption⟩ | exact ⟨_, _, Row.alloc (by with_reducible assumption) _⟩ | exact ⟨_, _, Row.alloc (Row.alloc (by with_reducible assumption) _) _⟩) | (with_reducible refine Row.other ?_ (by first | omega | (simp; done) | (simp; omega)) _)))) (by (repeat' (first | (with_reducible assumption) | (with_reducible refine Row.new' _ _ _ (by first | rfl | (simp; done) | omega)) | (with_reducible refine Row.alloc ?_ _) | (with_reducible refine Row.drew ?_) | (with_reducible refine Row.drewN ?_ _) | (with_reducible refine Row.step ?_ (by with_reducible assumption)) | (with_reducible refine Row.set2' ?_ _ _; first | exact ⟨_, _, by with_reducible assumption⟩ | exact ⟨_, _, Row.alloc (by with_reducible assumption) _⟩ | exact ⟨_, _, Row.alloc (Row.alloc (by with_reducible assumption) _) _⟩) | (with_reducible refine Row.other ?_ (by first | omega | (simp; done) | (simp; omega)) _)))) (by (repeat' (first | (with_reducible assumption) | (with_reducible refine Row.new' _ _ _ (by first | rfl | (simp; done) | omega)) | (with_reducible refine Row.alloc ?_ _) | (with_reducible refine Row.drew ?_) | (with_reducible refine Row.drewN ?_ _) | (with_reducible refine Row.step ?_ (by with_reducible assumption)) | (with_reducible refine Row.set2' ?_ _ _; first | exact ⟨_, _, by with_reducible assumption⟩ | exact ⟨_, _, Row.alloc (by with_reducible assumption) _⟩ | exact ⟨_, _, Row.alloc (Row.alloc (by with_reducible assumption) _) _⟩) | (with_reducible refine Row.other ?_ (by first | omega | (simp; done) | (simp; omega)) _))))).mono ?_
  rintro e w1 ⟨rfl, hb1⟩
  have R_z_1 : Row w1 (w.heap.size) [.slice a n cap] := by (repeat' (first | (with_reducible assumption) | (with_reducible refine Row.new' _ _ _ (by first | rfl | (simp; done) | omega)) | (with_reducible refine Row.alloc ?_ _) | (with_reducible refine Row.drew ?_) | (with_reducible refine Row.drewN ?_ _) | (with_reducible refine Row.step ?_ (by with_reducible assumption)) | (with_reducible refine Row.set2' ?_ _ _; first | exact ⟨_, _, by with_reducible assumption⟩ | exact ⟨_, _, Row.alloc (by with_reducible assumption) _⟩ | exact ⟨_, _, Row.alloc (Row.alloc (by with_reducible assumption) _) _⟩) | (with_reducible refine Row.other ?_ (by first | omega | (simp; done) | (simp; omega)) _)))
  have c_z_0_1 := R_z_1.cell 0 rfl
  have l_z_1 := R_z_1.lt
  have R_p_1 : Row w1 (w.heap.size + 1) [.int .i64 (c)] := by (repeat' (first | (with_reducible assumption) | (with_reducible refine Row.new' _ _ _ (by first | rfl | (simp; done) | omega)) | (with_reducible refine Row.alloc ?_ _) | (with_reducible refine Row.drew ?_) | (with_reducible refine Row.drewN ?_ _) | (with_reducible refine Row.step ?_ (by with_reducible assumption)) | (with_reducible refine Row.set2' ?_ _ _; first | exact ⟨_, _, by with_reducible assumption⟩ | exact ⟨_, _, Row.alloc (by with_reducible assumption) _⟩ | exact ⟨_, _, Row.alloc (Row.alloc (by with_reducible assumption) _) _⟩) | (with_reducible refine Row.other ?_ (by first | omega | (simp; done) | (simp; omega)) _)))
  have c_p_0_1 := R_p_1.cell 0 rfl
  have l_p_1 := R_p_1.lt
  have R_q_1 : Row w1 (w.heap.size + 2) [.int .i64 (b)] := by (repeat' (first | (with_reducible assumption) | (with_reducible refine Row.new' _ _ _ (by first | rfl | (simp; done) | omega)) | (with_reducible refine Row.alloc ?_ _) | (with_reducible refine Row.drew ?_) | (with_reducible refine Row.drewN ?_ _) | (with_reducible refine Row.step ?_ (by with_reducible assumption)) | (with_reducible refine Row.set2' ?_ _ _; first | exact ⟨_, _, by with_reducible assumption⟩ | exact ⟨_, _, Row.alloc (by with_reducible assumption) _⟩ | exact ⟨_, _, Row.alloc (Row.alloc (by with_reducible assumption) _) _⟩) | (with_reducible refine Row.other ?_ (by first | omega | (simp; done) | (simp; omega)) _)))
  have c_q_0_1 := R_q_1.cell 0 rfl
  have l_q_1 := R_q_1.lt
  have R_f_1 : Row w1 (w.heap.size + 3) [Value.func (.func 64) #[] #[.pointer (some ⟨w.heap.size + 1, 0, none⟩), .pointer (some ⟨w.heap.size + 2, 0, none⟩)]] := by (repeat' (first | (with_reducible assumption) | (with_reducible refine Row.new' _ _ _ (by first | rfl | (simp; done) | omega)) | (with_reducible refine Row.alloc ?_ _) | (with_reducible refine Row.drew ?_) | (with_reducible refine Row.drewN ?_ _) | (with_reducible refine Row.step ?_ (by with_reducible assumption)) | (with_reducible refine Row.set2' ?_ _ _; first | exact ⟨_, _, by with_reducible assumption⟩ | exact ⟨_, _, Row.alloc (by with_reducible assumption) _⟩ | exact ⟨_, _, Row.alloc (Row.alloc (by with_reducible assumption) _) _⟩) | (with_reducible refine Row.other ?_ (by first | omega | (simp; done) | (simp; omega)) _)))
  have c_f_0_1 := R_f_1.cell 0 rfl
  have l_f_1 := R_f_1.lt
  replace K := K.step (show Below w.heap.size w w1 by (repeat' (first | (with_reducible exact Below.refl _ _) | (with_reducible assumption) | (with_reducible exact Bw.out (by with_reducible assumption)) | (with_reducible refine bw_alloc ?_ _) | (with_reducible refine bw_step ?_ (by with_reducible assumption)) | (with_reducible refine Below.alloc ?_ ?_ _) | (with_reducible refine Below.drew ?_) | (with_reducible refine below_drewN ?_ _) | (with_reducible refine Below.setCell ?_ ?_ _) | (with_reducible refine below_step ?_ (by with_reducible assumption) ?_) | (with_reducible exact Nat.le_refl _) | omega | (simp; omega) | (simp; done))))
  have HB1 : Below w.heap.size w w1 := by (repeat' (first | (with_reducible exact Below.refl _ _) | (with_reducible assumption) | (with_reducible exact Bw.out (by with_reducible assumption)) | (with_reducible refine bw_alloc ?_ _) | (with_reducible refine bw_step ?_ (by with_reducible assumption)) | (with_reducible refine Below.alloc ?_ ?_ _) | (with_reducible refine Below.drew ?_) | (with_reducible refine below_drewN ?_ _) | (with_reducible refine Below.setCell ?_ ?_ _) | (with_reducible refine below_step ?_ (by with_reducible assumption) ?_) | (with_reducible exact Nat.le_refl _) | omega | (simp; omega) | (simp; done)))
  rw [HLV.out]
  go_wp2_with fail
  refine (capped_any a n cap zs h _ (by omega) (K.step (by (repeat' (first | (with_reducible exact Below.refl _ _) | (with_reducible assumption) | (with_reducible exact Bw.out (by with_reducible assumption)) | (with_reducible refine bw_alloc ?_ _) | (with_reducible refine bw_step ?_ (by with_reducible assumption)) | (with_reducible refine Below.alloc ?_ ?_ _) | (with_reducible refine Below.drew ?_) | (with_reducible refine below_drewN ?_ _) | (with_reducible refine Below.setCell ?_ ?_ _) | (with_reducible refine below_step ?_ (by with_reducible assumption) ?_) | (with_reducible exact Nat.le_refl _) | omega | (simp; omega) | (simp; done))))).sl HBD.out).mono ?_
  rintro e w2 ⟨v, rfl, HO, hb2⟩
  have R_z_2 : Row w2 (w.heap.size) [.slice a n cap] := by (repeat' (first | (with_reducible assumption) | (with_reducible refine Row.new' _ _ _ (by first | rfl | (simp; done) | omega)) | (with_reducible refine Row.alloc ?_ _) | (with_reducible refine Row.drew ?_) | (with_reducible refine Row.drewN ?_ _) | (with_reducible refine Row.step ?_ (by with_reducible assumption)) | (with_reducible refine Row.set2' ?_ _ _; first | exact ⟨_, _, by with_reducible assumption⟩ | exact ⟨_, _, Row.alloc (by with_reducible assumption) _⟩ | exact ⟨_, _, Row.alloc (Row.alloc (by with_reducible assumption) _) _⟩) | (with_reducible refine Row.other ?_ (by first | omega | (simp; done) | (simp; omega)) _)))
  have c_z_0_2 := R_z_2.cell 0 rfl
  have l_z_2 := R_z_2.lt
  have R_p_2 : Row w2 (w.heap.size + 1) [.int .i64 (c)] := by (repeat' (first | (with_reducible assumption) | (with_reducible refine Row.new' _ _ _ (by first | rfl | (simp; done) | omega)) | (with_reducible refine Row.alloc ?_ _) | (with_reducible refine Row.drew ?_) | (with_reducible refine Row.drewN ?_ _) | (with_reducible refine Row.step ?_ (by with_reducible assumption)) | (with_reducible refine Row.set2' ?_ _ _; first | exact ⟨_, _, by with_reducible assumption⟩ | exact ⟨_, _, Row.alloc (by with_reducible assumption) _⟩ | exact ⟨_, _, Row.alloc (Row.alloc (by with_reducible assumption) _) _⟩) | (with_reducible refine Row.other ?_ (by first | omega | (simp; done) | (simp; omega)) _)))
  have c_p_0_2 := R_p_2.cell 0 rfl
  have l_p_2 := R_p_2.lt
  have R_q_2 : Row w2 (w.heap.size + 2) [.int .i64 (b)] := by (repeat' (first | (with_reducible assumption) | (with_reducible refine Row.new' _ _ _ (by first | rfl | (simp; done) | omega)) | (with_reducible refine Row.alloc ?_ _) | (with_reducible refine Row.drew ?_) | (with_reducible refine Row.drewN ?_ _) | (with_reducible refine Row.step ?_ (by with_reducible assumption)) | (with_reducible refine Row.set2' ?_ _ _; first | exact ⟨_, _, by with_reducible assumption⟩ | exact ⟨_, _, Row.alloc (by with_reducible assumption) _⟩ | exact ⟨_, _, Row.alloc (Row.alloc (by with_reducible assumption) _) _⟩) | (with_reducible refine Row.other ?_ (by first | omega | (simp; done) | (simp; omega)) _)))
  have c_q_0_2 := R_q_2.cell 0 rfl
  have l_q_2 := R_q_2.lt
  have R_f_2 : Row w2 (w.heap.size + 3) [Value.func (.func 64) #[] #[.pointer (some ⟨w.heap.size + 1, 0, none⟩), .pointer (some ⟨w.heap.size + 2, 0, none⟩)]] := by (repeat' (first | (with_reducible assumption) | (with_reducible refine Row.new' _ _ _ (by first | rfl | (simp; done) | omega)) | (with_reducible refine Row.alloc ?_ _) | (with_reducible refine Row.drew ?_) | (with_reducible refine Row.drewN ?_ _) | (with_reducible refine Row.step ?_ (by with_reducible assumption)) | (with_reducible refine Row.set2' ?_ _ _; first | exact ⟨_, _, by with_reducible assumption⟩ | exact ⟨_, _, Row.alloc (by with_reducible assumption) _⟩ | exact ⟨_, _, Row.alloc (Row.alloc (by with_reducible assumption) _) _⟩) | (with_reducible refine Row.other ?_ (by first | omega | (simp; done) | (simp; omega)) _)))
  have c_f_0_2 := R_f_2.cell 0 rfl
  have l_f_2 := R_f_2.lt
  replace K := K.step (show Below w1.heap.size w1 w2 by (repeat' (first | (with_reducible exact Below.refl _ _) | (with_reducible assumption) | (with_reducible exact Bw.out (by with_reducible assumption)) | (with_reducible refine bw_alloc ?_ _) | (with_reducible refine bw_step ?_ (by with_reducible assumption)) | (with_reducible refine Below.alloc ?_ ?_ _) | (with_reducible refine Below.drew ?_) | (with_reducible refine below_drewN ?_ _) | (with_reducible refine Below.setCell ?_ ?_ _) | (with_reducible refine below_step ?_ (by with_reducible assumption) ?_) | (with_reducible exact Nat.le_refl _) | omega | (simp; omega) | (simp; done))))
  have HB2 : Below w.heap.size w w2 := by (repeat' (first | (with_reducible exact Below.refl _ _) | (with_reducible assumption) | (with_reducible exact Bw.out (by with_reducible assumption)) | (with_reducible refine bw_alloc ?_ _) | (with_reducible refine bw_step ?_ (by with_reducible assumption)) | (with_reducible refine Below.alloc ?_ ?_ _) | (with_reducible refine Below.drew ?_) | (with_reducible refine below_drewN ?_ _) | (with_reducible refine Below.setCell ?_ ?_ _) | (with_reducible refine below_step ?_ (by with_reducible assumption) ?_) | (with_reducible exact Nat.le_refl _) | omega | (simp; omega) | (simp; done)))
  clear R_z_1 c_z_0_1 R_p_1 c_p_0_1 R_q_1 c_q_0_1 R_f_1 c_f_0_1 hb1 HB1
  obtain ⟨ad, cp, rfl, HO1⟩ := HO.form n (by rw [capL_length]; exact HL.out)
  have HO2 : Hid (OwnV w2 w1.heap.size (.slice ad n cp) (divP zs h 0)) := by show OwnV _ _ _ _; rw [divP_zero]; exact HO1
  have hz1 : w.heap.size + 4 ≤ w1.heap.size := by omega
  have hz2 : w1.heap.size ≤ w2.heap.size := hb2.size
  have HBB := Lib.hid HB2
  clear HO HO1
  go_wp2_with fail
  go_loopw [20] (fun i wr => ∃ k : Nat, k ≤ n ∧ i = .int .i64 k ∧ Hid (OwnV wr w1.heap.size (.slice ad n cp) (divP zs h k)) ∧ Hid (fillF zs c b h (n - k) k = fillF zs c b h n 0) ∧ Hid (Below w1.heap.size w2 wr)) (fun i _ => n - (intOf i).toNat)
  case atStart => exact ⟨0, Nat.zero_le _, rfl, HO2.out, rfl, Below.refl _ _⟩
  case round =>
    obtain ⟨k, hk, rfl, hO, hF, hB⟩ := hrel
    have HBw : Hid (Below w.heap.size w wr) := HBB.out.trans (hB.out.mono (by omega))
    have HRf := Lib.hid (R_f_2.below hB.out (by omega))
    have HRp := Lib.hid (R_p_2.below hB.out (by omega))
    have HRq := Lib.hid (R_q_2.below hB.out (by omega))
    have cf := HRf.out.cell 0 rfl
    have hzr := hB.out.size
    by_cases hlt : k < n
    · obtain ⟨b0, off, z, hpa, hbl, cz, gz, _, gm⟩ := (HK0.out.sl.below HBw.out).get hlt
      subst hpa
      obtain ⟨z0, z1⟩ := HIN.out z gm.out
      have hkl : k < zs.length := by rw [HL.out]; exact hlt
      have HFS : Hid (fillF zs c b h (n - k) k = if zs.getD k 0 ≤ h then fillF zs c b h (n - (k + 1)) (k + 1) else if topS (divP zs h (k + 1)) c ≤ b then fillF zs c b h (n - (k + 1)) (k + 1) else k) := by
        show _ = _
        rw [show n - k = (n - (k + 1)) + 1 by omega]; rfl
      have GZ := Lib.hid gz.out
      have i1 : (0 : Int) ≤ (k : Int) := by omega
      have i2 : (k : Int) < (n : Int) := by omega
      have HKL := Lib.hid hkl
      clear gz gm hkl
      by_cases hzh : z ≤ (h : Int)
      · have HF2 : Hid (fillF zs c b h (n - (k + 1)) (k + 1) = fillF zs c b h n 0) := by
          show _ = _
          rw [← hF.out, HFS.out, GZ.out, if_pos hzh]
        have HO3 : Hid (OwnV wr w1.heap.size (.slice ad n cp) (divP zs h (k + 1))) := by
          show OwnV _ _ _ _
          rw [divP_skip HKL.out (by rw [GZ.out]; exact hzh)]; exact hO.out
        go_wp2_with fail
        go_roundw
        case rel => exact ⟨k + 1, by omega, by go_num, HO3.out, HF2.out, hB.out⟩
        case measure => simp [intOf]; omega
      · have hzh2 : (h : Int) < zs.getD k 0 := by rw [GZ.out]; omega
        obtain ⟨m1, m2⟩ := divP_more HKL.out hzh2
        obtain ⟨g, rfl, hg1, hOI⟩ := hO.out.g (by rw [divP_length]; have := HKL.out; omega)
        have hkd : k < (divP zs h k).length := by rw [divP_length]; exact HKL.out
        have cg := hOI.cell (i := k) hkd
        rw [m1] at cg
        have zg := hOI.frozen k
        have lg := hOI.lt
        have w1g := IntWalk.i64_in ((h : Int) + 1) (by omega)
        have HM2 := Lib.hid m2
        have HKD := Lib.hid hkd
        have HZH := Lib.hid hzh2
        have HSD := Lib.hid (sharesB_divP HSB.out (h := h) (by omega) (k + 1))
        have hdk : (divP zs h (k + 1)).getD k 0 = (h : Int) + 1 := by rw [divP_getD HKL.out, if_pos (by omega)]; omega
        have HDK := Lib.hid hdk
        have HBK : Hid ((divP zs h (k + 1)).set k (h : Int) = divP zs h k) := by show _ = _; rw [← m2]; exact set_back m1 hkd
        have HO3 : Hid (OwnV (wr.setCell ⟨g, k, none⟩ (.int .i64 ((h : Int) + 1))) w1.heap.size (.slice (some ⟨g, 0, none⟩) n cp) (divP zs h (k + 1))) := by
          show OwnV _ _ _ _
          rw [← m2]
          exact hO.out.setI hkd _
        have hB3 : Below w1.heap.size w2 (wr.setCell ⟨g, k, none⟩ (.int .i64 ((h : Int) + 1))) := Below.setCell hB.out hg1 _
        clear hOI m1 m2 hkd hzh2 hdk
        go_upto_region 9 with fail
        generalize wr.setCell ⟨g, k, none⟩ (.int .i64 ((h : Int) + 1)) = wS at HO3 hB3 ⊢
        have cfS := (R_f_2.below hB3 (by omega)).cell 0 rfl
        have HpS := Lib.hid (R_p_2.below hB3 (by omega))
        have HqS := Lib.hid (R_q_2.below hB3 (by omega))
        have HBS := Lib.hid hB3
        have KV : SlC wS (some ⟨g, 0, none⟩) n cp (divP zs h (k + 1)) := by
          obtain ⟨ad', cap', e, k1, k2, k3⟩ := HO3.out.sl
          exact ⟨by rw [divP_length]; exact HL.out, ad', cap', by rw [← e], k1, k2, k3⟩
        clear hB3 cg zg lg cf hB hO HRf HRp HRq HBw
        go_wp2_with fail
        refine (keeps_any (divP zs h (k + 1)) c b (w.heap.size + 1) (w.heap.size + 2) _ n cp _ KV HSD.out hc hn HpS.out HqS.out).mono ?_
        rintro e w4 ⟨rfl, hb4⟩
        have HB4 : Hid (Below w1.heap.size w2 w4) := HBS.out.trans (hb4.mono (by have := HBS.out.size; omega))
        have HBw4 : Hid (Below w.heap.size w w4) := HBB.out.trans (HB4.out.mono (by omega))
        have HO4 := Lib.hid (HO3.out.step hb4)
        clear KV hb4 cfS HpS HqS HBS HO3
        obtain ⟨p, hp⟩ : ∃ p, decide (topS (divP zs h (k + 1)) c ≤ b) = p := ⟨_, rfl⟩
        rw [hp]
        have HPP := Lib.hid hp
        clear hp
        cases p with
        | true =>
          have HF2 : Hid (fillF zs c b h (n - (k + 1)) (k + 1) = fillF zs c b h n 0) := by
            show _ = _
            rw [← hF.out, HFS.out, GZ.out, if_neg (by omega), if_pos (by have := HPP.out; simpa using this)]
          go_wp2_with fail
          go_roundw
          case rel => exact ⟨k + 1, by omega, by go_num, HO4.out, HF2.out, HB4.out⟩
          case measure => simp [intOf]; omega
        | false =>
          have HV : Hid (divA zs c b = divP zs h k) := by
            show _ = _
            rw [HDV.out, ← hF.out, HFS.out, GZ.out, if_neg (by omega), if_neg (by have := HPP.out; simpa using this)]
          obtain ⟨g2, e2, _, hOI⟩ := HO4.out.g (by rw [divP_length]; have := HKL.out; omega)
          cases e2
          have hkd2 : k < (divP zs h (k + 1)).length := by rw [divP_length]; exact HKL.out
          have cg := hOI.cell (i := k) hkd2
          rw [HDK.out] at cg
          have zg := hOI.frozen k
          have lg := hOI.lt
          have w1g := IntWalk.i64_in ((h : Int) + 1 - 1) (by omega)
          have HO5 : Hid (OwnV (w4.setCell ⟨g, k, none⟩ (.int .i64 (h : Int))) w1.heap.size (.slice (some ⟨g, 0, none⟩) n cp) (divP zs h k)) := by
            show OwnV _ _ _ _
            rw [← HBK.out]
            exact HO4.out.setI hkd2 _
          have hB5 : Below w.heap.size w (w4.setCell ⟨g, k, none⟩ (.int .i64 (h : Int))) := Below.setCell HBw4.out (show w.heap.size ≤ g by omega) _
          have HB5 := Lib.hid hB5
          clear hOI hkd2 hB5
          go_wp2_with fail
          go_ret
          exact ⟨_, rfl, by rw [HV.out]; exact HO5.out.low (by omega), HB5.out⟩
    · obtain rfl : k = n := by omega
      have HV : Hid (divA zs c b = divP zs h k) := by
        show _ = _
        have h1 := hF.out
        rw [Nat.sub_self] at h1
        have h2 : k = fillF zs c b h k 0 := h1
        rw [HDV.out, ← h2]
      go_wp2_with fail
      go_ret
      exact ⟨_, rfl, by rw [HV.out]; exact hO.out.low (by omega), HBw.out⟩

end

section
set_option linter.unusedSimpArgs false
set_option linter.unusedVariables false
open Go.RowKit

set_option maxRecDepth 100000 in
set_option maxHeartbeats 3200000 in
theorem check_any (a : Option Addr) (n cap : Nat) (l : List NightV) (c most : Int) (w : World) (hm : n ≤ 9223372036854775807) (hs : SlN w a n l) (hcaps : ∀ x ∈ l, x.n ≤ x.cap ∧ x.cap ≤ maxLen) (B : Bool) (hB : (nightsB l && inB c 30 && inB most 1000) = B) :
    Calls Try.prog 42 #[.slice a n cap, .int .i64 c, .int .i64 most] w fun e w' => e = .returned (.bool B) ∧ Below w.heap.size w w' := by
  have HS := Lib.hid hs
  have HC := Lib.hid hcaps
  clear hs hcaps
  cases hg : (nightsB l && inB c 30) with
  | false =>
    rw [hg] at hB
    obtain rfl : false = B := hB
    have HG := Lib.hid hg
    clear hg
    go_enter Try.func42, Try.ntmps42
    go_wp2_with fail
    refine (Nights_not _ _ _ l c _ hm HS.out HG.out).mono ?_
    rintro e w1 ⟨rfl, hb1⟩
    have HB1 : Below w.heap.size w w1 := by (repeat' (first | (with_reducible exact Below.refl _ _) | (with_reducible assumption) | (with_reducible exact Bw.out (by with_reducible assumption)) | (with_reducible refine bw_alloc ?_ _) | (with_reducible refine bw_step ?_ (by with_reducible assumption)) | (with_reducible refine Below.alloc ?_ ?_ _) | (with_reducible refine Below.drew ?_) | (with_reducible refine below_drewN ?_ _) | (with_reducible refine Below.setCell ?_ ?_ _) | (with_reducible refine below_step ?_ (by with_reducible assumption) ?_) | (with_reducible exact Nat.le_refl _) | omega | (simp; omega) | (simp; done)))
    go_wp2_with fail
    go_ret
    refine ⟨(by first | rfl | exact ret_bool (by first | rfl | (simp; done) | (simp; omega))), ?_⟩
    (repeat' (first | (with_reducible exact Below.refl _ _) | (with_reducible assumption) | (with_reducible exact Bw.out (by with_reducible assumption)) | (with_reducible refine bw_alloc ?_ _) | (with_reducible refine bw_step ?_ (by with_reducible assumption)) | (with_reducible refine Below.alloc ?_ ?_ _) | (with_reducible refine Below.drew ?_) | (with_reducible refine below_drewN ?_ _) | (with_reducible refine Below.setCell ?_ ?_ _) | (with_reducible refine below_step ?_ (by with_reducible assumption) ?_) | (with_reducible exact Nat.le_refl _) | omega | (simp; omega) | (simp; done)))
  | true =>
    rw [hg, Bool.true_and] at hB
    rw [Bool.and_eq_true] at hg
    obtain ⟨hN, hI⟩ := hg
    obtain ⟨q0, q1⟩ := inB_iff.1 hI
    obtain ⟨cN, rfl⟩ := Int.eq_ofNat_of_zero_le q0
    have hc30 : cN ≤ 30 := by omega
    have HN := Lib.hid hN
    clear hN hI q0
    by_cases h0 : 0 ≤ most
    · by_cases h1 : most ≤ 1000
      · rw [inB_true h0 h1] at hB
        subst hB
        go_enter Try.func42, Try.ntmps42
        go_wp2_with fail
        refine (Nights_any _ _ _ l cN _ HS.out HC.out HN.out hc30).mono ?_
        rintro e w1 ⟨v1, rfl, V1, hb1⟩
        have HB1 : Below w.heap.size w w1 := by (repeat' (first | (with_reducible exact Below.refl _ _) | (with_reducible assumption) | (with_reducible exact Bw.out (by with_reducible assumption)) | (with_reducible refine bw_alloc ?_ _) | (with_reducible refine bw_step ?_ (by with_reducible assumption)) | (with_reducible refine Below.alloc ?_ ?_ _) | (with_reducible refine Below.drew ?_) | (with_reducible refine below_drewN ?_ _) | (with_reducible refine Below.setCell ?_ ?_ _) | (with_reducible refine below_step ?_ (by with_reducible assumption) ?_) | (with_reducible exact Nat.le_refl _) | omega | (simp; omega) | (simp; done)))
        go_wp2_with fail
        go_ret
        refine ⟨(by first | rfl | exact ret_bool (by first | rfl | (simp; done) | (simp; omega))), ?_⟩
        (repeat' (first | (with_reducible exact Below.refl _ _) | (with_reducible assumption) | (with_reducible exact Bw.out (by with_reducible assumption)) | (with_reducible refine bw_alloc ?_ _) | (with_reducible refine bw_step ?_ (by with_reducible assumption)) | (with_reducible refine Below.alloc ?_ ?_ _) | (with_reducible refine Below.drew ?_) | (with_reducible refine below_drewN ?_ _) | (with_reducible refine Below.setCell ?_ ?_ _) | (with_reducible refine below_step ?_ (by with_reducible assumption) ?_) | (with_reducible exact Nat.le_refl _) | omega | (simp; omega) | (simp; done)))
      · rw [inB_false (by omega)] at hB
        subst hB
        go_enter Try.func42, Try.ntmps42
        go_wp2_with fail
        refine (Nights_any _ _ _ l cN _ HS.out HC.out HN.out hc30).mono ?_
        rintro e w1 ⟨v1, rfl, V1, hb1⟩
        have HB1 : Below w.heap.size w w1 := by (repeat' (first | (with_reducible exact Below.refl _ _) | (with_reducible assumption) | (with_reducible exact Bw.out (by with_reducible assumption)) | (with_reducible refine bw_alloc ?_ _) | (with_reducible refine bw_step ?_ (by with_reducible assumption)) | (with_reducible refine Below.alloc ?_ ?_ _) | (with_reducible refine Below.drew ?_) | (with_reducible refine below_drewN ?_ _) | (with_reducible refine Below.setCell ?_ ?_ _) | (with_reducible refine below_step ?_ (by with_reducible assumption) ?_) | (with_reducible exact Nat.le_refl _) | omega | (simp; omega) | (simp; done)))
        go_wp2_with fail
        go_ret
        refine ⟨(by first | rfl | exact ret_bool (by first | rfl | (simp; done) | (simp; omega))), ?_⟩
        (repeat' (first | (with_reducible exact Below.refl _ _) | (with_reducible assumption) | (with_reducible exact Bw.out (by with_reducible assumption)) | (with_reducible refine bw_alloc ?_ _) | (with_reducible refine bw_step ?_ (by with_reducible assumption)) | (with_reducible refine Below.alloc ?_ ?_ _) | (with_reducible refine Below.drew ?_) | (with_reducible refine below_drewN ?_ _) | (with_reducible refine Below.setCell ?_ ?_ _) | (with_reducible refine below_step ?_ (by with_reducible assumption) ?_) | (with_reducible exact Nat.le_refl _) | omega | (simp; omega) | (simp; done)))
    · rw [inB_false (by omega)] at hB
      subst hB
      go_enter Try.func42, Try.ntmps42
      go_wp2_with fail
      refine (Nights_any _ _ _ l cN _ HS.out HC.out HN.out hc30).mono ?_
      rintro e w1 ⟨v1, rfl, V1, hb1⟩
      have HB1 : Below w.heap.size w w1 := by (repeat' (first | (with_reducible exact Below.refl _ _) | (with_reducible assumption) | (with_reducible exact Bw.out (by with_reducible assumption)) | (with_reducible refine bw_alloc ?_ _) | (with_reducible refine bw_step ?_ (by with_reducible assumption)) | (with_reducible refine Below.alloc ?_ ?_ _) | (with_reducible refine Below.drew ?_) | (with_reducible refine below_drewN ?_ _) | (with_reducible refine Below.setCell ?_ ?_ _) | (with_reducible refine below_step ?_ (by with_reducible assumption) ?_) | (with_reducible exact Nat.le_refl _) | omega | (simp; omega) | (simp; done)))
      go_wp2_with fail
      go_ret
      refine ⟨(by first | rfl | exact ret_bool (by first | rfl | (simp; done) | (simp; omega))), ?_⟩
      (repeat' (first | (with_reducible exact Below.refl _ _) | (with_reducible assumption) | (with_reducible exact Bw.out (by with_reducible assumption)) | (with_reducible refine bw_alloc ?_ _) | (with_reducible refine bw_step ?_ (by with_reducible assumption)) | (with_reducible refine Below.alloc ?_ ?_ _) | (with_reducible refine Below.drew ?_) | (with_reducible refine below_drewN ?_ _) | (with_reducible refine Below.setCell ?_ ?_ _) | (with_reducible refine below_step ?_ (by with_reducible assumption) ?_) | (with_reducible exact Nat.le_refl _) | omega | (simp; omega) | (simp; done)))

/-- What Shares returns. -/
def okA (r s : Int) (zs : List Int) (c most : Int) : Bool := nightB r s zs && inB c 30 && inB most 1000
def shaE (r s : Int) (zs : List Int) (c most : Int) : Int := if okA r s zs c most then (if r + most - s < 0 then 33 else 0) else 1
def shaZ (r s : Int) (zs : List Int) (c most : Int) : List Int := if shaE r s zs c most = 0 then divA zs c.toNat (r + most - s) else []

theorem okA_parts {r s : Int} {zs : List Int} {c most : Int} (h : okA r s zs c most = true) : nightB r s zs = true ∧ zs.length ≤ 30 ∧ shIn zs ∧ sharesB zs = true ∧ (0 ≤ r ∧ r ≤ 400) ∧ (0 ≤ s ∧ s ≤ 1000) ∧ (0 ≤ c ∧ c ≤ 30) ∧ 0 ≤ most ∧ most ≤ 1000 := by
  unfold okA at h
  simp only [Bool.and_eq_true] at h
  obtain ⟨⟨h1, h2⟩, h3⟩ := h
  obtain ⟨p1, p2, p3, p4⟩ := nightB_parts h1
  exact ⟨h1, p1, p2, sharesB_of p1 p2, p3, p4, inB_iff.1 h2, inB_iff.1 h3⟩
theorem SlC.len {w : World} {a : Option Addr} {n cap : Nat} {zs : List Int} (h : SlC w a n cap zs) : n ≤ 9223372036854775807 := by
  obtain ⟨h1, ad, cp, e, _, h2, h3⟩ := h
  unfold maxLen at h3
  omega
theorem SlC.capsL {w : World} {a : Option Addr} {n cap : Nat} {zs : List Int} (h : SlC w a n cap zs) : n ≤ cap ∧ cap ≤ maxLen := by
  obtain ⟨h1, ad, cp, e, _, h2, h3⟩ := h
  simp only [Value.slice.injEq] at e
  obtain ⟨rfl, rfl, rfl⟩ := e
  omega

set_option maxRecDepth 100000 in
set_option maxHeartbeats 3200000 in
theorem Shares_any (r s c most : Int) (a : Option Addr) (n cap : Nat) (zs : List Int) (w : World) (K : SlC w a n cap zs) (E : Int) (Z : List Int) (hE : shaE r s zs c most = E) (hZ : shaZ r s zs c most = Z) (m : Nat) (hm : Z.length = m) :
    Calls Try.prog 14 #[.int .i64 r, .int .i64 s, .slice a n cap, .int .i64 c, .int .i64 most] w fun e w' => ∃ ad cp, e = .returned (.tuple #[.slice ad m cp, .int .i64 E]) ∧ SlC w' ad m cp Z ∧ Below w.heap.size w w' := by
  have hn := K.len
  have h1 := nightsB_one r s a n cap zs
  have hcp : ∀ x ∈ [nightOf r s a n cap zs], x.n ≤ x.cap ∧ x.cap ≤ maxLen := fun x hx => by
    simp only [List.mem_singleton] at hx
    subst hx
    exact K.capsL
  have HCP := Lib.hid hcp
  clear hcp
  cases hok : okA r s zs c most with
  | false =>
    unfold shaZ at hZ
    unfold shaE at hE hZ
    rw [hok] at hE hZ
    obtain rfl : (1 : Int) = E := hE
    obtain rfl : [] = Z := hZ
    obtain rfl : 0 = m := hm
    have HB : Hid ((nightsB [nightOf r s a n cap zs] && inB c 30 && inB most 1000) = false) := by show _ = _; rw [h1]; exact hok
    clear h1 hok
    go_enter Try.func14, Try.ntmps14
    go_wp2_with fail
    refine (check_any _ _ _ [nightOf r s a n cap zs] c most _ (by omega) (one_night (by (repeat' (first | (with_reducible assumption) | (with_reducible refine Row.new' _ _ _ (by first | rfl | (simp; done) | omega)) | (with_reducible refine Row.alloc ?_ _) | (with_reducible refine Row.drew ?_) | (with_reducible refine Row.drewN ?_ _) | (with_reducible refine Row.step ?_ (by with_reducible assumption))))) hn (K.step (by (repeat' (first | (with_reducible exact Below.refl _ _) | (with_reducible assumption) | (with_reducible exact Bw.out (by with_reducible assumption)) | (with_reducible refine bw_alloc ?_ _) | (with_reducible refine bw_step ?_ (by with_reducible assumption)) | (with_reducible refine Below.alloc ?_ ?_ _) | (with_reducible refine Below.drew ?_) | (with_reducible refine below_drewN ?_ _) | (with_reducible refine Below.setCell ?_ ?_ _) | (with_reducible refine below_step ?_ (by with_reducible assumption) ?_) | (with_reducible exact Nat.le_refl _) | omega | (simp; omega) | (simp; done))))).sl) HCP.out false HB.out).mono ?_
    rintro e w1 ⟨rfl, hb1⟩
    replace K := K.step (show Below w.heap.size w w1 by (repeat' (first | (with_reducible exact Below.refl _ _) | (with_reducible assumption) | (with_reducible exact Bw.out (by with_reducible assumption)) | (with_reducible refine bw_alloc ?_ _) | (with_reducible refine bw_step ?_ (by with_reducible assumption)) | (with_reducible refine Below.alloc ?_ ?_ _) | (with_reducible refine Below.drew ?_) | (with_reducible refine below_drewN ?_ _) | (with_reducible refine Below.setCell ?_ ?_ _) | (with_reducible refine below_step ?_ (by with_reducible assumption) ?_) | (with_reducible exact Nat.le_refl _) | omega | (simp; omega) | (simp; done))))
    have HB1 : Below w.heap.size w w1 := by (repeat' (first | (with_reducible exact Below.refl _ _) | (with_reducible assumption) | (with_reducible exact Bw.out (by with_reducible assumption)) | (with_reducible refine bw_alloc ?_ _) | (with_reducible refine bw_step ?_ (by with_reducible assumption)) | (with_reducible refine Below.alloc ?_ ?_ _) | (with_reducible refine Below.drew ?_) | (with_reducible refine below_drewN ?_ _) | (with_reducible refine Below.setCell ?_ ?_ _) | (with_reducible refine below_step ?_ (by with_reducible assumption) ?_) | (with_reducible exact Nat.le_refl _) | omega | (simp; omega) | (simp; done)))
    go_wp2_with fail
    go_ret2
    refine ⟨none, 0, rfl, SlC.nil _, ?_⟩
    (repeat' (first | (with_reducible exact Below.refl _ _) | (with_reducible assumption) | (with_reducible exact Bw.out (by with_reducible assumption)) | (with_reducible refine bw_alloc ?_ _) | (with_reducible refine bw_step ?_ (by with_reducible assumption)) | (with_reducible refine Below.alloc ?_ ?_ _) | (with_reducible refine Below.drew ?_) | (with_reducible refine below_drewN ?_ _) | (with_reducible refine Below.setCell ?_ ?_ _) | (with_reducible refine below_step ?_ (by with_reducible assumption) ?_) | (with_reducible exact Nat.le_refl _) | omega | (simp; omega) | (simp; done)))
  | true =>
    obtain ⟨p0, p1, p2, p3, ⟨p4, p5⟩, ⟨p6, p7⟩, ⟨p8, p9⟩, p10, p11⟩ := okA_parts hok
    obtain ⟨cN, rfl⟩ := Int.eq_ofNat_of_zero_le p8
    have hc30 : cN ≤ 30 := by omega
    have hn30 : n ≤ 30 := by have := K.1; omega
    have HB : Hid ((nightsB [nightOf r s a n cap zs] && inB (cN : Int) 30 && inB most 1000) = true) := by show _ = _; rw [h1]; exact hok
    have HP3 := Lib.hid p3
    unfold shaZ at hZ
    unfold shaE at hE hZ
    rw [hok] at hE hZ
    rw [if_pos rfl] at hE hZ
    clear h1 hok p0 p1 p2 p3 p8
    by_cases hb : r + most - s < 0
    · rw [if_pos hb] at hE hZ
      subst hE
      rw [if_neg (by omega)] at hZ
      subst hZ
      obtain rfl : 0 = m := hm
      go_enter Try.func14, Try.ntmps14
      go_wp2_with fail
      refine (check_any _ _ _ [nightOf r s a n cap zs] cN most _ (by omega) (one_night (by (repeat' (first | (with_reducible assumption) | (with_reducible refine Row.new' _ _ _ (by first | rfl | (simp; done) | omega)) | (with_reducible refine Row.alloc ?_ _) | (with_reducible refine Row.drew ?_) | (with_reducible refine Row.drewN ?_ _) | (with_reducible refine Row.step ?_ (by with_reducible assumption))))) hn (K.step (by (repeat' (first | (with_reducible exact Below.refl _ _) | (with_reducible assumption) | (with_reducible exact Bw.out (by with_reducible assumption)) | (with_reducible refine bw_alloc ?_ _) | (with_reducible refine bw_step ?_ (by with_reducible assumption)) | (with_reducible refine Below.alloc ?_ ?_ _) | (with_reducible refine Below.drew ?_) | (with_reducible refine below_drewN ?_ _) | (with_reducible refine Below.setCell ?_ ?_ _) | (with_reducible refine below_step ?_ (by with_reducible assumption) ?_) | (with_reducible exact Nat.le_refl _) | omega | (simp; omega) | (simp; done))))).sl) HCP.out true HB.out).mono ?_
      rintro e w1 ⟨rfl, hb1⟩
      replace K := K.step (show Below w.heap.size w w1 by (repeat' (first | (with_reducible exact Below.refl _ _) | (with_reducible assumption) | (with_reducible exact Bw.out (by with_reducible assumption)) | (with_reducible refine bw_alloc ?_ _) | (with_reducible refine bw_step ?_ (by with_reducible assumption)) | (with_reducible refine Below.alloc ?_ ?_ _) | (with_reducible refine Below.drew ?_) | (with_reducible refine below_drewN ?_ _) | (with_reducible refine Below.setCell ?_ ?_ _) | (with_reducible refine below_step ?_ (by with_reducible assumption) ?_) | (with_reducible exact Nat.le_refl _) | omega | (simp; omega) | (simp; done))))
      have HB1 : Below w.heap.size w w1 := by (repeat' (first | (with_reducible exact Below.refl _ _) | (with_reducible assumption) | (with_reducible exact Bw.out (by with_reducible assumption)) | (with_reducible refine bw_alloc ?_ _) | (with_reducible refine bw_step ?_ (by with_reducible assumption)) | (with_reducible refine Below.alloc ?_ ?_ _) | (with_reducible refine Below.drew ?_) | (with_reducible refine below_drewN ?_ _) | (with_reducible refine Below.setCell ?_ ?_ _) | (with_reducible refine below_step ?_ (by with_reducible assumption) ?_) | (with_reducible exact Nat.le_refl _) | omega | (simp; omega) | (simp; done)))
      go_wp2_with fail
      go_ret2
      refine ⟨none, 0, rfl, SlC.nil _, ?_⟩
      (repeat' (first | (with_reducible exact Below.refl _ _) | (with_reducible assumption) | (with_reducible exact Bw.out (by with_reducible assumption)) | (with_reducible refine bw_alloc ?_ _) | (with_reducible refine bw_step ?_ (by with_reducible assumption)) | (with_reducible refine Below.alloc ?_ ?_ _) | (with_reducible refine Below.drew ?_) | (with_reducible refine below_drewN ?_ _) | (with_reducible refine Below.setCell ?_ ?_ _) | (with_reducible refine below_step ?_ (by with_reducible assumption) ?_) | (with_reducible exact Nat.le_refl _) | omega | (simp; omega) | (simp; done)))
    · rw [if_neg hb] at hE hZ
      subst hE
      rw [if_pos rfl, Int.toNat_natCast] at hZ
      have HZ := Lib.hid hZ
      have HM := Lib.hid hm
      clear hZ hm
      go_enter Try.func14, Try.ntmps14
      go_wp2_with fail
      refine (check_any _ _ _ [nightOf r s a n cap zs] cN most _ (by omega) (one_night (by (repeat' (first | (with_reducible assumption) | (with_reducible refine Row.new' _ _ _ (by first | rfl | (simp; done) | omega)) | (with_reducible refine Row.alloc ?_ _) | (with_reducible refine Row.drew ?_) | (with_reducible refine Row.drewN ?_ _) | (with_reducible refine Row.step ?_ (by with_reducible assumption))))) hn (K.step (by (repeat' (first | (with_reducible exact Below.refl _ _) | (with_reducible assumption) | (with_reducible exact Bw.out (by with_reducible assumption)) | (with_reducible refine bw_alloc ?_ _) | (with_reducible refine bw_step ?_ (by with_reducible assumption)) | (with_reducible refine Below.alloc ?_ ?_ _) | (with_reducible refine Below.drew ?_) | (with_reducible refine below_drewN ?_ _) | (with_reducible refine Below.setCell ?_ ?_ _) | (with_reducible refine below_step ?_ (by with_reducible assumption) ?_) | (with_reducible exact Nat.le_refl _) | omega | (simp; omega) | (simp; done))))).sl) HCP.out true HB.out).mono ?_
      rintro e w1 ⟨rfl, hb1⟩
      replace K := K.step (show Below w.heap.size w w1 by (repeat' (first | (with_reducible exact Below.refl _ _) | (with_reducible assumption) | (with_reducible exact Bw.out (by with_reducible assumption)) | (with_reducible refine bw_alloc ?_ _) | (with_reducible refine bw_step ?_ (by with_reducible assumption)) | (with_reducible refine Below.alloc ?_ ?_ _) | (with_reducible refine Below.drew ?_) | (with_reducible refine below_drewN ?_ _) | (with_reducible refine Below.setCell ?_ ?_ _) | (with_reducible refine below_step ?_ (by with_reducible assumption) ?_) | (with_reducible exact Nat.le_refl _) | omega | (simp; omega) | (simp; done))))
      have HB1 : Below w.heap.size w w1 := by (repeat' (first | (with_reducible exact Below.refl _ _) | (with_reducible assumption) | (with_reducible exact Bw.out (by with_reducible assumption)) | (with_reducible refine bw_alloc ?_ _) | (with_reducible refine bw_step ?_ (by with_reducible assumption)) | (with_reducible refine Below.alloc ?_ ?_ _) | (with_reducible refine Below.drew ?_) | (with_reducible refine below_drewN ?_ _) | (with_reducible refine Below.setCell ?_ ?_ _) | (with_reducible refine below_step ?_ (by with_reducible assumption) ?_) | (with_reducible exact Nat.le_refl _) | omega | (simp; omega) | (simp; done)))
      go_wp2_with fail
      refine (divide_any zs cN (r + most - s) a n cap _ (K.step (by (repeat' (first | (with_reducible exact Below.refl _ _) | (with_reducible assumption) | (with_reducible exact Bw.out (by with_reducible assumption)) | (with_reducible refine bw_alloc ?_ _) | (with_reducible refine bw_step ?_ (by with_reducible assumption)) | (with_reducible refine Below.alloc ?_ ?_ _) | (with_reducible refine Below.drew ?_) | (with_reducible refine below_drewN ?_ _) | (with_reducible refine Below.setCell ?_ ?_ _) | (with_reducible refine below_step ?_ (by with_reducible assumption) ?_) | (with_reducible exact Nat.le_refl _) | omega | (simp; omega) | (simp; done))))) HP3.out hc30 hn30 (by omega) (by omega)).mono ?_
      rintro e w2 ⟨v, rfl, HO, hb2⟩
      replace K := K.step (show Below w1.heap.size w1 w2 by (repeat' (first | (with_reducible exact Below.refl _ _) | (with_reducible assumption) | (with_reducible exact Bw.out (by with_reducible assumption)) | (with_reducible refine bw_alloc ?_ _) | (with_reducible refine bw_step ?_ (by with_reducible assumption)) | (with_reducible refine Below.alloc ?_ ?_ _) | (with_reducible refine Below.drew ?_) | (with_reducible refine below_drewN ?_ _) | (with_reducible refine Below.setCell ?_ ?_ _) | (with_reducible refine below_step ?_ (by with_reducible assumption) ?_) | (with_reducible exact Nat.le_refl _) | omega | (simp; omega) | (simp; done))))
      have HB2 : Below w.heap.size w w2 := by (repeat' (first | (with_reducible exact Below.refl _ _) | (with_reducible assumption) | (with_reducible exact Bw.out (by with_reducible assumption)) | (with_reducible refine bw_alloc ?_ _) | (with_reducible refine bw_step ?_ (by with_reducible assumption)) | (with_reducible refine Below.alloc ?_ ?_ _) | (with_reducible refine Below.drew ?_) | (with_reducible refine below_drewN ?_ _) | (with_reducible refine Below.setCell ?_ ?_ _) | (with_reducible refine below_step ?_ (by with_reducible assumption) ?_) | (with_reducible exact Nat.le_refl _) | omega | (simp; omega) | (simp; done)))
      clear hb1 HB1
      rw [HZ.out] at HO
      obtain ⟨ad, cp, rfl, HV⟩ := HO.sl.sized m HM.out
      clear HO
      go_wp2_with fail
      go_ret2
      refine ⟨ad, cp, rfl, HV, ?_⟩
      (repeat' (first | (with_reducible exact Below.refl _ _) | (with_reducible assumption) | (with_reducible exact Bw.out (by with_reducible assumption)) | (with_reducible refine bw_alloc ?_ _) | (with_reducible refine bw_step ?_ (by with_reducible assumption)) | (with_reducible refine Below.alloc ?_ ?_ _) | (with_reducible refine Below.drew ?_) | (with_reducible refine below_drewN ?_ _) | (with_reducible refine Below.setCell ?_ ?_ _) | (with_reducible refine below_step ?_ (by with_reducible assumption) ?_) | (with_reducible exact Nat.le_refl _) | omega | (simp; omega) | (simp; done)))

/-- What Room returns. -/
def roI (r s : Int) (zs : List Int) (c most : Int) : Int := min (1000 - s) (max 0 (r + most - s - topS zs c.toNat))

set_option maxRecDepth 100000 in
set_option maxHeartbeats 3200000 in
theorem Room_any (r s c most : Int) (a : Option Addr) (n cap : Nat) (zs : List Int) (w : World) (K : SlC w a n cap zs) (X E : Int) (hX : ifI (okA r s zs c most) (roI r s zs c most) 0 = X) (hE : ifI (okA r s zs c most) 0 1 = E) :
    Calls Try.prog 17 #[.agg #[.int .i64 r, .int .i64 s, .slice a n cap], .int .i64 c, .int .i64 most] w fun e w' => e = .returned (.tuple #[.int .i64 X, .int .i64 E]) ∧ Below w.heap.size w w' := by
  have hn := K.len
  have h1 := nightsB_one r s a n cap zs
  have hcp : ∀ x ∈ [nightOf r s a n cap zs], x.n ≤ x.cap ∧ x.cap ≤ maxLen := fun x hx => by
    simp only [List.mem_singleton] at hx
    subst hx
    exact K.capsL
  have HCP := Lib.hid hcp
  clear hcp
  cases hok : okA r s zs c most with
  | false =>
    rw [hok] at hX hE
    obtain rfl : (0 : Int) = X := hX
    obtain rfl : (1 : Int) = E := hE
    have HB : Hid ((nightsB [nightOf r s a n cap zs] && inB c 30 && inB most 1000) = false) := by show _ = _; rw [h1]; exact hok
    clear h1 hok
    go_enter Try.func17, Try.ntmps17
    go_wp2_with fail
    refine (check_any _ _ _ [nightOf r s a n cap zs] c most _ (by omega) (one_night (by (repeat' (first | (with_reducible assumption) | (with_reducible refine Row.new' _ _ _ (by first | rfl | (simp; done) | omega)) | (with_reducible refine Row.alloc ?_ _) | (with_reducible refine Row.drew ?_) | (with_reducible refine Row.drewN ?_ _) | (with_reducible refine Row.step ?_ (by with_reducible assumption))))) hn (K.step (by (repeat' (first | (with_reducible exact Below.refl _ _) | (with_reducible assumption) | (with_reducible exact Bw.out (by with_reducible assumption)) | (with_reducible refine bw_alloc ?_ _) | (with_reducible refine bw_step ?_ (by with_reducible assumption)) | (with_reducible refine Below.alloc ?_ ?_ _) | (with_reducible refine Below.drew ?_) | (with_reducible refine below_drewN ?_ _) | (with_reducible refine Below.setCell ?_ ?_ _) | (with_reducible refine below_step ?_ (by with_reducible assumption) ?_) | (with_reducible exact Nat.le_refl _) | omega | (simp; omega) | (simp; done))))).sl) HCP.out false HB.out).mono ?_
    rintro e w1 ⟨rfl, hb1⟩
    replace K := K.step (show Below w.heap.size w w1 by (repeat' (first | (with_reducible exact Below.refl _ _) | (with_reducible assumption) | (with_reducible exact Bw.out (by with_reducible assumption)) | (with_reducible refine bw_alloc ?_ _) | (with_reducible refine bw_step ?_ (by with_reducible assumption)) | (with_reducible refine Below.alloc ?_ ?_ _) | (with_reducible refine Below.drew ?_) | (with_reducible refine below_drewN ?_ _) | (with_reducible refine Below.setCell ?_ ?_ _) | (with_reducible refine below_step ?_ (by with_reducible assumption) ?_) | (with_reducible exact Nat.le_refl _) | omega | (simp; omega) | (simp; done))))
    have HB1 : Below w.heap.size w w1 := by (repeat' (first | (with_reducible exact Below.refl _ _) | (with_reducible assumption) | (with_reducible exact Bw.out (by with_reducible assumption)) | (with_reducible refine bw_alloc ?_ _) | (with_reducible refine bw_step ?_ (by with_reducible assumption)) | (with_reducible refine Below.alloc ?_ ?_ _) | (with_reducible refine Below.drew ?_) | (with_reducible refine below_drewN ?_ _) | (with_reducible refine Below.setCell ?_ ?_ _) | (with_reducible refine below_step ?_ (by with_reducible assumption) ?_) | (with_reducible exact Nat.le_refl _) | omega | (simp; omega) | (simp; done)))
    go_wp2_with fail
    go_ret2
    refine ⟨rfl, ?_⟩
    (repeat' (first | (with_reducible exact Below.refl _ _) | (with_reducible assumption) | (with_reducible exact Bw.out (by with_reducible assumption)) | (with_reducible refine bw_alloc ?_ _) | (with_reducible refine bw_step ?_ (by with_reducible assumption)) | (with_reducible refine Below.alloc ?_ ?_ _) | (with_reducible refine Below.drew ?_) | (with_reducible refine below_drewN ?_ _) | (with_reducible refine Below.setCell ?_ ?_ _) | (with_reducible refine below_step ?_ (by with_reducible assumption) ?_) | (with_reducible exact Nat.le_refl _) | omega | (simp; omega) | (simp; done)))
  | true =>
    obtain ⟨p0, p1, p2, p3, ⟨p4, p5⟩, ⟨p6, p7⟩, ⟨p8, p9⟩, p10, p11⟩ := okA_parts hok
    obtain ⟨cN, rfl⟩ := Int.eq_ofNat_of_zero_le p8
    have hc30 : cN ≤ 30 := by omega
    have hn30 : n ≤ 30 := by have := K.1; omega
    have HB : Hid ((nightsB [nightOf r s a n cap zs] && inB (cN : Int) 30 && inB most 1000) = true) := by show _ = _; rw [h1]; exact hok
    have HP3 := Lib.hid p3
    obtain ⟨T, hT⟩ : ∃ T, topS zs cN = T := ⟨_, rfl⟩
    have hT0 : 0 ≤ T ∧ T ≤ 12000 := by rw [← hT]; exact ⟨topS_nonneg p2 cN, topS_le p2 p1 cN⟩
    rw [hok] at hX hE
    obtain rfl : (0 : Int) = E := hE
    have hX : min (1000 - s) (max 0 (r + most - s - topS zs cN)) = X := hX
    rw [hT] at hX
    have HT := Lib.hid hT
    clear h1 hok p0 p1 p2 p3 p8 hT
    subst hX
    go_enter Try.func17, Try.ntmps17
    go_wp2_with fail
    refine (check_any _ _ _ [nightOf r s a n cap zs] cN most _ (by omega) (one_night (by (repeat' (first | (with_reducible assumption) | (with_reducible refine Row.new' _ _ _ (by first | rfl | (simp; done) | omega)) | (with_reducible refine Row.alloc ?_ _) | (with_reducible refine Row.drew ?_) | (with_reducible refine Row.drewN ?_ _) | (with_reducible refine Row.step ?_ (by with_reducible assumption))))) hn (K.step (by (repeat' (first | (with_reducible exact Below.refl _ _) | (with_reducible assumption) | (with_reducible exact Bw.out (by with_reducible assumption)) | (with_reducible refine bw_alloc ?_ _) | (with_reducible refine bw_step ?_ (by with_reducible assumption)) | (with_reducible refine Below.alloc ?_ ?_ _) | (with_reducible refine Below.drew ?_) | (with_reducible refine below_drewN ?_ _) | (with_reducible refine Below.setCell ?_ ?_ _) | (with_reducible refine below_step ?_ (by with_reducible assumption) ?_) | (with_reducible exact Nat.le_refl _) | omega | (simp; omega) | (simp; done))))).sl) HCP.out true HB.out).mono ?_
    rintro e w1 ⟨rfl, hb1⟩
    have R_n_1 : Row w1 (w.heap.size) [.int .i64 r, .int .i64 s, .slice a n cap] := by (repeat' (first | (with_reducible assumption) | (with_reducible refine Row.new' _ _ _ (by first | rfl | (simp; done) | omega)) | (with_reducible refine Row.alloc ?_ _) | (with_reducible refine Row.drew ?_) | (with_reducible refine Row.drewN ?_ _) | (with_reducible refine Row.step ?_ (by with_reducible assumption)) | (with_reducible refine Row.set2' ?_ _ _; first | exact ⟨_, _, by with_reducible assumption⟩ | exact ⟨_, _, Row.alloc (by with_reducible assumption) _⟩ | exact ⟨_, _, Row.alloc (Row.alloc (by with_reducible assumption) _) _⟩) | (with_reducible refine Row.other ?_ (by first | omega | (simp; done) | (simp; omega)) _)))
    have c_n_0_1 := R_n_1.cell 0 rfl
    have c_n_1_1 := R_n_1.cell 1 rfl
    have c_n_2_1 := R_n_1.cell 2 rfl
    have l_n_1 := R_n_1.lt
    replace K := K.step (show Below w.heap.size w w1 by (repeat' (first | (with_reducible exact Below.refl _ _) | (with_reducible assumption) | (with_reducible exact Bw.out (by with_reducible assumption)) | (with_reducible refine bw_alloc ?_ _) | (with_reducible refine bw_step ?_ (by with_reducible assumption)) | (with_reducible refine Below.alloc ?_ ?_ _) | (with_reducible refine Below.drew ?_) | (with_reducible refine below_drewN ?_ _) | (with_reducible refine Below.setCell ?_ ?_ _) | (with_reducible refine below_step ?_ (by with_reducible assumption) ?_) | (with_reducible exact Nat.le_refl _) | omega | (simp; omega) | (simp; done))))
    have HB1 : Below w.heap.size w w1 := by (repeat' (first | (with_reducible exact Below.refl _ _) | (with_reducible assumption) | (with_reducible exact Bw.out (by with_reducible assumption)) | (with_reducible refine bw_alloc ?_ _) | (with_reducible refine bw_step ?_ (by with_reducible assumption)) | (with_reducible refine Below.alloc ?_ ?_ _) | (with_reducible refine Below.drew ?_) | (with_reducible refine below_drewN ?_ _) | (with_reducible refine Below.setCell ?_ ?_ _) | (with_reducible refine below_step ?_ (by with_reducible assumption) ?_) | (with_reducible exact Nat.le_refl _) | omega | (simp; omega) | (simp; done)))
    go_wp2_with fail
    refine (top_c cN (min cN n) (cN : Int) a n cap zs _ (K.step (by (repeat' (first | (with_reducible exact Below.refl _ _) | (with_reducible assumption) | (with_reducible exact Bw.out (by with_reducible assumption)) | (with_reducible refine bw_alloc ?_ _) | (with_reducible refine bw_step ?_ (by with_reducible assumption)) | (with_reducible refine Below.alloc ?_ ?_ _) | (with_reducible refine Below.drew ?_) | (with_reducible refine below_drewN ?_ _) | (with_reducible refine Below.setCell ?_ ?_ _) | (with_reducible refine below_step ?_ (by with_reducible assumption) ?_) | (with_reducible exact Nat.le_refl _) | omega | (simp; omega) | (simp; done))))) rfl hc30 HP3.out rfl hn30).mono ?_
    rintro e w2 ⟨x1, x2, rfl, K1, hb2⟩
    have R_n_2 : Row w2 (w.heap.size) [.int .i64 r, .int .i64 s, .slice a n cap] := by (repeat' (first | (with_reducible assumption) | (with_reducible refine Row.new' _ _ _ (by first | rfl | (simp; done) | omega)) | (with_reducible refine Row.alloc ?_ _) | (with_reducible refine Row.drew ?_) | (with_reducible refine Row.drewN ?_ _) | (with_reducible refine Row.step ?_ (by with_reducible assumption)) | (with_reducible refine Row.set2' ?_ _ _; first | exact ⟨_, _, by with_reducible assumption⟩ | exact ⟨_, _, Row.alloc (by with_reducible assumption) _⟩ | exact ⟨_, _, Row.alloc (Row.alloc (by with_reducible assumption) _) _⟩) | (with_reducible refine Row.other ?_ (by first | omega | (simp; done) | (simp; omega)) _)))
    have c_n_0_2 := R_n_2.cell 0 rfl
    have c_n_1_2 := R_n_2.cell 1 rfl
    have c_n_2_2 := R_n_2.cell 2 rfl
    have l_n_2 := R_n_2.lt
    replace K := K.step (show Below w1.heap.size w1 w2 by (repeat' (first | (with_reducible exact Below.refl _ _) | (with_reducible assumption) | (with_reducible exact Bw.out (by with_reducible assumption)) | (with_reducible refine bw_alloc ?_ _) | (with_reducible refine bw_step ?_ (by with_reducible assumption)) | (with_reducible refine Below.alloc ?_ ?_ _) | (with_reducible refine Below.drew ?_) | (with_reducible refine below_drewN ?_ _) | (with_reducible refine Below.setCell ?_ ?_ _) | (with_reducible refine below_step ?_ (by with_reducible assumption) ?_) | (with_reducible exact Nat.le_refl _) | omega | (simp; omega) | (simp; done))))
    have HB2 : Below w.heap.size w w2 := by (repeat' (first | (with_reducible exact Below.refl _ _) | (with_reducible assumption) | (with_reducible exact Bw.out (by with_reducible assumption)) | (with_reducible refine bw_alloc ?_ _) | (with_reducible refine bw_step ?_ (by with_reducible assumption)) | (with_reducible refine Below.alloc ?_ ?_ _) | (with_reducible refine Below.drew ?_) | (with_reducible refine below_drewN ?_ _) | (with_reducible refine Below.setCell ?_ ?_ _) | (with_reducible refine below_step ?_ (by with_reducible assumption) ?_) | (with_reducible exact Nat.le_refl _) | omega | (simp; omega) | (simp; done)))
    clear R_n_1 c_n_0_1 c_n_1_1 c_n_2_1 hb1 HB1
    rw [HT.out]
    clear K1
    go_wp2_with fail
    all_goals
      go_ret2
      refine ⟨ret2_int (by omega), ?_⟩
      (repeat' (first | (with_reducible exact Below.refl _ _) | (with_reducible assumption) | (with_reducible exact Bw.out (by with_reducible assumption)) | (with_reducible refine bw_alloc ?_ _) | (with_reducible refine bw_step ?_ (by with_reducible assumption)) | (with_reducible refine Below.alloc ?_ ?_ _) | (with_reducible refine Below.drew ?_) | (with_reducible refine below_drewN ?_ _) | (with_reducible refine Below.setCell ?_ ?_ _) | (with_reducible refine below_step ?_ (by with_reducible assumption) ?_) | (with_reducible exact Nat.le_refl _) | omega | (simp; omega) | (simp; done)))

end

end Go.Proofs.Ytijbhdpaikajkaa
