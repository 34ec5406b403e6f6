/-
 The walk of stays.On.
-/
import Derived.Test.YtlmajlfhjbhdpaaGreatZV
namespace Go.Proofs.YtlmajlfhjbhdpaaGreat
set_option linter.unusedSimpArgs false
set_option linter.unusedVariables false
open Go.RowKit Go.Shelf
def onB (q : Int) (s : StayV) : Bool := inZ q s.fr (s.un - 1)
/-- The numbers of the stays of a night. -/
def onI (q : Int) (l : List StayV) : List Int := (l.filter (onB q)).map StayV.id
theorem onI_take {q : Int} {l : List StayV} {k : Nat} {s : StayV} (h : l[k]? = some s) : onI q (l.take (k + 1)) = onI q (l.take k) ++ (if onB q s then [s.id] else []) := by
 obtain ⟨hk, e⟩ := List.getElem?_eq_some_iff.1 h
 unfold onI
 rw [List.take_succ_eq_append_getElem hk, e, List.filter_append, List.map_append]
 congr 1
 by_cases hb : onB q s = true
 ·
  rw [if_pos hb]; simp [hb]
 ·
  rw [if_neg hb]; simp [hb]
theorem onI_len (q : Int) (l : List StayV) (k : Nat) : (onI q (l.take k)).length ≤ k := by
 unfold onI
 rw [List.length_map]
 refine Nat.le_trans (List.length_filter_le _ _) ?_
 rw [List.length_take]
 omega
set_option maxRecDepth 100000 in
set_option maxHeartbeats 3200000 in
theorem On_any (a : Option Addr) (n cap : Nat) (l : List StayV) (q : Int) (w : World) (hs : SlG stE w a n l) (hg : GoodL l) (h0 : 0 ≤ q) (h1 : q ≤ 365) :
  Calls Tryz.prog 121 #[.slice a n cap, .int .i64 q] w fun e w' => ∃ ad m cp, e = .returned (.tuple #[.slice ad m cp, .int .i64 0]) ∧ m ≤ n ∧ OwnG intE 3 w' w.heap.size (.slice ad m cp) (srtI (onI q l)) ∧ Below w.heap.size w w' := by
 have hn := hg.len hs.1
 have hm : n ≤ 9223372036854775807 := by omega
 have HS := Lib.hid hs
 have HL := Lib.hid hs.1
 have HG := Lib.hid hg
 have hv := sValid_yes a n cap l w hs hg
 have HQ := Lib.hid (inZ_yes (n := q) (lo := 0) (hi := 365) ⟨h0, h1⟩)
 clear hs hg
 go_enter Tryz.func121, Tryz.ntmps121
 go_wp2_with fail
 refine hv.mono ?_
 rintro e w1 ⟨rfl, hb1⟩
 have HS1 := Lib.hid (HS.out.step hb1)
 clear hv
 go_wp2_with fail
 refine (swithin_p q 0 365 true HQ.out w1).mono ?_
 rintro e w2 ⟨rfl, hb2⟩
 have HS2 := Lib.hid (HS1.out.step hb2)
 have HB2 : Hid (Below w.heap.size w w2) := hb1.trans (hb2.mono hb1.size)
 clear hb1 hb2 HS1
 go_wp2_with fail
 go_loopw [6, 8, 19] (fun v _ i wr => ∃ (k m : Nat) (ad : Option Addr) (cp : Nat), k ≤ n ∧ m ≤ k ∧ i = .int .i64 k ∧ v = .slice ad m cp ∧ Hid (OwnG intE 3 wr w.heap.size (.slice ad m cp) (onI q (l.take k))) ∧ Hid (Below w.heap.size w wr)) (fun _ _ i _ => n - (intOf i).toNat)
 case atStart => exact ⟨0, 0, none, 0, Nat.zero_le _, Nat.le_refl _, rfl, rfl, by show OwnG _ _ _ _ _ _; rw [List.take_zero]; exact OwnG.nil _ _ _ _, HB2.out⟩
 case round =>
  obtain ⟨k, m, ad, cp, hk, hmk, rfl, rfl, hO, hB⟩ := hrel
  by_cases hkn : k < n
  ·
   obtain ⟨s, b, off, hx, rfl, hlb, x0, x1, x2, x3, x4, x5, x6, x7, x8⟩ := slT_get (HS.out.step hB.out) hkn
   have HT := Lib.hid (onI_take (q := q) hx.out)
   have hgs := HG.out.each s (List.mem_of_getElem? hx.out)
   have hu1 : s.un ≤ 366 := hgs.1.2.2.1
   have hu0 : 0 < s.un := by have := hgs.1; omega
   obtain ⟨p, hp⟩ : ∃ p, onB q s = p := ⟨_, rfl⟩
   rw [hp] at HT
   have HP : Hid (inZ q s.fr (s.un - 1) = p) := hp
   have hmb : m ≤ 3000 := by omega
   have HML : Hid ((onI q (l.take k)).length = m) := hO.out.sizes.1
   clear hgs hp
   go_wp2_with fail
   obtain ⟨w3, hw3⟩ : ∃ w3, wr.alloc (.cells #[.int .i64 s.id, .int .i64 s.kd, .int .i64 s.fr, .int .i64 s.un, .int .i64 s.ps, .int .i64 s.rm, .int .i64 s.wt, .bool s.ac, .bool s.inn] 37) = w3 := ⟨_, rfl⟩
   obtain ⟨bx, hbx⟩ : ∃ bx, wr.heap.size = bx := ⟨_, rfl⟩
   have hal : Below wr.heap.size wr w3 := by rw [← hw3]; exact (Below.refl _ _).alloc (Nat.le_refl _) _
   have R : Row w3 bx [.int .i64 s.id, .int .i64 s.kd, .int .i64 s.fr, .int .i64 s.un, .int .i64 s.ps, .int .i64 s.rm, .int .i64 s.wt, .bool s.ac, .bool s.inn] := by rw [← hw3, ← hbx]; exact Row.new' _ _ _ rfl
   simp only [hw3, hbx]
   refine (swithin_p q s.fr (s.un - 1) p HP.out w3).mono ?_
   rintro e w4 ⟨rfl, hb4⟩
   have hb34 := hal.trans (hb4.mono hal.size)
   have R4 := R.step hb4
   have HO4 := Lib.hid (hO.out.step hb34)
   have HB4 : Hid (Below w.heap.size w w4) := hB.out.trans (hb34.mono hB.out.size)
   have hs4 := HB4.out.size
   clear hal hb4 hb34 hw3 hbx R x0 x1 x2 x3 x4 x5 x6 x7 x8
   have y0 := R4.cell 0 rfl
   have yl := R4.lt
   cases p with
   | false =>
    have HT2 : Hid (onI q (l.take (k + 1)) = onI q (l.take k)) := by show _ = _; rw [HT.out]; simp
    go_wp2_with fail
    go_roundw
    case rel => exact ⟨k + 1, m, ad, cp, by omega, by omega, by go_num, rfl, by show OwnG _ _ _ _ _ _; rw [HT2.out]; exact HO4.out, HB4.out⟩
    case measure => simp [intOf]; omega
   | true =>
    have HT2 : Hid (onI q (l.take (k + 1)) = onI q (l.take k) ++ [s.id]) := by show _ = _; rw [HT.out]; simp
    go_wp2_with (at_builtin; refine wpList_append_G inI rfl _ _ _ rfl Tryz.underlying44 w.heap.size (l := onI q (l.take k)) rfl (HO4.out.alloc _) (m := 1) (c := 1) (ys := [s.id]) rfl (SlG.row (rest := []) (Row.new' _ [.int .i64 s.id] _ (by simp)) rfl) (by rw [HML.out]; omega) (by rw [HML.out]; omega) (by simp; omega) ?_; intro v' w5 hown1 _ _ hbl1)
    have H7 := Lib.hid (hbl1 w (HB4.out.alloc hs4 _))
    rw [← HT2.out] at hown1
    obtain ⟨ad3, cp3, rfl, ho3, _⟩ := hown1.shape (n := m + 1) (by rw [HT2.out, List.length_append, HML.out]; rfl)
    have H1 := Lib.hid ho3
    clear hown1 hbl1 ho3
    go_wp2_with fail
    go_roundw
    case rel => exact ⟨k + 1, m + 1, ad3, cp3, by omega, by omega, by go_num, rfl, H1.out, H7.out⟩
    case measure => simp [intOf]; omega
  ·
   obtain rfl : k = n := by omega
   have hO2 := hO.out
   rw [List.take_of_length_le (by rw [HL.out]; omega)] at hO2
   have HO := Lib.hid hO2
   clear hO2 hO
   go_wp2_with fail
   refine (sortI_any w.heap.size ad m cp _ wr HO.out (by omega)).mono ?_
   rintro e w4 ⟨rfl, ho4, hc4⟩
   have HB4 : Hid (Below w.heap.size w w4) := hc4.below hB.out (fun g hg => (HO.out.lt hg).1) hB.out.size
   have HO4 := Lib.hid ho4
   clear ho4 hc4
   go_wp2_with fail
   go_ret2
   exact ⟨ad, m, cp, rfl, hmk, HO4.out, HB4.out⟩
end Go.Proofs.YtlmajlfhjbhdpaaGreat
