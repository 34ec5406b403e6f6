/-
 The law TopChanged: its walk.
-/
import Derived.Test.YtlmajlfhjbhdpaaGreatWE
namespace Go.Proofs.YtlmajlfhjbhdpaaGreat
set_option linter.unusedSimpArgs false
set_option linter.unusedVariables false
open Go.RowKit Go.Shelf
set_option maxRecDepth 100000 in
set_option maxHeartbeats 6400000 in
theorem topChanged_walk (a : Option Addr) (m mc : Nat) (RL : List RoomV) (b : Option Addr) (k kc : Nat) (ds : List DeedV) (_ : ∀ x ∈ RL, x.bl.length ≤ x.bc) (wfd : ∀ x ∈ ds, DeedWf x) (w : World) (hR : SlM w a m RL ∧ m ≤ mc ∧ mc ≤ maxLen) (hD : SlG deE w b k ds ∧ k ≤ kc ∧ kc ≤ maxLen) :
  Calls Tryz.prog 3 #[.slice a m mc, .slice b k kc] w fun e w' => e = .returned (.bool true) ∧ Below w.heap.size w w' := by
 have HR := Lib.hid hR.1
 have HD := Lib.hid hD.1
 have HWD := Lib.hid wfd
 have hkm : k ≤ 9223372036854775807 := by have := hD.2; unfold maxLen at this; omega
 clear hR hD wfd
 go_enter Tryz.func3, Tryz.ntmps3
 go_wp2_with fail
 refine (Kept_any w).mono ?_
 rintro e w1 ⟨rfl, hb1⟩
 have HB1 := Lib.hid hb1
 have HR1 := Lib.hid (HR.out.step hb1)
 have HD1 := Lib.hid (HD.out.step hb1)
 clear hb1
 by_cases h6 : m ≤ 6
 ·
  have n6 : ¬ ((6 : Int) < (m : Int)) := by omega
  go_wp2_with fail
  refine (R_few_any a m mc RL w1 h6 HR1.out).mono ?_
  rintro e w1' ⟨v, rfl, ⟨p, rfl⟩, rfl⟩
  cases p with
  | false =>
   skip
   go_wp2_with fail
   go_ret
   exact ⟨rfl, HB1.out⟩
  | true =>
   go_wp2_with fail
   refine (R_rooms_any a m mc RL w1' (by omega) HR1.out).mono ?_
   rintro e w2 ⟨v, rfl, ⟨p, rfl, hp⟩, hb2⟩
   have HB2 : Hid (Below w.heap.size w w2) := HB1.out.trans (hb2.mono HB1.out.size)
   have HR2 := Lib.hid (HR1.out.step hb2)
   have HD2 := Lib.hid (HD1.out.step hb2)
   have HP := Lib.hid hp
   clear hb2 hp
   cases p with
   | false =>
    skip
    go_wp2_with fail
    go_ret
    exact ⟨rfl, HB2.out⟩
   | true =>
    have HV := Lib.hid (HP.out (by trivial))
    by_cases h12 : (12 : Int) < (k : Int)
    ·
     skip
     go_wp2_with fail
     go_ret
     exact ⟨rfl, HB2.out⟩
    ·
     go_wp2_with fail
     go_loopw [6, 8, 9, 10, 11, 12, 13, 14, 15, 16, 18, 19, 20, 43] (fun lv _ _ _ _ _ _ _ _ _ _ _ _ ix wr => ∃ (i : Nat) (ad : Option Addr) (n cp : Nat) (l : List StayV), i ≤ k ∧ ix = .int .i64 i ∧ lv = .slice ad n cp ∧ Hid (PlA ad ∧ SlG stE wr ad n l ∧ n ≤ cp ∧ GoodL l ∧ PlacedL RL l) ∧ Hid (Below w2.heap.size w2 wr)) (fun _ _ _ _ _ _ _ _ _ _ _ _ _ ix _ => k - (intOf ix).toNat)
     case atStart => exact ⟨0, none, 0, 0, [], Nat.zero_le _, rfl, rfl, ⟨.inl rfl, SlG.nil _ _ _, Nat.le_refl _, ⟨by simp, by simp, by simp⟩, ⟨by simp, fun i k s t _ h => by simp at h⟩⟩, Below.refl _ _⟩
     case round =>
      obtain ⟨i, ad, n, cp, l, hi, rfl, rfl, hL, hB⟩ := hrel
      by_cases hik : i < k
      ·
       obtain ⟨x, b', off, hx, hbe, hlb, g⟩ := (HD2.out.step hB.out).get hik
       have hxw := HWD.out x (List.mem_of_getElem? hx.out)
       obtain ⟨hw0, hw1, hw2, hw3, hw4⟩ := hxw
       subst hbe
       have x0 := g 0 _ rfl
       have x1 := g 1 _ rfl
       have x2 := g 2 _ rfl
       have x3 := g 3 _ rfl
       have x4 := g 4 _ rfl
       rw [Nat.add_zero] at x0
       change World.cell? _ ⟨b', off + i * 5, none⟩ = _ at x0
       change World.cell? _ ⟨b', off + i * 5 + 1, none⟩ = _ at x1
       change World.cell? _ ⟨b', off + i * 5 + 2, none⟩ = _ at x2
       change World.cell? _ ⟨b', off + i * 5 + 3, none⟩ = _ at x3
       change World.cell? _ ⟨b', off + i * 5 + 4, none⟩ = _ at x4
       have i1 : (0 : Int) ≤ (i : Int) := by omega
       have i2 : (i : Int) < (k : Int) := by omega
       obtain ⟨bd, hbd⟩ : ∃ bd, wr.heap.size = bd := ⟨_, rfl⟩
       obtain ⟨w3, hw3'⟩ : ∃ w3, wr.alloc (.cells #[.int .u8 x.d0, .int .u8 x.d1, .int .u8 x.d2, .int .u8 x.d3, .int .u8 x.d4] 28) = w3 := ⟨_, rfl⟩
       have hal : Below wr.heap.size wr w3 := by rw [← hw3']; exact (Below.refl _ _).alloc (Nat.le_refl _) _
       have hrd : Row w3 bd [.int .u8 x.d0, .int .u8 x.d1, .int .u8 x.d2, .int .u8 x.d3, .int .u8 x.d4] := by rw [← hw3', ← hbd]; exact Row.new' _ _ _ rfl
       have HB3 : Hid (Below w2.heap.size w2 w3) := hB.out.trans (hal.mono hB.out.size)
       have HRD := Lib.hid hrd
       have HR3 := Lib.hid (HR2.out.step HB3.out)
       obtain ⟨hpa, hsl, hcp, hgl, hpl⟩ := hL.out
       have HS3 := Lib.hid (hsl.step hal)
       have HPA := Lib.hid hpa
       have HGL := Lib.hid hgl
       have HPL := Lib.hid hpl
       have HDO := Lib.hid (Do_any a ad m mc n cp RL l x.d0 x.d1 x.d2 x.d3 x.d4 w3 (by omega) HR3.out HV.out hpa HS3.out hcp hgl hpl hw0 hw1 hw2 hw3 hw4)
       have c0 := hrd.cell 0 rfl
       have c1 := hrd.cell 1 rfl
       have c2 := hrd.cell 2 rfl
       have c3 := hrd.cell 3 rfl
       have c4 := hrd.cell 4 rfl
       clear hal hrd hpa hsl hgl hpl hx g
       go_wp2_with fail
       refine HDO.out.mono ?_
       rintro e w4 ⟨va, vn, vc, ok, rfl, hb4, hout⟩
       have HB4 : Hid (Below w2.heap.size w2 w4) := HB3.out.trans (hb4.mono HB3.out.size)
       have HS4 := Lib.hid (HS3.out.step hb4)
       have HR4 := Lib.hid (HR3.out.step hb4)
       have HRD4 := Lib.hid (HRD.out.step hb4)
       clear hb4 x0 x1 x2 x3 x4 c0 c1 c2 c3 c4 HDO
       cases ok with
       | false =>
        clear hout
        go_wp2_with fail
        exact ⟨⟨i + 1, ad, n, cp, l, by omega, by go_num, rfl, ⟨HPA.out, HS4.out, hcp, HGL.out, HPL.out⟩, HB4.out⟩, by simp [intOf]; omega⟩
       | true =>
        obtain ⟨out, ho, hgo, hpo, hko⟩ := hout rfl
        obtain ⟨hvl, hvc, _⟩ := ho.sizes
        have HO4 := Lib.hid ho.sl
        have HPV := Lib.hid ho.plA
        have HGO := Lib.hid hgo
        have HPO := Lib.hid hpo
        have HKO := Lib.hid hko
        have HVL := Lib.hid hvl
        clear hout ho hgo hpo hko hvl
        go_wp2_with fail
        refine (Placed_yes a va m mc vn vc RL out w4 (by omega) HR4.out HV.out HO4.out HGO.out HPO.out).mono ?_
        rintro e w5 ⟨rfl, hb5⟩
        have HB5 : Hid (Below w2.heap.size w2 w5) := HB4.out.trans (hb5.mono HB4.out.size)
        have HS5 := Lib.hid (HS4.out.step hb5)
        have HO5 := Lib.hid (HO4.out.step hb5)
        have HRD5 := Lib.hid (HRD4.out.step hb5)
        clear hb5
        go_wp2_with fail
        refine (Clash_no va vn vc out w5 hvc HO5.out HGO.out HPO.out.apart).mono ?_
        rintro e w6 ⟨rfl, hb6⟩
        have HB6 : Hid (Below w2.heap.size w2 w6) := HB5.out.trans (hb6.mono HB5.out.size)
        have HS6 := Lib.hid (HS5.out.step hb6)
        have HO6 := Lib.hid (HO5.out.step hb6)
        have HRD6 := Lib.hid (HRD5.out.step hb6)
        clear hb6
        go_wp2_with fail
        go_loopw [18, 19, 20, 84] (fun _ _ _ jx wq => ∃ j : Nat, j ≤ n ∧ jx = .int .i64 j ∧ Hid (Below w6.heap.size w6 wq)) (fun _ _ _ jx _ => n - (intOf jx).toNat)
        case atStart => exact ⟨0, Nat.zero_le _, rfl, Below.refl _ _⟩
        case round =>
         obtain ⟨j, hj, rfl, hBq⟩ := hrel
         by_cases hjn : j < n
         ·
          obtain ⟨s, gs, off1, hsx, rfl, hlb1, x0, x1, x2, x3, x4, x5, x6, x7, x8⟩ := slT_get (HS6.out.step hBq.out) hjn
          have hsl := List.mem_of_getElem? hsx.out
          have hks := HKO.out s hsl
          have j1 : (0 : Int) ≤ (j : Int) := by omega
          have j2 : (j : Int) < (n : Int) := by omega
          have hvn : vn ≤ 100000 := by have := HGO.out.len HO6.out.1; omega
          have hnb : n ≤ 100000 := by have := HGL.out.len HS6.out.1; omega
          obtain ⟨bs, hbs⟩ : ∃ bs, wr.heap.size = bs := ⟨_, rfl⟩
          obtain ⟨w7, hw7⟩ : ∃ w7, wr.alloc (.cells #[.int .i64 s.id, .int .i64 s.kd, .int .i64 s.fr, .int .i64 s.un, .int .i64 s.ps, .int .i64 s.rm, .int .i64 s.wt, .bool s.ac, .bool s.inn] 37) = w7 := ⟨_, rfl⟩
          have hal : Below wr.heap.size wr w7 := by rw [← hw7]; exact (Below.refl _ _).alloc (Nat.le_refl _) _
          have hrs : Row w7 bs [.int .i64 s.id, .int .i64 s.kd, .int .i64 s.fr, .int .i64 s.un, .int .i64 s.ps, .int .i64 s.rm, .int .i64 s.wt, .bool s.ac, .bool s.inn] := by rw [← hw7, ← hbs]; exact Row.new' _ _ _ rfl
          have HB7 : Hid (Below w6.heap.size w6 w7) := hBq.out.trans (hal.mono hBq.out.size)
          have hrd := HRD6.out.step HB7.out
          have HO7 := Lib.hid (HO6.out.step HB7.out)
          have d0 := hrd.cell 0 rfl
          have d1 := hrd.cell 1 rfl
          have z0 := hrs.cell 0 rfl
          have z2 := hrs.cell 2 rfl
          have z5 := hrs.cell 5 rfl
          have z8 := hrs.cell 8 rfl
          have zl := hrs.lt
          have dl := hrd.lt
          clear hal hrs hrd hsx hsl
          rcases hks with ⟨t, ht, htid, htin⟩ | ⟨hg4, hid, hno⟩
          ·
           obtain ⟨q, hqi, hqo⟩ : ∃ q : Nat, idxP (fun y : StayV => decide (y.id = s.id)) out 0 = (q : Int) ∧ out[q]? = some t := by
            rcases idxP_cases (fun y : StayV => decide (y.id = s.id)) out 0 with ⟨e1, e2⟩ | ⟨q, t', e1, e2, e3⟩
            ·
             have := e2 t ht
             rw [htid] at this
             simp at this
            ·
             refine ⟨q, by rw [e1, Nat.zero_add], ?_⟩
             have e4 : t'.id = s.id := by simpa using e3
             rw [e2, nodup_inj HGO.out.ids (List.mem_of_getElem? e2) ht (e4.trans htid.symm)]
           have hqn : q < vn := by have := (List.getElem?_eq_some_iff.1 hqo).1; rw [HO6.out.1] at this; exact this
           obtain ⟨t', gv, off2, htx, hve, hlb2, y0, y1, y2, y3, y4, y5, y6, y7, y8⟩ := slT_get HO7.out hqn
           have htt : t' = t := by have := htx.out; rw [hqo] at this; cases this; rfl
           subst htt
           subst hve
           have HQI := Lib.hid hqi
           have HTI := Lib.hid htin
           have q1 : (0 : Int) ≤ (q : Int) := by omega
           have q2 : (q : Int) < (vn : Int) := by omega
           obtain ⟨inn, hin⟩ : ∃ inn, s.inn = inn := ⟨_, rfl⟩
           rw [hin] at x8 z8 hw7
           have HIN := Lib.hid hin
           have HW7 := Lib.hid hw7
           clear hqi hqo htx ht htid htin hin hw7
           by_cases h4 : x.d0 % 5 = 4
           ·
            skip
            cases inn with
            | false =>
             go_wp2_with fail
             rw [HW7.out]
             refine (R_indexT_any (some ⟨gv, off2, none⟩) vn vc out s.id w7 hvn HO7.out).mono ?_
             rintro e w8 ⟨rfl, rfl⟩
             rw [HQI.out]
             clear HW7
             go_wp2_with fail
             as_aux_lemma =>
              have q5 : ¬ ((q : Int) < 0) := by omega
              go_big_quiet (fail)
              go_wp2_with fail
              exact ⟨⟨j + 1, by omega, by go_num, HB7.out.trans ⟨rfl, rfl, rfl, Nat.le_refl _, fun _ _ => rfl⟩⟩, by simp [intOf]; omega⟩
            | true =>
             obtain ⟨tin, trm, tfr⟩ := HTI.out HIN.out
             rw [tin] at y8
             rw [trm] at y5
             rw [tfr] at y2
             clear tin trm tfr
             go_wp2_with fail
             rw [HW7.out]
             refine (R_indexT_any (some ⟨gv, off2, none⟩) vn vc out s.id w7 hvn HO7.out).mono ?_
             rintro e w8 ⟨rfl, rfl⟩
             rw [HQI.out]
             clear HW7
             go_wp2_with fail
             as_aux_lemma =>
              have q5 : ¬ ((q : Int) < 0) := by omega
              go_big_quiet (fail)
              go_wp2_with fail
              exact ⟨⟨j + 1, by omega, by go_num, HB7.out.trans ⟨rfl, rfl, rfl, Nat.le_refl _, fun _ _ => rfl⟩⟩, by simp [intOf]; omega⟩
           ·
            skip
            cases inn with
            | false =>
             go_wp2_with fail
             rw [HW7.out]
             refine (R_indexT_any (some ⟨gv, off2, none⟩) vn vc out s.id w7 hvn HO7.out).mono ?_
             rintro e w8 ⟨rfl, rfl⟩
             rw [HQI.out]
             clear HW7
             go_wp2_with fail
             as_aux_lemma =>
              have q5 : ¬ ((q : Int) < 0) := by omega
              go_big_quiet (fail)
              go_wp2_with fail
              exact ⟨⟨j + 1, by omega, by go_num, HB7.out.trans ⟨rfl, rfl, rfl, Nat.le_refl _, fun _ _ => rfl⟩⟩, by simp [intOf]; omega⟩
            | true =>
             obtain ⟨tin, trm, tfr⟩ := HTI.out HIN.out
             rw [tin] at y8
             rw [trm] at y5
             rw [tfr] at y2
             clear tin trm tfr
             go_wp2_with fail
             rw [HW7.out]
             refine (R_indexT_any (some ⟨gv, off2, none⟩) vn vc out s.id w7 hvn HO7.out).mono ?_
             rintro e w8 ⟨rfl, rfl⟩
             rw [HQI.out]
             clear HW7
             go_wp2_with fail
             as_aux_lemma =>
              have q5 : ¬ ((q : Int) < 0) := by omega
              go_big_quiet (fail)
              go_wp2_with fail
              exact ⟨⟨j + 1, by omega, by go_num, HB7.out.trans ⟨rfl, rfl, rfl, Nat.le_refl _, fun _ _ => rfl⟩⟩, by simp [intOf]; omega⟩
          ·
           have h4 : x.d0 % 5 = 4 := by simpa using hg4
           have hqi : idxP (fun y : StayV => decide (y.id = 1 + x.d1 % 8)) out 0 = -1 := idxP_miss (fun y hy => by rw [← hid]; simpa using hno y hy)
           have HQI := Lib.hid hqi
           rw [hid] at x0 z0 hw7
           have HW7 := Lib.hid hw7
           clear hqi hno hg4 hw7 hid
           go_wp2_with fail
           rw [HW7.out]
           refine (R_indexT_any va vn vc out (1 + x.d1 % 8) w7 hvn HO7.out).mono ?_
           rintro e w8 ⟨rfl, rfl⟩
           rw [HQI.out]
           obtain ⟨z, hz⟩ : ∃ z : Int, -1 = z := ⟨_, rfl⟩
           rw [hz]
           have hneg : z < 0 := by omega
           clear HW7 hz
           go_wp2_with fail
           as_aux_lemma =>
            have q5 : ¬ (0 ≤ z) := by omega
            go_big_quiet (fail)
            go_wp2_with fail
            exact ⟨⟨j + 1, by omega, by go_num, HB7.out.trans ⟨rfl, rfl, rfl, Nat.le_refl _, fun _ _ => rfl⟩⟩, by simp [intOf]; omega⟩
         ·
          obtain rfl : j = n := by omega
          have HBn : Hid (Below w2.heap.size w2 wr) := HB6.out.trans (hBq.out.mono HB6.out.size)
          have HOn := Lib.hid (HO6.out.step hBq.out)
          go_wp2_with fail
          exact ⟨⟨i + 1, va, vn, vc, out, by omega, by go_num, rfl, ⟨HPV.out, HOn.out, hvc, HGO.out, HPO.out⟩, HBn.out⟩, by simp [intOf]; omega⟩
      ·
       obtain rfl : i = k := by omega
       have HBF : Hid (Below w.heap.size w wr) := HB2.out.trans (hB.out.mono HB2.out.size)
       go_wp2_with fail
       go_ret
       exact ⟨rfl, HBF.out⟩
 ·
  have n6 : (6 : Int) < (m : Int) := by omega
  go_wp2_with fail
  go_ret
  exact ⟨rfl, HB1.out⟩
end Go.Proofs.YtlmajlfhjbhdpaaGreat
