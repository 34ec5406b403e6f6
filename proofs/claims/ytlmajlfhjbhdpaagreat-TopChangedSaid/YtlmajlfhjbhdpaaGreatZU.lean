/-
 The walk of stays.Placed, of stays that are placed.
-/
import Derived.Test.YtlmajlfhjbhdpaaGreatZT
import Derived.Test.YtlmajlfhjbhdpaaGreatZP
namespace Go.Proofs.YtlmajlfhjbhdpaaGreat
set_option linter.unusedSimpArgs false
set_option linter.unusedVariables false
open Go.RowKit Go.Shelf
/-- Stays that are placed on rooms. -/
structure PlacedL (RL : List RoomV) (l : List StayV) : Prop where
 room : ∀ s ∈ l, ∃ r ∈ RL, r.id = s.rm ∧ suitB s r = true
 apart : ApartL l
/-- The nights of stays, each with the room. -/
def nightsOf (rm fr : Int) (n : Nat) : List (Int × Int) := (List.range n).map (fun i : Nat => (rm, fr + (i : Int)))
def takenL (l : List StayV) : List (Int × Int) := l.flatMap (fun s => nightsOf s.rm s.fr (s.un - s.fr).toNat)
theorem nightsOf_succ (rm fr : Int) (n : Nat) : nightsOf rm fr (n + 1) = nightsOf rm fr n ++ [(rm, fr + n)] := by
 unfold nightsOf
 rw [List.range_succ, List.map_append]
 rfl
theorem mem_nights {rm fr : Int} {n : Nat} {p : Int × Int} : p ∈ nightsOf rm fr n ↔ p.1 = rm ∧ fr ≤ p.2 ∧ p.2 < fr + n := by
 unfold nightsOf
 rw [List.mem_map]
 constructor
 ·
  rintro ⟨i, hi, rfl⟩
  rw [List.mem_range] at hi
  exact ⟨rfl, by omega, by omega⟩
 ·
  rintro ⟨h1, h2, h3⟩
  obtain ⟨a, b⟩ := p
  simp only at h1 h2 h3
  exact ⟨(b - fr).toNat, List.mem_range.2 (by omega), by rw [h1]; simp; omega⟩
theorem takenL_take {l : List StayV} {k : Nat} {s : StayV} (h : l[k]? = some s) : takenL (l.take (k + 1)) = takenL (l.take k) ++ nightsOf s.rm s.fr (s.un - s.fr).toNat := by
 obtain ⟨hk, e⟩ := List.getElem?_eq_some_iff.1 h
 unfold takenL
 rw [List.take_succ_eq_append_getElem hk, e, List.flatMap_append]
 simp
theorem free_night {l : List StayV} {k : Nat} {s : StayV} (hd : ApartL l) (h : l[k]? = some s) {m : Int} (h1 : s.fr ≤ m) (h2 : m < s.un) {q : Nat} (hq : s.fr + q = m) : (s.rm, m) ∉ takenL (l.take k) ++ nightsOf s.rm s.fr q := by
 rw [List.mem_append]
 rintro (hm | hm)
 ·
  unfold takenL at hm
  obtain ⟨t, ht, hp⟩ := List.mem_flatMap.1 hm
  obtain ⟨i, hi, e⟩ := List.getElem_of_mem ht
  have hik : i < k := by rw [List.length_take] at hi; omega
  rw [mem_nights] at hp
  obtain ⟨p1, p2, p3⟩ := hp
  have := hd i k t s hik (by rw [List.getElem_take] at e; rw [← e]; exact List.getElem?_eq_getElem _) h p1.symm
  simp only at p2 p3
  omega
 ·
  rw [mem_nights] at hm
  simp only at hm
  omega
theorem look_id {RL : List RoomV} (hn : (RL.map RoomV.id).Nodup) {r : RoomV} (hr : r ∈ RL) : look (mapOf RoomV.id RoomV.val RL) r.id = some r.val := mapOf_some hn hr
set_option maxRecDepth 100000 in
set_option maxHeartbeats 6400000 in
theorem Placed_yes (a b : Option Addr) (m mc n cap : Nat) (RL : List RoomV) (l : List StayV) (w : World) (hmm : m ≤ 9223372036854775807) (hr : SlM w a m RL) (hv : validM RL = true) (hs : SlG stE w b n l) (hg : GoodL l) (hp : PlacedL RL l) :
  Calls Tryz.prog 8 #[.slice a m mc, .slice b n cap] w fun e w' => e = .returned (.tuple #[.bool true, .int .i64 0]) ∧ Below w.heap.size w w' := by
 have hn := hg.len hs.1
 have hm : n ≤ 9223372036854775807 := by omega
 have HR := Lib.hid hr
 have HS := Lib.hid hs
 have HL := Lib.hid hs.1
 have HG := Lib.hid hg
 have HP := Lib.hid hp
 have HV := Lib.hid hv
 have h1 := rvalid_p a m mc RL w hmm hr true hv
 clear hr hs hg hp hv
 go_enter Tryz.func8, Tryz.ntmps8
 go_wp2_with fail
 refine h1.mono ?_
 rintro e w1 ⟨rfl, hb1⟩
 have HR1 := Lib.hid (HR.out.step hb1)
 have HS1 := Lib.hid (HS.out.step hb1)
 clear h1
 go_wp2_with fail
 refine (sValid_yes b n cap l w1 HS1.out HG.out).mono ?_
 rintro e w2 ⟨rfl, hb2⟩
 have HR2 := Lib.hid (HR1.out.step hb2)
 have HS2 := Lib.hid (HS1.out.step hb2)
 have HB2 : Hid (Below w.heap.size w w2) := hb1.trans (hb2.mono hb1.size)
 clear hb1 hb2 HS1 HR1 HS HR
 go_wp2_with fail
 refine (byM_any a m mc RL w2 hmm HR2.out).mono ?_
 rintro e w3 ⟨M1, rfl, hM1, hk1, hb3⟩
 have HR3 := Lib.hid (HR2.out.step hb3)
 have HS3 := Lib.hid (HS2.out.step hb3)
 have HB3 : Hid (Below w.heap.size w w3) := HB2.out.trans (hb3.mono HB2.out.size)
 have HM3 := Lib.hid hM1
 have hs3 := HB3.out.size
 clear hb3 HS2 HR2 HB2 hM1
 go_wp2_with fail
 refine (byT_any b n cap l w3 hm HS3.out).mono ?_
 rintro e w4 ⟨M2, rfl, hM2, hk2, hb4⟩
 have HR4 := Lib.hid (HR3.out.step hb4)
 have HS4 := Lib.hid (HS3.out.step hb4)
 have HB4 : Hid (Below w.heap.size w w4) := HB3.out.trans (hb4.mono HB3.out.size)
 have HM4 := Lib.hid (HM3.out.below hb4)
 have hlM := HM4.out.lt
 have hs4 := hb4.size
 clear hb4 HS3 HR3 HB3 hM2 HM3
 obtain ⟨tk, htk⟩ : ∃ q, w4.heap.size = q := ⟨_, rfl⟩
 have HT : Hid (PMap (w4.alloc (.map #[] 0)) tk []) := by rw [← htk]; exact PMap.made _
 have HC5 : Hid (Ch (fun k => k = tk) w4 (w4.alloc (.map #[] 0))) := (Ch.refl _ _).alloc _
 have hs5 : (w4.alloc (.map #[] 0)).heap.size = tk + 1 := by simp [htk]
 have HC5 : Hid (Below tk w4 (w4.alloc (.map #[] 0))) := by rw [← htk]; exact (Below.refl _ _).alloc (Nat.le_refl _) _
 have hmk := @run_makeMap Tryz.prog
 go_wp2_with fail
 go_loopw [10, 30] (fun _ i wr => ∃ k : Nat, k ≤ n ∧ i = .int .i64 k ∧ Hid (PMap wr tk (takenL (l.take k))) ∧ Hid (Below tk w4 wr) ∧ Hid (tk < wr.heap.size)) (fun _ i _ => n - (intOf i).toNat)
 case atStart => exact ⟨0, Nat.zero_le _, rfl, by rw [List.take_zero]; exact HT, HC5, by show _ < _; omega⟩
 case round =>
  obtain ⟨k, hk, rfl, hT, hB, hsz⟩ := hrel
  have hsz' := hsz.out
  by_cases hkn : k < n
  ·
   have hB' : Below w4.heap.size w4 wr := by rw [htk]; exact hB.out
   obtain ⟨s, c, off, hx, rfl, hlb, x0, x1, x2, x3, x4, x5, x6, x7, x8⟩ := slT_get (HS4.out.step hB') hkn
   have hsm := List.mem_of_getElem? hx.out
   have hgs := HG.out.each s hsm
   obtain ⟨r, hrm, hrid, hsu⟩ := HP.out.room s hsm
   have hwt := hgs.2.2.2.2.2.1
   rw [hwt] at x6
   have HGS := Lib.hid hgs
   have HSU := Lib.hid hsu
   have HRI : Hid (r.In wr) := (HR4.out.2 r hrm).step hB'
   have HRF := Lib.hid ((validM_in HV.out).2.1 r hrm)
   have HSP : Hid (∀ W, r.In W → Calls Tryz.prog 24 #[.agg #[.int .i64 s.id, .int .i64 s.kd, .int .i64 s.fr, .int .i64 s.un, .int .i64 s.ps, .int .i64 s.rm, .int .i64 0, .bool s.ac, .bool s.inn], .agg #[.int .i64 r.id, .int .i64 r.ho, .int .i64 r.kd, .int .i64 r.jn, .bool r.ac, .slice r.ba r.bl.length r.bc]] W fun e w' => e = .returned (.bool true) ∧ Below W.heap.size W w') := fun W h => by
    have hh := suits_p s r true HSU.out W HGS.out h HRF.out
    rw [hwt] at hh
    exact hh
   have HTT := Lib.hid (takenL_take hx.out)
   have hgf := hgs.1
   clear hwt
   have hlk : look (mapOf RoomV.id RoomV.val RL) s.rm = some r.val := by rw [← hrid]; exact look_id (validM_in HV.out).2.2 hrm
   obtain ⟨w6, hw6⟩ : ∃ w6, w6 = wr.alloc (.cells #[.int .i64 s.id, .int .i64 s.kd, .int .i64 s.fr, .int .i64 s.un, .int .i64 s.ps, .int .i64 s.rm, .int .i64 0, .bool s.ac, .bool s.inn] 37) := ⟨_, rfl⟩
   have hal : Below wr.heap.size wr w6 := by rw [hw6]; exact (Below.refl _ _).alloc (Nat.le_refl _) _
   have hlu : Sem.run Tryz.prog (Instr.lookup 57 (.map (some M1)) (.int .i64 s.rm) true) w6 = .ok (.tuple #[.agg #[.int .i64 r.id, .int .i64 r.ho, .int .i64 r.kd, .int .i64 r.jn, .bool r.ac, .slice r.ba r.bl.length r.bc], .bool true]) w6 := by
    rw [run_lookup_imap Tryz.underlying57 Tryz.underlying3 ((HM4.out.below hB').below hal) _ (zero_room _) s.rm true, hlk]; rfl
   rw [hw6] at hlu
   clear hlk hsm hgs hrid hsu hal hw6 w6 hrm
   go_wp2_with fail
   obtain ⟨w6, hw6⟩ : ∃ w6, (wr.alloc (.cells #[.int .i64 s.id, .int .i64 s.kd, .int .i64 s.fr, .int .i64 s.un, .int .i64 s.ps, .int .i64 s.rm, .int .i64 0, .bool s.ac, .bool s.inn] 37)).alloc (.cells #[.int .i64 r.id, .int .i64 r.ho, .int .i64 r.kd, .int .i64 r.jn, .bool r.ac, .slice r.ba r.bl.length r.bc] 42) = w6 := ⟨_, rfl⟩
   obtain ⟨bx, hbx⟩ : ∃ bx, wr.heap.size = bx := ⟨_, rfl⟩
   have hal : Below wr.heap.size wr w6 := by rw [← hw6]; exact ((Below.refl _ _).alloc (Nat.le_refl _) _).alloc (by simp) _
   have R : Row w6 bx [.int .i64 s.id, .int .i64 s.kd, .int .i64 s.fr, .int .i64 s.un, .int .i64 s.ps, .int .i64 s.rm, .int .i64 0, .bool s.ac, .bool s.inn] := by rw [← hw6, ← hbx]; exact (Row.new' _ _ _ rfl).alloc _
   simp only [hw6, hbx]
   refine (HSP.out w6 (HRI.out.step hal)).mono ?_
   rintro e w7 ⟨rfl, hb7⟩
   have hb67 := hal.trans (hb7.mono hal.size)
   have R7 := R.step hb7
   have HT7 : Hid (PMap w7 tk (takenL (l.take k) ++ nightsOf s.rm s.fr 0)) := by show PMap _ _ _; rw [show nightsOf s.rm s.fr 0 = [] from rfl, List.append_nil]; exact hT.out.step hb67
   have HB7 : Hid (Below tk w4 w7) := hB.out.trans (hb67.mono (by omega))
   have hs7 : tk < w7.heap.size := Nat.lt_of_lt_of_le hsz' hb67.size
   have hbt : bx ≠ tk := by omega
   clear hal hb7 hb67 hw6 hlu R x0 x1 x2 x3 x4 x5 x6 x7 x8
   have y2 := R7.cell 2 rfl
   have y3 := R7.cell 3 rfl
   have y5 := R7.cell 5 rfl
   have y6 := R7.cell 6 rfl
   have yl := R7.lt
   obtain ⟨N, hN⟩ : ∃ N, (s.un - s.fr).toNat = N := ⟨_, rfl⟩
   have HR7 := Lib.hid R7
   go_wp2_with fail
   go_loopw [13, 14] (fun v _ wx => ∃ q : Nat, q ≤ N ∧ v = .int .i64 (s.fr + q) ∧ Hid (PMap wx tk (takenL (l.take k) ++ nightsOf s.rm s.fr q)) ∧ Hid (Below tk w4 wx) ∧ Hid (tk < wx.heap.size) ∧ Hid (Row wx bx [.int .i64 s.id, .int .i64 s.kd, .int .i64 s.fr, .int .i64 s.un, .int .i64 s.ps, .int .i64 s.rm, .int .i64 0, .bool s.ac, .bool s.inn])) (fun v _ _ => (s.un - intOf v).toNat)
   case atStart => exact ⟨0, Nat.zero_le _, by simp, HT7.out, HB7.out, hs7, HR7.out⟩
   case round =>
    obtain ⟨q, hq, rfl, hT2, hB2, hsz2, hR2⟩ := hrel
    have hsz2' := hsz2.out
    have y2 := hR2.out.cell 2 rfl
    have y3 := hR2.out.cell 3 rfl
    have y5 := hR2.out.cell 5 rfl
    have yl := hR2.out.lt
    by_cases hqn : s.fr + (q : Int) < s.un
    ·
     have hfree := free_night HP.out.apart hx.out (m := s.fr + q) (by omega) hqn rfl
     have HFR := Lib.hid hfree
     obtain ⟨w8, hw8⟩ : ∃ w8, w8 = wr.alloc (.cells #[.int .i64 s.rm, .int .i64 (s.fr + q)] 66) := ⟨_, rfl⟩
     have hal : Below wr.heap.size wr w8 := by rw [hw8]; exact (Below.refl _ _).alloc (Nat.le_refl _) _
     have hlu : Sem.run Tryz.prog (Instr.lookup 63 (.map (some tk)) (.agg #[.int .i64 s.rm, .int .i64 (s.fr + q)]) false) w8 = .ok (.bool false) w8 := by
      have := run_lookup_pmap Tryz.underlying63 (hT2.out.step hal) (s.rm, s.fr + q)
      rw [decide_eq_false hfree] at this
      exact this
     rw [hw8] at hlu
     clear hfree hal hw8 w8
     have hal2 : Below wr.heap.size wr (wr.alloc (.cells #[.int .i64 s.rm, .int .i64 (s.fr + q)] 66)) := (Below.refl _ _).alloc (Nat.le_refl _) _
     have HT3 := Lib.hid (hT2.out.step hal2)
     have HB3 : Hid (Below tk w4 (wr.alloc (.cells #[.int .i64 s.rm, .int .i64 (s.fr + q)] 66))) := hB2.out.trans (hal2.mono (by omega))
     have HR3 := Lib.hid (hR2.out.step hal2)
     have hsz3 := hal2.size
     have hns := nightsOf_succ s.rm s.fr q
     have HNS := Lib.hid hns
     have hf2 : s.fr + (q : Int) + 1 ≤ 366 := by omega
     have hf3 : 0 ≤ s.fr + (q : Int) := by omega
     clear hal2 hns
     go_wp2_with (first
      | (refine wpList_update_pmap _ rfl _ _ _ 63 rfl 4 Tryz.underlying63 tk _ rfl HT3.out (s.rm, s.fr + (q : Int)) HFR.out rfl rfl ?_; intro w9 hm9 hg9))
     have HT9 : Hid (PMap w9 tk (takenL (l.take k) ++ nightsOf s.rm s.fr (q + 1))) := by show PMap _ _ _; rw [HNS.out, ← List.append_assoc]; exact hm9
     have HB9 := Lib.hid (HB3.out.grown hg9 (by omega) (fun k e => by cases e; exact Nat.le_refl _))
     have hs9 := hg9.size
     have HR9 := Lib.hid (HR3.out.of_block (hg9.block bx HR3.out.lt (fun e => hbt (by cases e; rfl))))
     clear hm9 hg9
     go_wp2_with fail
     go_roundw
     case rel => exact ⟨q + 1, by omega, by go_num, HT9.out, HB9.out, by show _ < _; omega, HR9.out⟩
     case measure => simp [intOf]; omega
    ·
     have hqN : q = N := by omega
     rw [hqN] at hT2
     have HTE : Hid (PMap wr tk (takenL (l.take (k + 1)))) := by show PMap _ _ _; rw [HTT.out, hN]; exact hT2.out
     clear hqN hT2
     go_wp2_with fail
     exact ⟨⟨k + 1, by omega, by go_num, HTE.out, hB2.out, hsz2.out⟩, by simp [intOf]; omega⟩
  ·
   obtain rfl : k = n := by omega
   go_wp2_with fail
   go_ret2
   exact ⟨rfl, HB4.out.trans (hB.out.mono (by omega))⟩
end Go.Proofs.YtlmajlfhjbhdpaaGreat
