/-
 The walk of hall.open: a night with its stays and all rooms, by their numbers, and which suit.
-/
import Derived.Test.YtlmajlfhjbhdpaaGreatYC
import Derived.Test.YtlmajlfhjbhdpaaGreatYA
namespace Go.Proofs.YtlmajlfhjbhdpaaGreat
set_option linter.unusedSimpArgs false
set_option linter.unusedVariables false
open Go.RowKit Go.Shelf
abbrev zstay : StayV := ⟨0, 0, 0, 0, 0, 0, 0, false, false⟩
theorem zero_stay (w : World) : (zeroValue 37).run Tryz.prog w = .ok (.agg #[.int .i64 0, .int .i64 0, .int .i64 0, .int .i64 0, .int .i64 0, .int .i64 0, .int .i64 0, .bool false, .bool false]) w := by kernel_rfl
def getS (l : List StayV) (id : Int) : StayV := (l.find? (fun s => s.id == id)).getD zstay
theorem getS_mem {l : List StayV} (hn : (l.map StayV.id).Nodup) {s : StayV} (hs : s ∈ l) : getS l s.id = s := by
 unfold getS
 cases h : l.find? (fun t => t.id == s.id) with
 | none =>
  rw [List.find?_eq_none] at h
  exact (h s hs (by simp)).elim
 | some t =>
  have h1 := List.find?_some h
  have h2 := List.mem_of_find?_eq_some h
  exact nodup_inj hn h2 hs (by simpa using h1)
/-- The stays of a night, by their numbers. -/
def nsL (q : Int) (l : List StayV) : List StayV := (srtI (onI q l)).map (getS l)
theorem nsL_perm {q : Int} {l : List StayV} (hn : (l.map StayV.id).Nodup) : (nsL q l).Perm (l.filter (onB q)) := by
 unfold nsL
 refine ((srtI_perm (onI q l)).map _).trans ?_
 unfold onI
 rw [List.map_map]
 have e : (l.filter (onB q)).map (getS l ∘ StayV.id) = l.filter (onB q) := by
  refine (List.map_congr_left fun s hs => ?_).trans (List.map_id _)
  exact getS_mem hn (List.mem_filter.1 hs).1
 rw [e]
def sfits (NS : List StayV) (NR : List RoomV) (i k : Nat) : Bool := match NS[i]?, NR[k]? with
 | some s, some r => suitB s r
 | _, _ => false
theorem sfits_at {NS : List StayV} {NR : List RoomV} {i k : Nat} {s : StayV} {r : RoomV} (h1 : NS[i]? = some s) (h2 : NR[k]? = some r) : sfits NS NR i k = suitB s r := by unfold sfits; rw [h1, h2]
theorem sfits_lt {NS : List StayV} {NR : List RoomV} {i k : Nat} (h : sfits NS NR i k = true) : i < NS.length ∧ k < NR.length := by
 unfold sfits at h
 cases h1 : NS[i]? with
 | none => rw [h1] at h; cases h
 | some s =>
  cases h2 : NR[k]? with
  | none => rw [h1, h2] at h; cases h
  | some r => exact ⟨(List.getElem?_eq_some_iff.1 h1).1, (List.getElem?_eq_some_iff.1 h2).1⟩
/-- The pairs so far: all rooms of the first i stays, the first k of the next one. -/
def FitK (NS : List StayV) (NR : List RoomV) (F : List (Int × Int)) (i k : Nat) : Prop := ∀ a b : Nat, fitsF F a b = true ↔ (a < i ∨ a = i ∧ b < k) ∧ sfits NS NR a b = true
theorem FitK.yes {NS : List StayV} {NR : List RoomV} {F : List (Int × Int)} {i k : Nat} (h : FitK NS NR F i k) (hs : sfits NS NR i k = true) : FitK NS NR (F ++ [((i : Int), (k : Int))]) i (k + 1) := fun a b => by
 have := h a b
 unfold fitsF at this ⊢
 rw [decide_eq_true_eq] at this ⊢
 rw [List.mem_append, this]
 simp only [List.mem_singleton, Prod.mk.injEq]
 constructor
 ·
  rintro (h | ⟨h1, h2⟩)
  ·
   exact ⟨by omega, h.2⟩
  ·
   obtain rfl : a = i := by omega
   obtain rfl : b = k := by omega
   exact ⟨by omega, hs⟩
 ·
  rintro ⟨h1, h2⟩
  by_cases e : a = i ∧ b = k
  ·
   exact Or.inr ⟨by omega, by omega⟩
  ·
   exact Or.inl ⟨by omega, h2⟩
theorem FitK.no {NS : List StayV} {NR : List RoomV} {F : List (Int × Int)} {i k : Nat} (h : FitK NS NR F i k) (hs : sfits NS NR i k = false) : FitK NS NR F i (k + 1) := fun a b => by
 rw [h a b]
 constructor
 ·
  rintro ⟨h1, h2⟩
  exact ⟨by omega, h2⟩
 ·
  rintro ⟨h1, h2⟩
  refine ⟨?_, h2⟩
  by_cases e : a = i ∧ b = k
  ·
   obtain ⟨rfl, rfl⟩ := e
   rw [hs] at h2
   cases h2
  ·
   omega
theorem FitK.new {NS : List StayV} {NR : List RoomV} {F : List (Int × Int)} {i k : Nat} (h : FitK NS NR F i k) : ((i : Int), (k : Int)) ∉ F := fun hm => by
 have := (h i k).1 (by unfold fitsF; rw [decide_eq_true_eq]; exact hm)
 omega
theorem FitK.next {NS : List StayV} {NR : List RoomV} {F : List (Int × Int)} {i : Nat} (h : FitK NS NR F i NR.length) : FitK NS NR F (i + 1) 0 := fun a b => by
 rw [h a b]
 constructor
 ·
  rintro ⟨h1, h2⟩
  exact ⟨by omega, h2⟩
 ·
  rintro ⟨h1, h2⟩
  have := sfits_lt h2
  exact ⟨by omega, h2⟩
theorem FitK.all {NS : List StayV} {NR : List RoomV} {F : List (Int × Int)} (h : FitK NS NR F NS.length 0) (a b : Nat) : fitsF F a b = sfits NS NR a b := by
 rw [Bool.eq_iff_iff, h a b]
 exact ⟨fun h => h.2, fun h => ⟨Or.inl (sfits_lt h).1, h⟩⟩
theorem look_stay {l : List StayV} (hn : (l.map StayV.id).Nodup) {q id : Int} (h : id ∈ srtI (onI q l)) : look (mapOf StayV.id StayV.val l) id = some (getS l id).val := by
 have h2 := (srtI_perm _).mem_iff.1 h
 unfold onI at h2
 obtain ⟨s, hs, rfl⟩ := List.mem_map.1 h2
 have hm := (List.mem_filter.1 hs).1
 rw [getS_mem hn hm]
 exact mapOf_some hn hm
theorem getS_good {l : List StayV} (hg : GoodL l) {q id : Int} (h : id ∈ srtI (onI q l)) : (getS l id).Good := by
 have h2 := (srtI_perm _).mem_iff.1 h
 unfold onI at h2
 obtain ⟨s, hs, rfl⟩ := List.mem_map.1 h2
 have hm := (List.mem_filter.1 hs).1
 rw [getS_mem hg.ids hm]
 exact hg.each s hm
set_option maxRecDepth 100000 in
set_option maxHeartbeats 12800000 in
theorem open_any (a b : Option Addr) (m mc n cap : Nat) (RL : List RoomV) (l : List StayV) (q : Int) (w : World) (hm : m ≤ 1000) (hr : SlM w a m RL) (hv : validM RL = true) (hs : SlG stE w b n l) (hg : GoodL l) (h0 : 0 ≤ q) (h1 : q ≤ 365) :
  Calls Tryz.prog 94 #[.slice a m mc, .slice b n cap, .int .i64 q] w fun e w' => ∃ (nb : Nat) (sa : Option Addr) (sn sc : Nat) (ra : Option Addr) (rc fb : Nat) (F : List (Int × Int)), e = .returned (.tuple #[.pointer (some ⟨nb, 0, none⟩), .bool true]) ∧ NightIn w' nb sa sn sc (nsL q l) ra m rc (srtM RL) fb F ∧ (∀ i k, fitsF F i k = sfits (nsL q l) (srtM RL) i k) ∧ sn ≤ n ∧ Below w.heap.size w w' := by
 have hn := hg.len hs.1
 have HR := Lib.hid hr
 have HS := Lib.hid hs
 have HL := Lib.hid hs.1
 have HG := Lib.hid hg
 have HV := Lib.hid hv
 have hon := On_any b n cap l q w hs hg h0 h1
 have hmk := @run_makeMap Tryz.prog
 clear hr hs hg hv
 go_enter Tryz.func94, Tryz.ntmps94
 go_wp2_with fail
 refine hon.mono ?_
 rintro e w1 ⟨ia, sn, ic, rfl, hsn, hi1, hb1⟩
 have HI1 := Lib.hid hi1.sl
 have HIL : Hid ((srtI (onI q l)).length = sn) := hi1.sizes.1
 have HB1 := Lib.hid hb1
 have HR1 := Lib.hid (HR.out.step hb1)
 clear hon hi1 hb1
 go_wp2_with fail
 refine (rvalid_p a m mc RL w1 (by omega) HR1.out true HV.out).mono ?_
 rintro e w2 ⟨rfl, hb2⟩
 have HI2 := Lib.hid (HI1.out.step hb2)
 have HR2 := Lib.hid (HR1.out.step hb2)
 have HB2 : Hid (Below w.heap.size w w2) := HB1.out.trans (hb2.mono HB1.out.size)
 clear hb2 HI1 HR1 HB1
 go_wp2_with fail
 refine (valuesM_any a m mc w2).mono ?_
 rintro e w3 ⟨rfl, hv3, hb3⟩
 have HI3 := Lib.hid (HI2.out.step hb3)
 have HR3 := Lib.hid (HR2.out.step hb3)
 have HV3 := Lib.hid hv3
 have HB3 : Hid (Below w.heap.size w w3) := HB2.out.trans (hb3.mono HB2.out.size)
 clear hb3 HI2 HR2 HB2 hv3
 go_wp2_with fail
 refine (sortedM_any 122 cmpM_b w2.heap.size a m mc RL w3 HV3.out HR3.out.1 hm).mono ?_
 rintro e w4 ⟨ra, rc, rfl, ho4, hb4⟩
 have HI4 := Lib.hid (HI3.out.step hb4)
 have HR4 := Lib.hid (HR3.out.step hb4)
 have HO4 := Lib.hid ho4.sl
 have HB4 : Hid (Below w.heap.size w w4) := HB3.out.trans (hb4.mono HB3.out.size)
 clear hb4 HI3 HR3 HB3 ho4 HV3
 obtain ⟨fb, hfb⟩ : ∃ fb, w4.heap.size = fb := ⟨_, rfl⟩
 have HILO : Hid (0 < sn → ∀ b' o, ia = some ⟨b', o, none⟩ → b' < fb) := fun h0 b' o e => by
  obtain ⟨b2, o2, e2, hb⟩ := HI4.out.ad h0
  rw [e] at e2
  cases e2
  omega
 have HRLO : Hid (0 < m → ∀ b' o, ra = some ⟨b', o, none⟩ → b' < fb) := fun h0 b' o e => by
  obtain ⟨b2, o2, e2, hb⟩ := HO4.out.ad h0
  rw [e] at e2
  cases e2
  omega
 obtain ⟨nb, hnb⟩ : ∃ nb, fb + 1 = nb := ⟨_, rfl⟩
 obtain ⟨M1, hM1⟩ : ∃ M1, nb + 1 = M1 := ⟨_, rfl⟩
 obtain ⟨w5, hw5⟩ : ∃ w5, ((w4.alloc (.map #[] 0)).alloc (.cells #[.slice none 0 0, .slice ra m rc, .map (some fb)] 169)).alloc (.map #[] 0) = w5 := ⟨_, rfl⟩
 have hs5 : w5.heap.size = M1 + 1 := by rw [← hw5]; simp; omega
 have HB45 : Hid (Below w4.heap.size w4 w5) := by show Below _ _ _; rw [← hw5]; (repeat' (first | (with_reducible first | exact Below.refl _ _ | assumption | exact Bw.out (by assumption) | refine bw_alloc ?_ _ | refine bw_step ?_ (by assumption) | refine Below.alloc ?_ ?_ _ | refine Below.drew ?_ | refine below_drewN ?_ _ | refine Below.setCell ?_ ?_ _ | refine below_step ?_ (by assumption) ?_ | exact Nat.le_refl _) | omega | (simp; omega) | (simp; done)))
 have HF5 : Hid (PMap w5 fb []) := by
  show PMap _ _ _
  rw [← hw5]
  have h := PMap.made w4
  rw [hfb] at h
  exact (h.alloc _).alloc _
 have HN5 : Hid (RowT w5 nb 169 [.slice none 0 0, .slice ra m rc, .map (some fb)]) := by
  show RowT _ _ _ _
  rw [← hw5]
  have h := RowT.new (w4.alloc (.map #[] 0)) 169 [.slice none 0 0, .slice ra m rc, .map (some fb)]
  rw [show (w4.alloc (.map #[] 0)).heap.size = nb by simp; omega] at h
  exact h.step ((Below.refl _ _).alloc (Nat.le_refl _) _)
 have HM5 : Hid (IMap w5 M1 (mapOf StayV.id StayV.val (l.take 0))) := by
  show IMap _ _ _
  rw [← hw5]
  have h := imap_made ((w4.alloc (.map #[] 0)).alloc (.cells #[.slice none 0 0, .slice ra m rc, .map (some fb)] 169))
  rw [show ((w4.alloc (.map #[] 0)).alloc (.cells #[.slice none 0 0, .slice ra m rc, .map (some fb)] 169)).heap.size = M1 by simp; omega] at h
  exact h
 go_wp2_with fail
 try simp only [hfb, hnb, hM1, hw5]
 clear hw5
 have hm2 : n ≤ 9223372036854775807 := by omega
 go_loopw [13, 44] (fun _ ix wr => ∃ k : Nat, k ≤ n ∧ ix = .int .i64 k ∧ Hid (IMap wr M1 (mapOf StayV.id StayV.val (l.take k))) ∧ Hid (Below M1 w5 wr) ∧ Hid (M1 < wr.heap.size)) (fun _ ix _ => n - (intOf ix).toNat)
 case atStart => exact ⟨0, Nat.zero_le _, rfl, HM5.out, Below.refl _ _, by show _ < _; omega⟩
 case round =>
  obtain ⟨k, hk, rfl, hM, hB, hsz⟩ := hrel
  have hsz' := hsz.out
  have hB' : Below w4.heap.size w4 wr := HB45.out.trans (hB.out.mono (by omega))
  by_cases hkn : k < n
  ·
   obtain ⟨s, c, off, hx, rfl, hlb, x0, x1, x2, x3, x4, x5, x6, x7, x8⟩ := slT_get ((HS.out.step HB4.out).step hB') hkn
   have HMT := Lib.hid (mapOf_take (key := StayV.id) (val := StayV.val) hx.out)
   have hal : Below wr.heap.size wr (wr.alloc (.cells #[.int .i64 s.id, .int .i64 s.kd, .int .i64 s.fr, .int .i64 s.un, .int .i64 s.ps, .int .i64 s.rm, .int .i64 s.wt, .bool s.ac, .bool s.inn] 37)) := (Below.refl _ _).alloc (Nat.le_refl _) _
   have HMA := Lib.hid (hM.out.below hal)
   have HBA : Hid (Below M1 w5 (wr.alloc (.cells #[.int .i64 s.id, .int .i64 s.kd, .int .i64 s.fr, .int .i64 s.un, .int .i64 s.ps, .int .i64 s.rm, .int .i64 s.wt, .bool s.ac, .bool s.inn] 37))) := hB.out.trans (hal.mono (by omega))
   have hsa := hal.size
   clear hal
   go_wp2_with (first
    | (refine wpList_update_imap _ rfl _ _ _ 60 (.inl rfl) 3 37 Tryz.underlying60 Tryz.underlying3 M1 _ rfl HMA.out s.id s.val rfl rfl ?_; intro w7 hm7 hg7))
   have HM7 : Hid (IMap w7 M1 (mapOf StayV.id StayV.val (l.take (k + 1)))) := by show IMap _ _ _; rw [HMT.out]; exact hm7
   have HB7 := Lib.hid (HBA.out.grown hg7 (by omega) (fun k e => by cases e; exact Nat.le_refl _))
   have hs7 := hg7.size
   clear hm7 hg7
   go_wp2_with fail
   go_roundw
   case rel => exact ⟨k + 1, by omega, by go_num, HM7.out, HB7.out, by show _ < _; omega⟩
   case measure => simp [intOf]; omega
  ·
   obtain rfl : k = n := by omega
   have HMA : Hid (IMap wr M1 (mapOf StayV.id StayV.val l)) := by
    have := hM.out
    rwa [List.take_of_length_le (by rw [HL.out]; omega)] at this
   obtain ⟨w6, hw6⟩ : ∃ x, x = wr := ⟨_, rfl⟩
   subst hw6
   have HI6 := Lib.hid (HI4.out.step hB')
   have HR6 := Lib.hid (HR4.out.step hB')
   have HO6 := Lib.hid (HO4.out.step hB')
   have HF6 := Lib.hid (HF5.out.of_block (hB.out.block fb (by omega)))
   have HN6 := Lib.hid (HN5.out.below hB.out (by omega))
   have HB6 : Hid (Below w.heap.size w w6) := HB4.out.trans (hB'.mono HB4.out.size)
   have hs6 := HB6.out.size
   have hfl : fb < nb ∧ nb < M1 ∧ M1 < w6.heap.size ∧ w.heap.size ≤ fb := by have := HB4.out.size; omega
   clear hM hB hB' HI4 HR4 HO4 HF5 HN5 HM5 HB45 HS
   have HNS0 : Hid (OwnG stE 37 w6 w6.heap.size (.slice none 0 0) (((srtI (onI q l)).take 0).map (getS l))) := OwnG.nil _ _ _ _
   obtain ⟨ids, hids⟩ : ∃ ids, srtI (onI q l) = ids := ⟨_, rfl⟩
   have HIDS : Hid (∀ x ∈ ids, look (mapOf StayV.id StayV.val l) x = some (getS l x).val ∧ (getS l x).Good) := fun x hx => ⟨look_stay HG.out.ids (by rw [hids]; exact hx), getS_good HG.out (by rw [hids]; exact hx)⟩
   have HNSL : Hid (nsL q l = ids.map (getS l)) := by show _ = _; unfold nsL; rw [hids]
   rw [hids] at HI6 HIL HNS0
   clear hids
   go_wp2_with fail
   go_loopw [55] (fun ix wr => ∃ (j : Nat) (ad : Option Addr) (cp : Nat), j ≤ sn ∧ ix = .int .i64 j ∧ Hid (RowT wr nb 169 [.slice ad j cp, .slice ra m rc, .map (some fb)]) ∧ Hid (OwnG stE 37 wr w6.heap.size (.slice ad j cp) ((ids.take j).map (getS l))) ∧ Hid (Ch (fun x => x = nb) w6 wr)) (fun ix _ => sn - (intOf ix).toNat)
   case atStart => exact ⟨0, none, 0, Nat.zero_le _, rfl, HN6.out, HNS0.out, Ch.refl _ _⟩
   case round =>
    obtain ⟨j, ad, cp, hj, rfl, hNr, hOr, hCr⟩ := hrel
    have hcs := hCr.out.size
    have HB6r : Hid (Below w.heap.size w wr) := hCr.out.below HB6.out (fun x hx => by omega) hs6
    have hMr : IMap wr M1 (mapOf StayV.id StayV.val l) := HMA.out.of_block (hCr.out.2.2.2.2 M1 (by omega) (by omega))
    by_cases hjn : j < sn
    ·
     have hIr : SlG intE wr ia sn ids := HI6.out.ch hCr.out (fun h0 b' o e e' => by have := HILO.out h0 b' o e; omega)
     obtain ⟨x, c2, off2, hx, rfl, hlb2, y0⟩ := slI_get hIr hjn
     obtain ⟨hlk, hgd⟩ := HIDS.out x (List.mem_of_getElem? hx.out)
     obtain ⟨s, hs⟩ : ∃ s, getS l x = s := ⟨_, rfl⟩
     have HTS : Hid ((ids.take (j + 1)).map (getS l) = (ids.take j).map (getS l) ++ [s]) := by show _ = _; rw [take_snoc hx.out, List.map_append, List.map_singleton, hs]
     rw [hs] at hlk
     have HLK : Hid (∀ W, IMap W M1 (mapOf StayV.id StayV.val l) → Sem.run Tryz.prog (Instr.lookup 60 (.map (some M1)) (.int .i64 x) false) W = .ok (.agg #[.int .i64 s.id, .int .i64 s.kd, .int .i64 s.fr, .int .i64 s.un, .int .i64 s.ps, .int .i64 s.rm, .int .i64 s.wt, .bool s.ac, .bool s.inn]) W) := fun W h => by
      rw [run_lookup_imap Tryz.underlying60 Tryz.underlying3 h _ (zero_stay _) x false, hlk]; rfl
     have HLJ : Hid (((ids.take j).map (getS l)).length = j) := hOr.out.sizes.1
     have i1 : (0 : Int) ≤ (j : Int) := by omega
     have i2 : (j : Int) < (sn : Int) := by omega
     have hj3 : j ≤ 3000 := by omega
     have hHM := Lib.hid hMr
     clear hlk hs hgd hIr hMr
     go_upto_region 14 with fail
     refine AnyJ.beginP (fun w' : World => w'.cell? ⟨nb, 0, none⟩ = some (.slice ad j cp) ∧ Sem.run Tryz.prog (Instr.lookup 60 (.map (some M1)) (.int .i64 x) false) w' = .ok (.agg #[.int .i64 s.id, .int .i64 s.kd, .int .i64 s.fr, .int .i64 s.un, .int .i64 s.ps, .int .i64 s.rm, .int .i64 s.wt, .bool s.ac, .bool s.inn]) w') (fun j => decide (j ≤ 11)) (by kernel_rfl) ⟨hNr.out.row.cell 0 rfl, HLK.out _ hHM.out⟩ (fun hS => ?_)
     refine AnyJ.takeD (i := 0) (d := some 59) (v := ?_) rfl (by kernel_rfl) (by kernel_rfl) (by kernel_rfl) (by kernel_rfl) (by kernel_rfl) (fun _ _ _ h => h) (Or.inl ⟨by kernel_rfl, ?_⟩) hS ?_
     rotate_left
     ·
      intro w' hS
      obtain ⟨f0, f1⟩ := hS
      go_simp
      try with_reducible rfl
     refine AnyJ.takeD (i := 1) (d := some 60) (v := ?_) rfl (by kernel_rfl) (by kernel_rfl) (by kernel_rfl) (by kernel_rfl) (by kernel_rfl) (fun _ _ _ h => h) (Or.inl ⟨by kernel_rfl, ?_⟩) hS ?_
     rotate_left
     ·
      intro w' hS
      obtain ⟨f0, f1⟩ := hS
      go_simp
      try with_reducible rfl
     refine AnyJ.takeD (i := 2) (d := some 61) (v := ?_) rfl (by kernel_rfl) (by kernel_rfl) (by kernel_rfl) (by kernel_rfl) (by kernel_rfl) (fun _ _ _ h => h) (Or.inl ⟨by kernel_rfl, ?_⟩) hS ?_
     rotate_left
     ·
      intro w' hS
      obtain ⟨f0, f1⟩ := hS
      go_simp
      try with_reducible rfl
     refine AnyJ.takeD (i := 3) (d := some 62) (v := ?_) rfl (by kernel_rfl) (by kernel_rfl) (by kernel_rfl) (by kernel_rfl) (by kernel_rfl) (fun _ _ _ h => h) (Or.inl ⟨by kernel_rfl, ?_⟩) hS ?_
     rotate_left
     ·
      intro w' hS
      obtain ⟨f0, f1⟩ := hS
      go_simp
      try with_reducible rfl
     refine AnyJ.takeD (i := 4) (d := some 63) (v := ?_) rfl (by kernel_rfl) (by kernel_rfl) (by kernel_rfl) (by kernel_rfl) (by kernel_rfl) (fun _ _ _ h => h) (Or.inl ⟨by kernel_rfl, ?_⟩) hS ?_
     rotate_left
     ·
      intro w' hS
      obtain ⟨f0, f1⟩ := hS
      go_simp
      try with_reducible rfl
     refine AnyJ.takeD (i := 5) (d := some 64) (v := ?_) rfl (by kernel_rfl) (by kernel_rfl) (by kernel_rfl) (by kernel_rfl) (by kernel_rfl) (fun _ _ _ h => h) (Or.inl ⟨by kernel_rfl, ?_⟩) hS ?_
     rotate_left
     ·
      intro w' hS
      obtain ⟨f0, f1⟩ := hS
      go_simp
      try with_reducible rfl
     refine AnyJ.takeD (i := 6) (d := some 65) (v := ?_) rfl (by kernel_rfl) (by kernel_rfl) (by kernel_rfl) (by kernel_rfl) (by kernel_rfl) (fun _ _ _ h => h) (Or.inl ⟨by kernel_rfl, ?_⟩) hS ?_
     rotate_left
     ·
      intro w' hS
      obtain ⟨f0, f1⟩ := hS
      go_simp
      try with_reducible rfl
     refine AnyJ.takeD (i := 7) (d := some 66) (v := ?_) rfl (by kernel_rfl) (by kernel_rfl) (by kernel_rfl) (by kernel_rfl) (by kernel_rfl) (fun _ _ _ h => h) (Or.inl ⟨by kernel_rfl, ?_⟩) hS ?_
     rotate_left
     ·
      intro w' hS
      obtain ⟨f0, f1⟩ := hS
      go_simp
      try with_reducible rfl
     clear hS
     obtain ⟨w7, hw7⟩ : ∃ w7, wr.drew = w7 := ⟨_, rfl⟩
     have hN7 : RowT w7 nb 169 [.slice ad j cp, .slice ra m rc, .map (some fb)] := by rw [← hw7]; exact hNr.out
     have hO7 : OwnG stE 37 w7 w6.heap.size (.slice ad j cp) ((ids.take j).map (getS l)) := by rw [← hw7]; exact hOr.out
     have hC7 : Ch (fun x => x = nb) w6 w7 := by rw [← hw7]; exact hCr.out.drew
     have hM7 : IMap w7 M1 (mapOf StayV.id StayV.val l) := by rw [← hw7]; exact hHM.out
     rw [hw7]
     clear hw7
     refine AnyJ.one (i := 8) (by kernel_rfl) rfl (fun Kz hKz => ?_)
     go_simp
     refine hKz _ _ (fun _ => ⟨(hN7.row.alloc _).cell 0 rfl, HLK.out _ (hM7.alloc _)⟩) ?_
     clear hKz Kz
     refine AnyJ.one (i := 9) (by kernel_rfl) rfl (fun Kz hKz => ?_)
     refine step_append_G stI rfl (.tmp 63) (.tmp 67) 26 rfl Tryz.underlying26 w6.heap.size (l := (ids.take j).map (getS l)) (v := .slice ad j cp) (by simp [Act.eval, Act.put]) (hO7.alloc _) (xa := some ⟨w7.heap.size, 0, none⟩) (m := 1) (c := 1) (ys := [s]) (by simp [Act.eval, Act.put]) (SlG.row (rest := []) (Row.new' _ [.int .i64 s.id, .int .i64 s.kd, .int .i64 s.fr, .int .i64 s.un, .int .i64 s.ps, .int .i64 s.rm, .int .i64 s.wt, .bool s.ac, .bool s.inn] _ (by simp)) rfl) (by rw [HLJ.out]; omega) (by rw [HLJ.out]; omega) (by have := hC7.size; simp; omega) ?_
     intro v8 w8 ho8 hg8 hor8 _
     rw [← HTS.out] at ho8
     obtain ⟨ad8, cp8, rfl, ho8', _⟩ := ho8.shape (n := j + 1) (by rw [HTS.out, List.length_append, HLJ.out]; rfl)
     have hq1 : ∀ g, (Value.slice ad j cp).ownBlock = some g → w6.heap.size ≤ g := fun g e => (hO7.lt e).1
     have hq2 : ∀ g, (Value.slice ad8 (j + 1) cp8).ownBlock = some g → w6.heap.size ≤ g := fun g e => (ho8'.lt e).1
     have hn7 := hN7.row.lt
     have hC8 : Ch (fun x => x = nb) w6 w8 := Ch.over (Below.refl _ _) ((hC7.alloc _).mono (p := fun x => x = nb ∨ w6.heap.size ≤ x) (fun k _ h => Or.inl h) |>.trans ((Ch.of_grown (o := fun k => (Value.slice ad j cp).ownBlock = some k) hg8 (fun k e => e)).mono (fun k _ h => Or.inr (hq1 k h)))) (fun k h => h)
     have hN8 : RowT w8 nb 169 [.slice ad j cp, .slice ra m rc, .map (some fb)] := (hg8.block nb (by simp; omega) (fun e => by have := hq1 nb e.symm; omega)).trans ((Below.heap_alloc _ _ _ hn7).trans hN7)
     have hM8 : IMap w8 M1 (mapOf StayV.id StayV.val l) := (hM7.alloc _).of_block (hg8.block M1 (by have := hM7.lt; simp; omega) (fun e => by have := hq1 M1 e.symm; omega))
     have HC8 := Lib.hid hC8
     have HO8 := Lib.hid ho8'
     have HN8 := Lib.hid hN8
     have hS : w8.cell? ⟨nb, 0, none⟩ = some (.slice ad j cp) ∧ Sem.run Tryz.prog (Instr.lookup 60 (.map (some M1)) (.int .i64 x) false) w8 = .ok (.agg #[.int .i64 s.id, .int .i64 s.kd, .int .i64 s.fr, .int .i64 s.un, .int .i64 s.ps, .int .i64 s.rm, .int .i64 s.wt, .bool s.ac, .bool s.inn]) w8 := ⟨hN8.row.cell 0 rfl, HLK.out _ hM8⟩
     refine hKz _ _ (fun _ => hS) ?_
     clear hKz Kz hC8 ho8 ho8' hN8 hM8 hg8 hor8 hN7 hO7 hC7 hM7
     refine AnyJ.one (i := 10) (by kernel_rfl) rfl (fun Kz hKz => ?_)
     go_simp
     refine hKz _ _ (fun _ => hS) ?_
     clear hKz Kz
     refine AnyJ.one (i := 11) (by kernel_rfl) rfl (fun Kz hKz => ?_)
     go_simp
     refine hKz _ _ (fun _ => hS) ?_
     clear hKz Kz hS
     have z0 := HN8.out.row.cell 0 rfl
     have z1 := HN8.out.row.frozen 0
     have z2 := HN8.out.row.lt
     refine AnyJ.one (i := 12) (by kernel_rfl) rfl (fun Kz hKz => ?_)
     go_simp
     refine hKz _ _ (fun h => by simp at h) ?_
     clear hKz Kz
     refine AnyJ.done (by kernel_rfl) ?_ _
     try simp only [Act.put, List.setIfInBounds_toArray, List.set_cons_zero, List.set_cons_succ]
     have HN9 : Hid (RowT (w8.setCell ⟨nb, 0, none⟩ (.slice ad8 (j + 1) cp8)) nb 169 [.slice ad8 (j + 1) cp8, .slice ra m rc, .map (some fb)]) := HN8.out.set 0 _
     have HO9 : Hid (OwnG stE 37 (w8.setCell ⟨nb, 0, none⟩ (.slice ad8 (j + 1) cp8)) w6.heap.size (.slice ad8 (j + 1) cp8) ((ids.take (j + 1)).map (getS l))) := HO8.out.ch (Ch.setCell (o := fun k => k = nb) (Ch.refl _ w8) (p := ⟨nb, 0, none⟩) rfl _) (fun g e h => by have := hq2 g e; omega)
     have HC9 : Hid (Ch (fun x => x = nb) w6 (w8.setCell ⟨nb, 0, none⟩ (.slice ad8 (j + 1) cp8))) := HC8.out.setCell rfl _
     go_wp2_with fail
     go_roundw
     case rel => exact ⟨j + 1, ad8, cp8, by omega, by go_num, HN9.out, HO9.out, HC9.out⟩
     case measure => simp [intOf]; omega
    ·
     obtain rfl : j = sn := by omega
     have HNSF : Hid (SlG stE wr ad j (ids.map (getS l))) := by
      have := hOr.out.sl
      rwa [List.take_of_length_le (by rw [HIL.out]; omega)] at this
     have HNO : Hid (0 < j → ∀ b' o, ad = some ⟨b', o, none⟩ → b' < wr.heap.size) := fun h0 b' o e => by
      obtain ⟨b2, o2, e2, hb⟩ := HNSF.out.ad h0
      rw [e] at e2
      cases e2
      exact hb
     have HNG : Hid (∀ b' o, ad = some ⟨b', o, none⟩ → w6.heap.size ≤ b') := fun b' o e => by
      subst e
      exact (hOr.out.lt rfl).1
     obtain ⟨wz, hwz⟩ : ∃ x, x = wr := ⟨_, rfl⟩
     subst hwz
     have HRZ : Hid (SlG rmE wz ra m (srtM RL)) := HO6.out.ch hCr.out (fun h0 b' o e e' => by have := HRLO.out h0 b' o e; omega)
     have HFZ : Hid (PMap wz fb []) := HF6.out.of_block (hCr.out.2.2.2.2 fb (by omega) (by omega))
     have HNZ := Lib.hid hNr.out
     have HBZ := Lib.hid HB6r.out
     have hnz := hNr.out.row.lt
     have hfz : fb < wz.heap.size := by omega
     have n0 := hNr.out.row.cell 0 rfl
     have n1 := hNr.out.row.cell 1 rfl
     have n2 := hNr.out.row.cell 2 rfl
     obtain ⟨NS, hNS⟩ : ∃ NS, ids.map (getS l) = NS := ⟨_, rfl⟩
     have HNSM : Hid (∀ (i : Nat) (s : StayV), NS[i]? = some s → s.Good) := fun i s h => by
      rw [← hNS, List.getElem?_map] at h
      obtain ⟨x, hx, rfl⟩ := Option.map_eq_some_iff.1 h
      exact (HIDS.out x (List.mem_of_getElem? hx)).2
     have HNRM : Hid (∀ (i : Nat) (r : RoomV), (srtM RL)[i]? = some r → r ∈ RL) := fun i r h => (srtM_perm RL).mem_iff.1 (List.mem_of_getElem? h)
     rw [hNS] at HNSF
     have HNSL2 : Hid (nsL q l = NS) := by show _ = _; rw [HNSL.out, hNS]
     have HK0 : Hid (FitK NS (srtM RL) [] 0 0) := fun a b => by
      unfold fitsF
      simp
     have HNRL : Hid ((srtM RL).length = m) := HRZ.out.1
     have HNSN : Hid (NS.length = j) := HNSF.out.1
     have hj3 : j ≤ 3000 := by omega
     clear hMr hNr hOr hCr HB6r HO6 HF6 HN6 HNS0 HI6 hNS HIDS HNSL HMA
     go_wp2_with fail
     go_loopw [77] (fun ix wr => ∃ (i : Nat) (F : List (Int × Int)), i ≤ j ∧ ix = .int .i64 i ∧ Hid (PMap wr fb F) ∧ Hid (FitK NS (srtM RL) F i 0) ∧ Hid (Ch (fun x => x = fb) wz wr)) (fun ix _ => j - (intOf ix).toNat)
     case atStart => exact ⟨0, [], Nat.zero_le _, rfl, HFZ.out, HK0.out, Ch.refl _ _⟩
     case round =>
      obtain ⟨i, F, hi, rfl, hF, hK, hC⟩ := hrel
      have hcz := hC.out.size
      have n0 := (HNZ.out.row.ch hC.out (fun h => by omega)).cell 0 rfl
      have n1 := (HNZ.out.row.ch hC.out (fun h => by omega)).cell 1 rfl
      have n2 := (HNZ.out.row.ch hC.out (fun h => by omega)).cell 2 rfl
      have nl := (HNZ.out.row.ch hC.out (fun h => by omega)).lt
      by_cases hij : i < j
      ·
       obtain ⟨s, c3, off3, hx, rfl, hlb, x0, x1, x2, x3, x4, x5, x6, x7, x8⟩ := slT_get (HNSF.out.ch hC.out (fun h0 b' o e e' => by have := HNG.out b' o e; omega)) hij
       have i1 : (0 : Int) ≤ (i : Int) := by omega
       have i2 : (i : Int) < (j : Int) := by omega
       have HGS := Lib.hid (HNSM.out i s hx.out)
       go_wp2_with fail
       obtain ⟨wa, hwa⟩ : ∃ wa, wr.alloc (.cells #[.int .i64 s.id, .int .i64 s.kd, .int .i64 s.fr, .int .i64 s.un, .int .i64 s.ps, .int .i64 s.rm, .int .i64 s.wt, .bool s.ac, .bool s.inn] 37) = wa := ⟨_, rfl⟩
       obtain ⟨bs, hbs⟩ : ∃ bs, wr.heap.size = bs := ⟨_, rfl⟩
       have hal : Below wr.heap.size wr wa := by rw [← hwa]; exact (Below.refl _ _).alloc (Nat.le_refl _) _
       have HRS : Hid (Row wa bs [.int .i64 s.id, .int .i64 s.kd, .int .i64 s.fr, .int .i64 s.un, .int .i64 s.ps, .int .i64 s.rm, .int .i64 s.wt, .bool s.ac, .bool s.inn]) := by show Row _ _ _; rw [← hwa, ← hbs]; exact Row.new' _ _ _ rfl
       have HFA := Lib.hid (hF.out.step hal)
       have HCA : Hid (Ch (fun x => x = fb) wz wa) := hC.out.trans (Ch.ofB hal)
       have n0' := (HNZ.out.row.ch HCA.out (fun h => by omega)).cell 0 rfl
       have n1' := (HNZ.out.row.ch HCA.out (fun h => by omega)).cell 1 rfl
       have n2' := (HNZ.out.row.ch HCA.out (fun h => by omega)).cell 2 rfl
       have hbsf : fb ≠ bs := by omega
       try simp only [hwa, hbs]
       clear hwa hbs hal x0 x1 x2 x3 x4 x5 x6 x7 x8 n0 n1 n2 nl
       go_loopw [87] (fun ir wr => ∃ (r : Nat) (F : List (Int × Int)), r ≤ m ∧ ir = .int .i64 r ∧ Hid (PMap wr fb F) ∧ Hid (FitK NS (srtM RL) F i r) ∧ Hid (Ch (fun x => x = fb) wz wr) ∧ Hid (Row wr bs [.int .i64 s.id, .int .i64 s.kd, .int .i64 s.fr, .int .i64 s.un, .int .i64 s.ps, .int .i64 s.rm, .int .i64 s.wt, .bool s.ac, .bool s.inn])) (fun ir _ => m - (intOf ir).toNat)
       case atStart => exact ⟨0, F, Nat.zero_le _, rfl, HFA.out, hK.out, HCA.out, HRS.out⟩
       case round =>
        obtain ⟨r, F2, hr, rfl, hF2, hK2, hC2, hRS⟩ := hrel
        have hcz2 := hC2.out.size
        have y0 := hRS.out.cell 0 rfl
        have y1 := hRS.out.cell 1 rfl
        have y2 := hRS.out.cell 2 rfl
        have y3 := hRS.out.cell 3 rfl
        have y4 := hRS.out.cell 4 rfl
        have y5 := hRS.out.cell 5 rfl
        have y6 := hRS.out.cell 6 rfl
        have y7 := hRS.out.cell 7 rfl
        have y8 := hRS.out.cell 8 rfl
        have yl := hRS.out.lt
        by_cases hrm : r < m
        ·
         obtain ⟨t, c4, off4, hy, hra, hlb4, z0, z1, z2, z3, z4, z5⟩ : ∃ (t : RoomV) (c4 off4 : Nat), Hid ((srtM RL)[r]? = some t) ∧ ra = some ⟨c4, off4, none⟩ ∧ c4 < wr.heap.size ∧ wr.cell? ⟨c4, off4 + r * 6, none⟩ = some (.int .i64 t.id) ∧ wr.cell? ⟨c4, off4 + r * 6 + 1, none⟩ = some (.int .i64 t.ho) ∧ wr.cell? ⟨c4, off4 + r * 6 + 2, none⟩ = some (.int .i64 t.kd) ∧ wr.cell? ⟨c4, off4 + r * 6 + 3, none⟩ = some (.int .i64 t.jn) ∧ wr.cell? ⟨c4, off4 + r * 6 + 4, none⟩ = some (.bool t.ac) ∧ wr.cell? ⟨c4, off4 + r * 6 + 5, none⟩ = some (.slice t.ba t.bl.length t.bc) := by
          obtain ⟨t, b', off', e1, e2, e3, g⟩ := (HRZ.out.ch hC2.out (fun h0 b' o e e' => by have := HRLO.out h0 b' o e; omega)).get hrm
          exact ⟨t, b', off', e1, e2, e3, g 0 _ rfl, g 1 _ rfl, g 2 _ rfl, g 3 _ rfl, g 4 _ rfl, g 5 _ rfl⟩
         subst hra
         have HTM := Lib.hid (HNRM.out r t hy.out)
         have HBR : Hid (Below w.heap.size w wr) := hC2.out.below HBZ.out (fun x hx => by omega) HBZ.out.size
         obtain ⟨p, hp⟩ : ∃ p, suitB s t = p := ⟨_, rfl⟩
         have HSF : Hid (sfits NS (srtM RL) i r = p) := by show _ = _; rw [sfits_at hx.out hy.out, hp]
         have HP := Lib.hid hp
         have j1 : (0 : Int) ≤ (r : Int) := by omega
         have j2 : (r : Int) < (m : Int) := by omega
         clear hp
         go_wp2_with fail
         obtain ⟨wb, hwb⟩ : ∃ wb, wr.alloc (.cells #[.int .i64 t.id, .int .i64 t.ho, .int .i64 t.kd, .int .i64 t.jn, .bool t.ac, .slice t.ba t.bl.length t.bc] 42) = wb := ⟨_, rfl⟩
         obtain ⟨br, hbr⟩ : ∃ br, wr.heap.size = br := ⟨_, rfl⟩
         have hal : Below wr.heap.size wr wb := by rw [← hwb]; exact (Below.refl _ _).alloc (Nat.le_refl _) _
         try simp only [hwb, hbr]
         refine (Fits_p s t p HP.out wb HGS.out ((HR.out.2 t HTM.out).step (HBR.out.trans (hal.mono HBR.out.size))) ((validM_in HV.out).2.1 t HTM.out)).mono ?_
         rintro e wc ⟨rfl, hbc⟩
         have hac := hal.trans (hbc.mono hal.size)
         have HFC := Lib.hid (hF2.out.step hac)
         have HCC : Hid (Ch (fun x => x = fb) wz wc) := hC2.out.trans (Ch.ofB hac)
         have HRC := Lib.hid (hRS.out.step hac)
         clear hal hbc hac hwb hbr y0 y1 y2 y3 y4 y5 y6 y7 y8 yl z0 z1 z2 z3 z4 z5
         cases p with
         | false =>
          have HK3 := Lib.hid (hK2.out.no HSF.out)
          go_wp2_with fail
          go_roundw
          case rel => exact ⟨r + 1, F2, by omega, by go_num, HFC.out, HK3.out, HCC.out, HRC.out⟩
          case measure => simp [intOf]; omega
         | true =>
          have HK3 := Lib.hid (hK2.out.yes HSF.out)
          have HNW := Lib.hid hK2.out.new
          have m2 := (HNZ.out.row.ch HCC.out (fun h => by omega)).cell 2 rfl
          have ml := (HNZ.out.row.ch HCC.out (fun h => by omega)).lt
          go_wp2_with (first
           | (refine wpList_update_pmap _ rfl _ _ _ 63 rfl 4 Tryz.underlying63 fb _ rfl HFC.out ((i : Int), (r : Int)) HNW.out rfl rfl ?_; intro wd hmd hgd))
          have HFD := Lib.hid hmd
          have HCD : Hid (Ch (fun x => x = fb) wz wd) := HCC.out.trans (Ch.of_grown hgd (fun q e => by cases e; rfl))
          have HRD := Lib.hid (HRC.out.of_block (hgd.block bs HRC.out.lt (fun e => hbsf (by cases e; rfl))))
          clear hmd hgd m2 ml
          go_wp2_with fail
          go_roundw
          case rel => exact ⟨r + 1, _, by omega, by go_num, HFD.out, HK3.out, HCD.out, HRD.out⟩
          case measure => simp [intOf]; omega
        ·
         obtain rfl : r = m := by omega
         have HKN : Hid (FitK NS (srtM RL) F2 (i + 1) 0) := FitK.next (by rw [HNRL.out]; exact hK2.out)
         go_wp2_with fail
         exact ⟨⟨i + 1, F2, by omega, by go_num, hF2.out, HKN.out, hC2.out⟩, by simp [intOf]; omega⟩
      ·
       obtain rfl : i = j := by omega
       go_wp2_with fail
       go_ret2
       refine ⟨nb, ad, i, cp, ra, rc, fb, F, rfl, ?_, ?_, by omega, hC.out.below HBZ.out (fun x hx => by omega) HBZ.out.size⟩
       ·
        rw [HNSL2.out]
        exact ⟨HNZ.out.row.ch hC.out (fun h => by omega), HNSF.out.ch hC.out (fun h0 b' o e e' => by have := HNG.out b' o e; omega), HRZ.out.ch hC.out (fun h0 b' o e e' => by have := HRLO.out h0 b' o e; omega), hF.out⟩
       ·
        rw [HNSL2.out]
        have := hK.out
        rw [← HNSN.out] at this
        exact this.all
end Go.Proofs.YtlmajlfhjbhdpaaGreat
