/-
 Texts built as one: XYM, XYN, XYO, XYP, XYQ, XRngD, XYR, XYS, XAnyT, XYT, XYU.
-/
import Derived.Test.YtlmajlfhjbhdpaaGreatWJ
import Derived.Test.YtlmajlfhjbhdpaaGreatYI
import Derived.Test.YtlmajlfhjbhdpaaGreatYD
import Derived.Test.YtlmajlfhjbhdpaaGreatZD
import Derived.BigQuiet
import Derived.Test.YtlmajlfhjbhdpaaGreatRngT
import Derived.Test.YtlmajlfhjbhdpaaGreatCh
import Derived.RangeFuncFrom
import Derived.RangeFuncLeaves
import Derived.RangeFuncNested
import Derived.Test.YtlmajlfhjbhdpaaGreatZR
import Derived.Test.YtlmajlfhjbhdpaaGreatHeldQ
import Derived.Test.YtlmajlfhjbhdpaaGreatZU
namespace Go.Proofs.YtlmajlfhjbhdpaaGreat
section
set_option linter.unusedSimpArgs false
set_option linter.unusedVariables false
open Go.RowKit Go.Shelf
/-- The stays can have rooms, each another one. -/
def MatchOK (NS : List StayV) (NR : List RoomV) : Prop := ∃ g : Nat → Nat, (∀ i, i < NS.length → sfits NS NR i (g i) = true) ∧ ∀ i j, i < NS.length → j < NS.length → g i = g j → i = j
/-- Stays R that can have no other rooms than T, which are too few. -/
structure HallR (NS : List StayV) (NR : List RoomV) (R T : List Nat) : Prop where
 nr : R.Nodup
 nt : T.Nodup
 rn : ∀ j ∈ R, j < NS.length
 tm : ∀ k ∈ T, k < NR.length
 len : R.length = T.length + 1
 shut : ∀ j ∈ R, ∀ k, sfits NS NR j k = true → k ∈ T
 has : ∀ k ∈ T, ∃ j ∈ R, sfits NS NR j k = true
/-- A refusal. -/
structure RefV where
 kd : Int
 ni : Int
 sa : Option Addr
 sn : Nat
 sc : Nat
 ra : Option Addr
 rn : Nat
 rc : Nat
 ba : Option Addr
 bn : Nat
 bc : Nat
abbrev RefV.cs (r : RefV) : List Value := [.int .i64 r.kd, .int .i64 r.ni, .slice r.sa r.sn r.sc, .slice r.ra r.rn r.rc, .slice r.ba r.bn r.bc]
abbrev RefV.val (r : RefV) : Value := .agg #[.int .i64 r.kd, .int .i64 r.ni, .slice r.sa r.sn r.sc, .slice r.ra r.rn r.rc, .slice r.ba r.bn r.bc]
abbrev zref : RefV := ⟨0, 0, none, 0, 0, none, 0, 0, none, 0, 0⟩
def HallRef (NS : List StayV) (NR : List RoomV) (q : Int) (r : RefV) : Prop := ∃ R T : List Nat, r.kd = kindV (badK (sfits NS NR) R T) ∧ r.ni = q ∧ r.sn = R.length ∧ r.rn = T.length ∧ HallR NS NR R T
theorem sub_len : ∀ {A B : List Nat}, A.Nodup → (∀ a ∈ A, a ∈ B) → A.length ≤ B.length
 | [], _, _, _ => Nat.zero_le _
 | a :: r, B, hn, h => by
  obtain ⟨h1, h2⟩ := List.nodup_cons.1 hn
  have := sub_len (B := B.erase a) h2 (fun x hx => (List.mem_erase_of_ne (fun e => by subst e; exact h1 hx)).2 (h x (by simp [hx])))
  have ha : a ∈ B := h a (by simp)
  rw [List.length_erase_of_mem ha] at this
  have := List.length_pos_of_mem ha
  simp only [List.length_cons]
  omega
/-- More stays than rooms: no way. -/
theorem pigeon {A B : List Nat} (hn : A.Nodup) (g : Nat → Nat) (hg : ∀ a ∈ A, g a ∈ B) (hi : ∀ a ∈ A, ∀ a' ∈ A, g a = g a' → a = a') : A.length ≤ B.length := by
 have h1 : (A.map g).Nodup := by
  rw [List.nodup_iff_pairwise_ne, List.pairwise_map]
  exact (List.nodup_iff_pairwise_ne.1 hn).imp_of_mem fun ha hb hab e => hab (hi _ ha _ hb e)
 have := sub_len h1 (fun x hx => by
  obtain ⟨a, ha, rfl⟩ := List.mem_map.1 hx
  exact hg a ha)
 simpa using this
theorem HallR.not {NS : List StayV} {NR : List RoomV} {R T : List Nat} (h : HallR NS NR R T) : ¬ MatchOK NS NR := fun ⟨g, h1, h2⟩ => by
 have := pigeon h.nr g (fun a ha => h.shut a ha _ (h1 a (h.rn a ha))) (fun a ha b hb e => h2 a b (h.rn a ha) (h.rn b hb) e)
 have := h.len
 omega
set_option maxRecDepth 100000 in
set_option maxHeartbeats 6400000 in
theorem Match_any (a b : Option Addr) (m mc n cap : Nat) (RL : List RoomV) (l : List StayV) (q : Int) (w : World) (hm : m ≤ 1000) (hr : SlM w a m RL) (hv : validM RL = true) (hs : SlG stE w b n l) (hg : GoodL l) (h0 : 0 ≤ q) (h1 : q ≤ 365) :
  Calls Tryz.prog 83 #[.slice a m mc, .slice b n cap, .int .i64 q] w fun e w' => ∃ (v : Value) (r : RefV) (ok : Bool), e = .returned (.tuple #[v, r.val, .bool ok, .int .i64 0]) ∧ (ok = true → MatchOK (nsL q l) (srtM RL)) ∧ (ok = false → HallRef (nsL q l) (srtM RL) q r) ∧ Below w.heap.size w w' := by
 have hn : n ≤ 3000 := hg.len hs.1
 have hop := fun W (hb : Below w.heap.size w W) => open_any a b m mc n cap RL l q W hm (hr.step hb) hv (hs.step hb) hg h0 h1
 have hlr : (srtM RL).length = m := by rw [(srtM_perm RL).length_eq]; exact hr.1.1
 have HOP := Lib.hid hop
 have HLR := Lib.hid hlr
 clear hop hlr hr hs hg
 go_enter Tryz.func83, Tryz.ntmps83
 go_wp2_with fail
 obtain ⟨r0, hr0⟩ : ∃ r0, w.heap.size = r0 := ⟨_, rfl⟩
 have hb1 : Below w.heap.size w (w.alloc (.cells #[.int .i64 0, .int .i64 0, .slice none 0 0, .slice none 0 0, .slice none 0 0] 47)) := by (repeat' (first | (with_reducible first | exact Below.refl _ _ | assumption | exact Bw.out (by assumption) | refine bw_alloc ?_ _ | refine bw_step ?_ (by assumption) | refine Below.alloc ?_ ?_ _ | refine Below.drew ?_ | refine below_drewN ?_ _ | refine Below.setCell ?_ ?_ _ | refine below_step ?_ (by assumption) ?_ | exact Nat.le_refl _) | omega | (simp; omega) | (simp; done)))
 have R0 : RowT (w.alloc (.cells #[.int .i64 0, .int .i64 0, .slice none 0 0, .slice none 0 0, .slice none 0 0] 47)) r0 47 [.int .i64 0, .int .i64 0, .slice none 0 0, .slice none 0 0, .slice none 0 0] := by rw [← hr0]; exact RowT.new _ _ _
 have hs1 : (w.alloc (.cells #[.int .i64 0, .int .i64 0, .slice none 0 0, .slice none 0 0, .slice none 0 0] 47)).heap.size = r0 + 1 := by simp [hr0]
 refine (HOP.out _ hb1).mono ?_
 rintro e w2 ⟨nb, sa, sn, sc, ra, rc, fb, F, rfl, hN, hF, hsn, hb2⟩
 have HB2 := Lib.hid (hb1.trans (hb2.mono hb1.size))
 have hR2 := (R0.step hb2).row
 have hs2 := hb2.size
 have HN2 := Lib.hid hN
 have hfe : fitsF F = sfits (nsL q l) (srtM RL) := by funext i k; exact hF i k
 have HFE := Lib.hid hfe
 have HSN : Hid ((nsL q l).length = sn) := hN.stays.1
 have hmt := match_any sa sn sc (nsL q l) ra m rc (srtM RL) fb F nb w2 hm (by omega) hN
 clear hb1 hb2 R0 hN hF hfe HOP
 go_wp2_with fail
 refine hmt.mono ?_
 rintro e w3 ⟨O, first, rfl, hM, hP, hb3⟩
 have HB3 : Hid (Below w.heap.size w w3) := HB2.out.trans (hb3.mono HB2.out.size)
 have HN3 := Lib.hid (HN2.out.step hb3)
 have hR3 := hR2.step hb3
 have HLO := Lib.hid HN2.out.lo
 have hs3 := hb3.size
 have HM3 := Lib.hid hM
 obtain ⟨hpm, hwho⟩ := hP
 have HPM := Lib.hid hpm
 clear hM hmt hb3 hR2 HB2 HN2 hpm
 obtain ⟨ob, hob⟩ : ∃ ob, w2.heap.size = ob := ⟨_, rfl⟩
 rw [hob] at HM3 HLO ⊢
 rcases hwho with ⟨rfl, hall⟩ | ⟨i, hi, rfl, hwho, S, hS1, hS2⟩
 ·
  have HOB : Hid (OB m sn O) := fun k j e => ⟨(HPM.out.fit k j e).1, (hall j).1 ⟨k, e⟩⟩
  have hm0 : 0 < sn → 0 < m := fun h => by
   obtain ⟨k, hk⟩ := (hall 0).2 h
   have := (HPM.out.fit k 0 hk).1
   omega
  have HOK : Hid (MatchOK (nsL q l) (srtM RL)) := by
   have hc : ∀ i, ∃ k, i < sn → O k = some i := fun i => by
    by_cases h : i < sn
    ·
     obtain ⟨k, hk⟩ := (hall i).2 h
     exact ⟨k, fun _ => hk⟩
    ·
     exact ⟨0, fun hh => (h hh).elim⟩
   obtain ⟨g, hg⟩ := Classical.axiomOfChoice hc
   refine ⟨g, fun i hi => ?_, fun i j hi hj e => ?_⟩
   ·
    rw [HSN.out] at hi
    rw [← HFE.out]
    exact (HPM.out.fit _ _ (hg i hi)).2
   ·
    rw [HSN.out] at hi hj
    have h1 := hg i hi
    have h2 := hg j hj
    rw [e, h2] at h1
    cases h1
    rfl
  clear hall
  go_wp2_with fail
  refine (improve_any sa sn sc (nsL q l) ra m rc (srtM RL) fb F nb ob ob O w3 hm (by omega) hm0 HLO.out (Nat.le_refl _) HN3.out HM3.out HOB.out).mono ?_
  rintro e w4 ⟨⟨v, rfl⟩, hc4⟩
  have hR4 := hR3.ch hc4 (by omega)
  have HB4 : Hid (Below w.heap.size w w4) := hc4.below HB3.out (fun k hk => by omega) HB3.out.size
  clear hc4 hR3 HM3 HN3 HPM
  have u0 := hR4.cell 0 rfl
  have v0 := hR4.frozen 0
  have u1 := hR4.cell 1 rfl
  have v1 := hR4.frozen 1
  have u2 := hR4.cell 2 rfl
  have v2 := hR4.frozen 2
  have u3 := hR4.cell 3 rfl
  have v3 := hR4.frozen 3
  have u4 := hR4.cell 4 rfl
  have v4 := hR4.frozen 4
  have rl := hR4.lt
  go_wp2_with fail
  refine bodyPost_ret (v := .tuple #[v, .agg #[.int .i64 0, .int .i64 0, .slice none 0 0, .slice none 0 0, .slice none 0 0], .bool true, .int .i64 0]) (by simp [results, Tryz.results83, go_sem, u0, u1, u2, u3, u4, rl]) rfl ?_
  refine ⟨v, zref, true, rfl, fun _ => HOK.out, (fun h => by cases h), ?_⟩
  exact ((((HB4.out.setCell (by show _ ≤ r0; omega) _).setCell (by show _ ≤ r0; omega) _).setCell (by show _ ≤ r0; omega) _).setCell (by show _ ≤ r0; omega) _).setCell (by show _ ≤ r0; omega) _
 ·
  have HOB : Hid (OB m sn O) := fun k j e => ⟨(HPM.out.fit k j e).1, by have := (hwho j).1 ⟨k, e⟩; omega⟩
  have HHR : Hid (∀ R T, RI (fitsF F) m sn O i i m R T [] → HallR (nsL q l) (srtM RL) R T) := fun R T h => {
   nr := h.nr
   nt := h.nt
   rn := fun j hj => by rw [HSN.out]; exact h.rn j hj
   tm := fun k hk => by rw [HLR.out]; exact h.tm k hk
   len := h.count HPM.out (fun k e => by have := (hwho i).1 ⟨k, e⟩; omega) hS1 hS2
   shut := fun j hj k hf => h.shut j hj k (by have := (sfits_lt hf).2; rw [HLR.out] at this; exact this) (by rw [HFE.out]; exact hf)
   has := fun k hk => by
    obtain ⟨j, h1, h2⟩ := h.has k hk
    exact ⟨j, h1, by rw [← HFE.out]; exact h2⟩ }
  have i0 : (0 : Int) ≤ (i : Int) := by omega
  clear hwho hS1 hS2
  go_wp2_with fail
  refine (refuse_any sa sn sc (nsL q l) ra m rc (srtM RL) fb F nb ob i q O w3 hm (by omega) hi HN3.out HM3.out (fun k j e => (HOB.out k j e).2)).mono ?_
  rintro e w4 ⟨R, T, a1, c1, a2, c2, rfl, hri, hb4⟩
  have hR4 := hR3.step hb4
  have HB4 : Hid (Below w.heap.size w w4) := HB3.out.trans (hb4.mono HB3.out.size)
  have HRI := Lib.hid (HHR.out R T hri)
  rw [HFE.out]
  clear hb4 hR3 HM3 HN3 HPM hri
  have u0 := hR4.cell 0 rfl
  have v0 := hR4.frozen 0
  have u1 := hR4.cell 1 rfl
  have v1 := hR4.frozen 1
  have u2 := hR4.cell 2 rfl
  have v2 := hR4.frozen 2
  have u3 := hR4.cell 3 rfl
  have v3 := hR4.frozen 3
  have u4 := hR4.cell 4 rfl
  have v4 := hR4.frozen 4
  have rl := hR4.lt
  go_wp2_with fail
  refine bodyPost_ret (v := .tuple #[.slice none 0 0, .agg #[.int .i64 (kindV (badK (sfits (nsL q l) (srtM RL)) R T)), .int .i64 q, .slice a1 R.length c1, .slice a2 T.length c2, .slice none 0 0], .bool false, .int .i64 0]) (by simp [results, Tryz.results83, go_sem, u0, u1, u2, u3, u4, rl]) rfl ?_
  refine ⟨_, ⟨_, q, a1, _, c1, a2, _, c2, none, 0, 0⟩, false, rfl, (fun h => by cases h), fun _ => ⟨R, T, rfl, rfl, rfl, rfl, HRI.out⟩, ?_⟩
  exact ((((HB4.out.setCell (by show _ ≤ r0; omega) _).setCell (by show _ ≤ r0; omega) _).setCell (by show _ ≤ r0; omega) _).setCell (by show _ ≤ r0; omega) _).setCell (by show _ ≤ r0; omega) _
end
section
set_option linter.unusedSimpArgs false
set_option linter.unusedVariables false
open Go.RowKit Go.Shelf
theorem below_drewN {k : Nat} {a w : World} (h : Below k a w) (n : Nat) : Below k a (w.drewN n) := h.trans ⟨rfl, rfl, rfl, Nat.le_refl _, fun _ _ => rfl⟩
theorem idxA_p (x : StayV) (id : Int) (bx : Nat) (w : World) (hb : Row w bx [.int .i64 id]) :
  Calls Tryz.prog 98 #[.agg (stE.c x).toArray, .pointer (some ⟨bx, 0, none⟩)] w fun e w' => e = .returned (.bool (decide (x.id = id))) ∧ Below w.heap.size w w' := by
 have c1 := hb.cell 0 rfl
 have hl := hb.lt
 show Calls Tryz.prog _ #[.agg #[.int .i64 x.id, .int .i64 x.kd, .int .i64 x.fr, .int .i64 x.un, .int .i64 x.ps, .int .i64 x.rm, .int .i64 x.wt, .bool x.ac, .bool x.inn], _] _ _
 go_enter Tryz.func98, Tryz.ntmps98
 go_wp2_with fail
 go_ret
 exact ⟨rfl, by (repeat' (first | (with_reducible first | exact Below.refl _ _ | assumption | exact Bw.out (by assumption) | refine bw_alloc ?_ _ | refine bw_step ?_ (by assumption) | refine Below.alloc ?_ ?_ _ | refine Below.drew ?_ | refine below_drewN ?_ _ | refine Below.setCell ?_ ?_ _ | refine below_step ?_ (by assumption) ?_ | exact Nat.le_refl _) | omega | (simp; omega) | (simp; done)))⟩
theorem index_any (b : Option Addr) (n cap : Nat) (l : List StayV) (id : Int) (w : World) (hn : n ≤ 100000) (hs : SlG stE w b n l) :
  Calls Tryz.prog 84 #[.slice b n cap, .int .i64 id] w fun e w' => e = .returned (.int .i64 (idxP (fun x : StayV => decide (x.id = id)) l 0)) ∧ Below w.heap.size w w' := by
 have HS := Lib.hid hs
 have hlen := hs.1
 clear hs
 go_enter Tryz.func84, Tryz.ntmps84
 go_wp2_with fail
 obtain ⟨w1, hw1⟩ : ∃ w1, w.alloc (.cells #[.int .i64 id] 3) = w1 := ⟨_, rfl⟩
 have hb1 : Below w.heap.size w w1 := by rw [← hw1]; (repeat' (first | (with_reducible first | exact Below.refl _ _ | assumption | exact Bw.out (by assumption) | refine bw_alloc ?_ _ | refine bw_step ?_ (by assumption) | refine Below.alloc ?_ ?_ _ | refine Below.drew ?_ | refine below_drewN ?_ _ | refine Below.setCell ?_ ?_ _ | refine below_step ?_ (by assumption) ?_ | exact Nat.le_refl _) | omega | (simp; omega) | (simp; done)))
 have r1 : Row w1 w.heap.size [.int .i64 id] := by rw [← hw1]; (repeat' (first | (with_reducible assumption) | (with_reducible refine Row.new' _ _ _ (by first | rfl | (simp; done) | omega)) | (with_reducible first | refine Row.alloc ?_ _ | refine Row.drew ?_ | refine Row.step ?_ (by assumption) | refine Row.drewN ?_ _) | (with_reducible refine Row.set2' ?_ _ _; first | exact ⟨_, _, by assumption⟩ | exact ⟨_, _, Row.alloc (by assumption) _⟩) | (with_reducible refine Row.other ?_ (by first | omega | (simp; omega)) _)))
 rw [hw1]
 clear hw1
 refine (idxT_any b n cap l w1 (by omega) (HS.out.step hb1) hlen 98 #[.pointer (some ⟨w.heap.size, 0, none⟩)] (enters_of Tryz.func98 (by kernel_rfl) rfl) (fun x => decide (x.id = id)) (fun W x _ hb => idxA_p x id w.heap.size W (r1.step hb)) _ rfl).mono ?_
 rintro e w2 ⟨rfl, hb2⟩
 have HB2 : Hid (Below w.heap.size w w2) := hb1.trans (hb2.mono hb1.size)
 go_wp2_with fail
 go_ret
 exact ⟨rfl, HB2.out⟩
set_option maxRecDepth 100000 in
set_option maxHeartbeats 6400000 in
/-- No stay goes together with another one: there is nothing apart. -/
theorem apart_any (hv : Value) (b : Option Addr) (n cap : Nat) (l : List StayV) (w : World) (hs : SlG stE w b n l) (hg : GoodL l) :
  Calls Tryz.prog 70 #[hv, .slice b n cap] w fun e w' => e = .returned (.tuple #[.agg #[.int .i64 0, .int .i64 0, .slice none 0 0, .slice none 0 0, .slice none 0 0], .bool false]) ∧ Below w.heap.size w w' := by
 have hn := hg.len hs.1
 have HS := Lib.hid hs
 have HG := Lib.hid hg
 have hi1 : idxP (fun x : StayV => decide (x.id = 0)) l 0 = -1 := idxP_miss (fun x hx => by
  obtain ⟨_, h, _⟩ := hg.each x hx
  simp only [decide_eq_false_iff_not]
  omega)
 have HI := Lib.hid hi1
 clear hs hg hi1
 go_enter Tryz.func70, Tryz.ntmps70
 go_wp2_with fail
 obtain ⟨r0, hr0⟩ : ∃ r0, w.heap.size = r0 := ⟨_, rfl⟩
 obtain ⟨W1, hW1⟩ : ∃ W1, (w.alloc (.cells #[.int .i64 0, .int .i64 0, .slice none 0 0, .slice none 0 0, .slice none 0 0] 47)).alloc (.cells #[.int .i64 0, .int .i64 0, .slice none 0 0, .slice none 0 0, .slice none 0 0] 47) = W1 := ⟨_, rfl⟩
 have hb1 : Below w.heap.size w W1 := by rw [← hW1]; (repeat' (first | (with_reducible first | exact Below.refl _ _ | assumption | exact Bw.out (by assumption) | refine bw_alloc ?_ _ | refine bw_step ?_ (by assumption) | refine Below.alloc ?_ ?_ _ | refine Below.drew ?_ | refine below_drewN ?_ _ | refine Below.setCell ?_ ?_ _ | refine below_step ?_ (by assumption) ?_ | exact Nat.le_refl _) | omega | (simp; omega) | (simp; done)))
 have q4 : Row W1 r0 [.int .i64 0, .int .i64 0, .slice none 0 0, .slice none 0 0, .slice none 0 0] := by rw [← hW1, ← hr0]; (repeat' (first | (with_reducible assumption) | (with_reducible refine Row.new' _ _ _ (by first | rfl | (simp; done) | omega)) | (with_reducible first | refine Row.alloc ?_ _ | refine Row.drew ?_ | refine Row.step ?_ (by assumption) | refine Row.drewN ?_ _) | (with_reducible refine Row.set2' ?_ _ _; first | exact ⟨_, _, by assumption⟩ | exact ⟨_, _, Row.alloc (by assumption) _⟩) | (with_reducible refine Row.other ?_ (by first | omega | (simp; omega)) _)))
 have q6 : Row W1 (r0 + 1) [.int .i64 0, .int .i64 0, .slice none 0 0, .slice none 0 0, .slice none 0 0] := by rw [← hW1, ← hr0]; exact Row.new' _ _ _ (by simp)
 rw [hW1, hr0]
 have HB1 := Lib.hid hb1
 have HQ4 := Lib.hid q4
 have HQ6 := Lib.hid q6
 have HS1 := Lib.hid (HS.out.step hb1)
 clear hW1 hb1 q4 q6
 go_loopw [7, 9, 10, 14] (fun fx _ _ ix wr => ∃ i : Nat, i ≤ n ∧ ix = .int .i64 i ∧ fx = .bool false ∧ Hid (Below W1.heap.size W1 wr)) (fun _ _ _ ix _ => n - (intOf ix).toNat)
 case atStart => exact ⟨0, Nat.zero_le _, rfl, rfl, Below.refl _ _⟩
 case round =>
  obtain ⟨i, hi, rfl, rfl, hB⟩ := hrel
  by_cases hin : i < n
  ·
   obtain ⟨s, c1, off1, hsx, rfl, hlb1, x0, x1, x2, x3, x4, x5, x6, x7, x8⟩ := slT_get (HS1.out.step hB.out) hin
   have hw0 := (HG.out.each s (List.mem_of_getElem? hsx.out)).2.2.2.2.2.1
   rw [hw0] at x6
   have i1 : (0 : Int) ≤ (i : Int) := by omega
   have i2 : (i : Int) < (n : Int) := by omega
   clear hsx
   go_wp2_with fail
   obtain ⟨w2, hw2⟩ : ∃ w2, wr.alloc (.cells #[.int .i64 s.id, .int .i64 s.kd, .int .i64 s.fr, .int .i64 s.un, .int .i64 s.ps, .int .i64 s.rm, .int .i64 0, .bool s.ac, .bool s.inn] 37) = w2 := ⟨_, rfl⟩
   have hal : Below wr.heap.size wr w2 := by rw [← hw2]; exact (Below.refl _ _).alloc (Nat.le_refl _) _
   have hr2 : Row w2 wr.heap.size [.int .i64 s.id, .int .i64 s.kd, .int .i64 s.fr, .int .i64 s.un, .int .i64 s.ps, .int .i64 s.rm, .int .i64 0, .bool s.ac, .bool s.inn] := by rw [← hw2]; exact Row.new' _ _ _ rfl
   rw [hw2]
   clear hw2
   refine (index_any (some ⟨c1, off1, none⟩) n cap l 0 w2 (by omega) ((HS1.out.step hB.out).step hal)).mono ?_
   rintro e w3 ⟨rfl, hb3⟩
   rw [HI.out]
   have q3 := hr2.step hb3
   have y6 := q3.cell 6 rfl
   have HB3 : Hid (Below W1.heap.size W1 w3) := hB.out.trans ((hal.trans (hb3.mono hal.size)).mono hB.out.size)
   clear hal hr2 hb3 x0 x1 x2 x3 x4 x5 x6 x7 x8
   go_wp2_with fail
   go_quiet (fail)
   go_wp2_with fail
   exact ⟨⟨i + 1, by omega, by go_num, rfl, below_drewN HB3.out _⟩, by simp [intOf]; omega⟩
  ·
   obtain rfl : i = n := by omega
   have q4 := HQ4.out.step hB.out
   have q6 := HQ6.out.step hB.out
   have u0 := q4.cell 0 rfl
   have v0 := q4.frozen 0
   have u1 := q4.cell 1 rfl
   have v1 := q4.frozen 1
   have u2 := q4.cell 2 rfl
   have v2 := q4.frozen 2
   have u3 := q4.cell 3 rfl
   have v3 := q4.frozen 3
   have u4 := q4.cell 4 rfl
   have v4 := q4.frozen 4
   have rl := q4.lt
   have y0 := q6.cell 0 rfl
   have y1 := q6.cell 1 rfl
   have y2 := q6.cell 2 rfl
   have y3 := q6.cell 3 rfl
   have y4 := q6.cell 4 rfl
   have HBF : Hid (Below w.heap.size w wr) := HB1.out.trans (hB.out.mono HB1.out.size)
   go_wp2_with fail
   refine bodyPost_ret (v := .tuple #[.agg #[.int .i64 0, .int .i64 0, .slice none 0 0, .slice none 0 0, .slice none 0 0], .bool false]) (by simp [results, Tryz.results70, go_sem, u0, u1, u2, u3, u4, rl]) rfl ?_
   refine ⟨rfl, ?_⟩
   exact ((((HBF.out.setCell (by show _ ≤ r0; omega) _).setCell (by show _ ≤ r0; omega) _).setCell (by show _ ≤ r0; omega) _).setCell (by show _ ≤ r0; omega) _).setCell (by show _ ≤ r0; omega) _
end
section
set_option linter.unusedSimpArgs false
set_option linter.unusedVariables false
open Go.RowKit Go.Shelf
set_option maxHeartbeats 1600000 in
theorem or_any (a : Option Addr) (n cap : Nat) (l : List Int) (w : World) (hn : n ≤ 1000) (hs : SlG intE w a n l) :
  Calls Tryz.prog 86 #[.slice a n cap] w fun e w' => ∃ x : Int, e = .returned (.int .i64 x) ∧ w' = w := by
 have HS := Lib.hid hs
 clear hs
 go_enter Tryz.func86, Tryz.ntmps86
 go_wp2_with fail
 go_loopw [5, 8] (fun _ ix wr => ∃ i : Nat, i ≤ n ∧ ix = .int .i64 i ∧ wr = w) (fun _ ix _ => n - (intOf ix).toNat)
 case atStart => exact ⟨0, Nat.zero_le _, rfl, rfl⟩
 case round =>
  obtain ⟨i, hi, rfl, rfl⟩ := hrel
  by_cases hin : i < n
  ·
   obtain ⟨x, c1, off1, hx, rfl, hlb1, y0⟩ := slI_get HS.out hin
   have i1 : (0 : Int) ≤ (i : Int) := by omega
   have i2 : (i : Int) < (n : Int) := by omega
   clear hx
   by_cases hx0 : x = 0
   ·
    subst hx0
    go_wp2_with fail
    go_roundw
    case rel => exact ⟨i + 1, by omega, by go_num, trivial⟩
    case measure => simp [intOf]; omega
   ·
    go_wp2_with fail
    go_ret
    exact ⟨x, rfl, rfl⟩
  ·
   go_wp2_with fail
   go_ret
   exact ⟨0, rfl, rfl⟩
/-- Which stay is next. -/
def NextP (l : List StayV) (r : Int) : Prop := (r = -1 ∧ ∀ s ∈ l, s.inn = true) ∨ ∃ (i : Nat) (s : StayV), r = (i : Int) ∧ l[i]? = some s ∧ s.inn = false
set_option maxRecDepth 100000 in
set_option maxHeartbeats 6400000 in
theorem next_any (b : Option Addr) (n cap : Nat) (l : List StayV) (w : World) (hn : n ≤ 100000) (hs : SlG stE w b n l) :
  Calls Tryz.prog 71 #[.slice b n cap] w fun e w' => ∃ r : Int, e = .returned (.int .i64 r) ∧ NextP l r ∧ Below w.heap.size w w' := by
 have HS := Lib.hid hs
 have HL : Hid (l.length = n) := hs.1
 clear hs
 go_enter Tryz.func71, Tryz.ntmps71
 go_wp2_with fail
 go_loopw [3, 4, 5, 8] (fun rx _ _ ix wr => ∃ (i : Nat) (r : Int), i ≤ n ∧ ix = .int .i64 i ∧ rx = .int .i64 r ∧ Hid (NextP (l.take i) r) ∧ Hid (Below w.heap.size w wr)) (fun _ _ _ ix _ => n - (intOf ix).toNat)
 case atStart => exact ⟨0, -1, Nat.zero_le _, rfl, rfl, Or.inl ⟨rfl, by simp⟩, Below.refl _ _⟩
 case round =>
  obtain ⟨i, r, hi, rfl, rfl, hP, hB⟩ := hrel
  by_cases hin : i < n
  ·
   obtain ⟨s, c1, off1, hsx, rfl, hlb1, x0, x1, x2, x3, x4, x5, x6, x7, x8⟩ := slT_get (HS.out.step hB.out) hin
   have i1 : (0 : Int) ≤ (i : Int) := by omega
   have i2 : (i : Int) < (n : Int) := by omega
   obtain ⟨bx, hbx⟩ : ∃ bx, wr.heap.size = bx := ⟨_, rfl⟩
   obtain ⟨w2, hw2⟩ : ∃ w2, wr.alloc (.cells #[.int .i64 s.id, .int .i64 s.kd, .int .i64 s.fr, .int .i64 s.un, .int .i64 s.ps, .int .i64 s.rm, .int .i64 s.wt, .bool s.ac, .bool s.inn] 37) = w2 := ⟨_, rfl⟩
   have hal : Below wr.heap.size wr w2 := by rw [← hw2]; exact (Below.refl _ _).alloc (Nat.le_refl _) _
   have hr2 : Row w2 bx [.int .i64 s.id, .int .i64 s.kd, .int .i64 s.fr, .int .i64 s.un, .int .i64 s.ps, .int .i64 s.rm, .int .i64 s.wt, .bool s.ac, .bool s.inn] := by rw [← hw2, ← hbx]; exact Row.new' _ _ _ rfl
   have HB2 : Hid (Below w.heap.size w w2) := hB.out.trans (hal.mono hB.out.size)
   have z0 := hr2.cell 0 rfl
   have z2 := hr2.cell 2 rfl
   have z8 := hr2.cell 8 rfl
   have HTS := Lib.hid (take_snoc hsx.out)
   have HSX := Lib.hid hsx.out
   clear hsx
   obtain ⟨inn, hinn⟩ : ∃ inn, s.inn = inn := ⟨_, rfl⟩
   rw [hinn] at z8
   have HIN := Lib.hid hinn
   cases inn with
   | true =>
    have HP2 : Hid (NextP (l.take (i + 1)) r) := by
     show NextP _ _
     rw [HTS.out]
     rcases hP.out with ⟨h1, h2⟩ | ⟨j, t, h1, h2, h3⟩
     ·
      refine Or.inl ⟨h1, fun x hx => ?_⟩
      rcases List.mem_append.1 hx with hx | hx
      ·
       exact h2 x hx
      ·
       simp at hx; subst hx; exact HIN.out
     ·
      exact Or.inr ⟨j, t, h1, by rw [List.getElem?_append_left (List.getElem?_eq_some_iff.1 h2).1]; exact h2, h3⟩
    clear hinn
    go_wp2_with fail
    go_quiet (fail)
    go_wp2_with fail
    exact ⟨⟨i + 1, r, by omega, by go_num, rfl, HP2.out, below_drewN HB2.out _⟩, by simp [intOf]; omega⟩
   | false =>
    have HPI : Hid (NextP (l.take (i + 1)) (i : Int)) := Or.inr ⟨i, s, rfl, by rw [HTS.out, List.getElem?_append_right (by rw [List.length_take]; omega)]; rw [List.length_take, HL.out, Nat.min_eq_left hi]; simp, HIN.out⟩
    clear hinn
    rcases hP.out with ⟨rfl, _⟩ | ⟨j, t, rfl, hjt, hjn⟩
    ·
     have hneg : ((-1 : Int) < 0) := by omega
     go_wp2_with fail
     go_quiet (fail)
     go_wp2_with fail
     exact ⟨⟨i + 1, i, by omega, by go_num, rfl, HPI.out, below_drewN HB2.out _⟩, by simp [intOf]; omega⟩
    ·
     have HPJ : Hid (NextP (l.take (i + 1)) (j : Int)) := by
      show NextP _ _
      rw [HTS.out]
      exact Or.inr ⟨j, t, rfl, by rw [List.getElem?_append_left (List.getElem?_eq_some_iff.1 hjt).1]; exact hjt, hjn⟩
     have hji : j < n := by have := (List.getElem?_eq_some_iff.1 hjt).1; rw [List.length_take] at this; omega
     obtain ⟨t', c1', off1', hsx', he', hlb1', y0, y1, y2, y3, y4, y5, y6, y7, y8⟩ := slT_get (HS.out.step HB2.out) hji
     cases he'
     have j1 : (0 : Int) ≤ (j : Int) := by omega
     have j2 : (j : Int) < (n : Int) := by omega
     have j3 : ¬ ((j : Int) < 0) := by omega
     clear hjt hjn hsx' y1 y3 y4 y5 y6 y7 y8
     go_upto_region 5 with fail
     refine AnyJ.beginP (fun w' : World => w'.cell? ⟨bx, 0, none⟩ = some (.int .i64 s.id) ∧ w'.cell? ⟨bx, 2, none⟩ = some (.int .i64 s.fr) ∧ w'.cell? ⟨bx, 8, none⟩ = some (.bool false) ∧ w'.cell? ⟨c1, off1 + j * 9, none⟩ = some (.int .i64 t'.id) ∧ w'.cell? ⟨c1, off1 + j * 9 + 2, none⟩ = some (.int .i64 t'.fr)) (fun _ => true) (by kernel_rfl) ⟨z0, z2, z8, y0, y2⟩ (fun hS => ?_)
     refine AnyJ.takeD (i := 0) (d := some 13) (v := ?_) rfl (by kernel_rfl) (by kernel_rfl) (by kernel_rfl) (by kernel_rfl) (by kernel_rfl) (fun _ _ _ h => h) (Or.inl ⟨by kernel_rfl, ?_⟩) hS ?_
     rotate_left
     ·
      intro w' hS
      obtain ⟨f0, f1, f2, f3, f4⟩ := hS
      go_simp
      try with_reducible rfl
     refine AnyJ.takeD (i := 1) (d := some 14) (v := ?_) rfl (by kernel_rfl) (by kernel_rfl) (by kernel_rfl) (by kernel_rfl) (by kernel_rfl) (fun _ _ _ h => h) (Or.inl ⟨by kernel_rfl, ?_⟩) hS ?_
     rotate_left
     ·
      intro w' hS
      obtain ⟨f0, f1, f2, f3, f4⟩ := hS
      go_simp
      try with_reducible rfl
     refine AnyJ.takeD (i := 2) (d := some 15) (v := ?_) rfl (by kernel_rfl) (by kernel_rfl) (by kernel_rfl) (by kernel_rfl) (by kernel_rfl) (fun _ _ _ h => h) (Or.inl ⟨by kernel_rfl, ?_⟩) hS ?_
     rotate_left
     ·
      intro w' hS
      obtain ⟨f0, f1, f2, f3, f4⟩ := hS
      go_simp
      try with_reducible rfl
     refine AnyJ.takeD (i := 3) (d := some 16) (v := ?_) rfl (by kernel_rfl) (by kernel_rfl) (by kernel_rfl) (by kernel_rfl) (by kernel_rfl) (fun _ _ _ h => h) (Or.inl ⟨by kernel_rfl, ?_⟩) hS ?_
     rotate_left
     ·
      intro w' hS
      obtain ⟨f0, f1, f2, f3, f4⟩ := hS
      go_simp
      try with_reducible rfl
     refine AnyJ.takeD (i := 4) (d := some 17) (v := ?_) rfl (by kernel_rfl) (by kernel_rfl) (by kernel_rfl) (by kernel_rfl) (by kernel_rfl) (fun _ _ _ h => h) (Or.inl ⟨by kernel_rfl, ?_⟩) hS ?_
     rotate_left
     ·
      intro w' hS
      obtain ⟨f0, f1, f2, f3, f4⟩ := hS
      go_simp
      try with_reducible rfl
     refine AnyJ.takeD (i := 5) (d := some 18) (v := ?_) rfl (by kernel_rfl) (by kernel_rfl) (by kernel_rfl) (by kernel_rfl) (by kernel_rfl) (fun _ _ _ h => h) (Or.inl ⟨by kernel_rfl, ?_⟩) hS ?_
     rotate_left
     ·
      intro w' hS
      obtain ⟨f0, f1, f2, f3, f4⟩ := hS
      go_simp
      try with_reducible rfl
     refine AnyJ.takeD (i := 6) (d := some 19) (v := ?_) rfl (by kernel_rfl) (by kernel_rfl) (by kernel_rfl) (by kernel_rfl) (by kernel_rfl) (fun _ _ _ h => h) (Or.inl ⟨by kernel_rfl, ?_⟩) hS ?_
     rotate_left
     ·
      intro w' hS
      obtain ⟨f0, f1, f2, f3, f4⟩ := hS
      go_simp
      try with_reducible rfl
     refine AnyJ.takeD (i := 7) (d := some 20) (v := ?_) rfl (by kernel_rfl) (by kernel_rfl) (by kernel_rfl) (by kernel_rfl) (by kernel_rfl) (fun _ _ _ h => h) (Or.inl ⟨by kernel_rfl, ?_⟩) hS ?_
     rotate_left
     ·
      intro w' hS
      obtain ⟨f0, f1, f2, f3, f4⟩ := hS
      go_simp
      try with_reducible rfl
     refine AnyJ.takeD (i := 8) (d := some 21) (v := ?_) rfl (by kernel_rfl) (by kernel_rfl) (by kernel_rfl) (by kernel_rfl) (by kernel_rfl) (fun _ _ _ h => h) (Or.inl ⟨by kernel_rfl, ?_⟩) hS ?_
     rotate_left
     ·
      intro w' hS
      obtain ⟨f0, f1, f2, f3, f4⟩ := hS
      go_simp
      try with_reducible rfl
     refine AnyJ.takeD (i := 9) (d := some 22) (v := ?_) rfl (by kernel_rfl) (by kernel_rfl) (by kernel_rfl) (by kernel_rfl) (by kernel_rfl) (fun _ _ _ h => h) (Or.inl ⟨by kernel_rfl, ?_⟩) hS ?_
     rotate_left
     ·
      intro w' hS
      obtain ⟨f0, f1, f2, f3, f4⟩ := hS
      go_simp
      try with_reducible rfl
     refine AnyJ.takeD (i := 10) (d := some 23) (v := ?_) rfl (by kernel_rfl) (by kernel_rfl) (by kernel_rfl) (by kernel_rfl) (by kernel_rfl) (fun _ _ _ h => h) (Or.inl ⟨by kernel_rfl, ?_⟩) hS ?_
     rotate_left
     ·
      intro w' hS
      obtain ⟨f0, f1, f2, f3, f4⟩ := hS
      go_simp
      try with_reducible rfl
     refine AnyJ.takeD (i := 11) (d := some 24) (v := .pointer (some ⟨c1, off1 + j * 9, none⟩)) rfl (by kernel_rfl) (by kernel_rfl) (by kernel_rfl) (by kernel_rfl) (by kernel_rfl) (fun _ _ _ h => h) (Or.inl ⟨by kernel_rfl, ?_⟩) hS ?_
     ·
      intro w' hS
      obtain ⟨f0, f1, f2, f3, f4⟩ := hS
      go_simp
      try omega
     refine AnyJ.takeD (i := 12) (d := some 25) (v := ?_) rfl (by kernel_rfl) (by kernel_rfl) (by kernel_rfl) (by kernel_rfl) (by kernel_rfl) (fun _ _ _ h => h) (Or.inl ⟨by kernel_rfl, ?_⟩) hS ?_
     rotate_left
     ·
      intro w' hS
      obtain ⟨f0, f1, f2, f3, f4⟩ := hS
      go_simp
      try with_reducible rfl
     refine AnyJ.takeD (i := 13) (d := some 26) (v := ?_) rfl (by kernel_rfl) (by kernel_rfl) (by kernel_rfl) (by kernel_rfl) (by kernel_rfl) (fun _ _ _ h => h) (Or.inl ⟨by kernel_rfl, ?_⟩) hS ?_
     rotate_left
     ·
      intro w' hS
      obtain ⟨f0, f1, f2, f3, f4⟩ := hS
      go_simp
      try with_reducible rfl
     refine AnyJ.takeD (i := 15) (d := some 28) (v := ?_) rfl (by kernel_rfl) (by kernel_rfl) (by kernel_rfl) (by kernel_rfl) (by kernel_rfl) (fun _ _ _ h => h) (Or.inl ⟨by kernel_rfl, ?_⟩) hS ?_
     rotate_left
     ·
      intro w' hS
      obtain ⟨f0, f1, f2, f3, f4⟩ := hS
      go_simp
      try with_reducible rfl
     refine AnyJ.takeD (i := 16) (d := some 29) (v := ?_) rfl (by kernel_rfl) (by kernel_rfl) (by kernel_rfl) (by kernel_rfl) (by kernel_rfl) (fun _ _ _ h => h) (Or.inl ⟨by kernel_rfl, ?_⟩) hS ?_
     rotate_left
     ·
      intro w' hS
      obtain ⟨f0, f1, f2, f3, f4⟩ := hS
      go_simp
      try with_reducible rfl
     refine AnyJ.takeD (i := 17) (d := some 30) (v := ?_) rfl (by kernel_rfl) (by kernel_rfl) (by kernel_rfl) (by kernel_rfl) (by kernel_rfl) (fun _ _ _ h => h) (Or.inl ⟨by kernel_rfl, ?_⟩) hS ?_
     rotate_left
     ·
      intro w' hS
      obtain ⟨f0, f1, f2, f3, f4⟩ := hS
      go_simp
      try with_reducible rfl
     refine AnyJ.takeD (i := 18) (d := some 31) (v := ?_) rfl (by kernel_rfl) (by kernel_rfl) (by kernel_rfl) (by kernel_rfl) (by kernel_rfl) (fun _ _ _ h => h) (Or.inl ⟨by kernel_rfl, ?_⟩) hS ?_
     rotate_left
     ·
      intro w' hS
      obtain ⟨f0, f1, f2, f3, f4⟩ := hS
      go_simp
      try with_reducible rfl
     refine AnyJ.takeD (i := 19) (d := some 32) (v := .pointer (some ⟨c1, off1 + j * 9, none⟩)) rfl (by kernel_rfl) (by kernel_rfl) (by kernel_rfl) (by kernel_rfl) (by kernel_rfl) (fun _ _ _ h => h) (Or.inl ⟨by kernel_rfl, ?_⟩) hS ?_
     ·
      intro w' hS
      obtain ⟨f0, f1, f2, f3, f4⟩ := hS
      go_simp
      try omega
     refine AnyJ.takeD (i := 20) (d := some 33) (v := ?_) rfl (by kernel_rfl) (by kernel_rfl) (by kernel_rfl) (by kernel_rfl) (by kernel_rfl) (fun _ _ _ h => h) (Or.inl ⟨by kernel_rfl, ?_⟩) hS ?_
     rotate_left
     ·
      intro w' hS
      obtain ⟨f0, f1, f2, f3, f4⟩ := hS
      go_simp
      try with_reducible rfl
     refine AnyJ.takeD (i := 21) (d := some 34) (v := ?_) rfl (by kernel_rfl) (by kernel_rfl) (by kernel_rfl) (by kernel_rfl) (by kernel_rfl) (fun _ _ _ h => h) (Or.inl ⟨by kernel_rfl, ?_⟩) hS ?_
     rotate_left
     ·
      intro w' hS
      obtain ⟨f0, f1, f2, f3, f4⟩ := hS
      go_simp
      try with_reducible rfl
     have hc1 := fun W' => AnyG.cmp_Compare_int lay_cmpI s.fr t'.fr W'
     change ∀ W', Calls Tryz.prog 68 _ _ _ at hc1
     have hc2 := fun W' => AnyG.cmp_Compare_int lay_cmpI s.id t'.id W'
     change ∀ W', Calls Tryz.prog 68 _ _ _ at hc2
     generalize Lib.compareInt s.fr t'.fr = q1 at hc1
     generalize Lib.compareInt s.id t'.id = q2 at hc2
     have key := @AnyJ.one Tryz.prog
     refine key ?_ (Eq.refl (some (_ : Oper))) ?_ (i := 14)
     ·
      kernel_rfl
     ·
      intro Kz hKz
      rw [if_pos (by kernel_rfl)]
      simp only [Act.put, List.setIfInBounds_toArray, List.set_cons_zero, List.set_cons_succ] at hKz ⊢
      go_simp
      refine (hc1 _).mono ?_
      rintro e w5 ⟨rfl, rfl⟩
      refine hKz _ _ (fun _ => hS) ?_
      clear hKz Kz
      refine key ?_ (Eq.refl (some (_ : Oper))) ?_ (i := 22)
      ·
       kernel_rfl
      ·
       intro Kz hKz
       rw [if_pos (by kernel_rfl)]
       simp only [Act.put, List.setIfInBounds_toArray, List.set_cons_zero, List.set_cons_succ] at hKz ⊢
       go_simp
       refine (hc2 _).mono ?_
       rintro e w5 ⟨rfl, rfl⟩
       refine hKz _ _ (fun _ => hS) ?_
       clear hKz Kz
       have hbd : Below w.heap.size w w2.drew := HB2.out.drew
       obtain ⟨w4, hw4⟩ : ∃ w4, w2.drew.alloc (.cells #[.int .i64 q1, .int .i64 q2] 3) = w4 := ⟨_, rfl⟩
       have hal4 : Below w2.drew.heap.size w2.drew w4 := by rw [← hw4]; exact (Below.refl _ _).alloc (Nat.le_refl _) _
       have hr4 : SlG intE w4 (some ⟨w2.drew.heap.size, 0, none⟩) 2 [q1, q2] := by rw [← hw4]; exact SlG.row (rest := []) (Row.new' _ [.int .i64 q1, .int .i64 q2] _ rfl) rfl
       have HB4 : Hid (Below w.heap.size w w4) := hbd.trans (hal4.mono hbd.size)
       have hS4 : w4.cell? ⟨bx, 0, none⟩ = some (.int .i64 s.id) ∧ w4.cell? ⟨bx, 2, none⟩ = some (.int .i64 s.fr) ∧ w4.cell? ⟨bx, 8, none⟩ = some (.bool false) ∧ w4.cell? ⟨c1, off1 + j * 9, none⟩ = some (.int .i64 t'.id) ∧ w4.cell? ⟨c1, off1 + j * 9 + 2, none⟩ = some (.int .i64 t'.fr) := by
        obtain ⟨f0, f1, f2, f3, f4⟩ := hS
        exact ⟨(hal4.cell (World.block_lt_of_cell? _ _ f0)).trans f0, (hal4.cell (World.block_lt_of_cell? _ _ f1)).trans f1, (hal4.cell (World.block_lt_of_cell? _ _ f2)).trans f2, (hal4.cell (World.block_lt_of_cell? _ _ f3)).trans f3, (hal4.cell (World.block_lt_of_cell? _ _ f4)).trans f4⟩
       refine key ?_ (Eq.refl (some (_ : Oper))) ?_ (i := 23)
       ·
        kernel_rfl
       ·
        intro Kz hKz
        rw [if_pos (by kernel_rfl)]
        simp only [Act.put, List.setIfInBounds_toArray, List.set_cons_zero, List.set_cons_succ] at hKz ⊢
        go_simp
        try rw [hw4]
        refine hKz _ _ (fun _ => hS4) ?_
        clear hKz Kz
        refine key ?_ (Eq.refl (some (_ : Oper))) ?_ (i := 24)
        ·
         kernel_rfl
        ·
         intro Kz hKz
         rw [if_pos (by kernel_rfl)]
         simp only [Act.put, List.setIfInBounds_toArray, List.set_cons_zero, List.set_cons_succ] at hKz ⊢
         go_simp
         refine (or_any _ 2 2 [q1, q2] w4 (by omega) hr4).mono ?_
         rintro e w5 ⟨x, rfl, rfl⟩
         refine hKz _ _ (fun _ => hS4) ?_
         clear hKz Kz
         refine key ?_ (Eq.refl (some (_ : Oper))) ?_ (i := 25)
         ·
          kernel_rfl
         ·
          intro Kz hKz
          rw [if_pos (by kernel_rfl)]
          simp only [Act.put, List.setIfInBounds_toArray, List.set_cons_zero, List.set_cons_succ] at hKz ⊢
          go_simp
          refine hKz _ _ (fun _ => hS4) ?_
          clear hKz Kz
          obtain ⟨bb, hbb⟩ : ∃ bb, decide (x < 0) = bb := ⟨_, rfl⟩
          try rw [hbb]
          clear hbb
          refine key ?_ (Eq.refl (some (_ : Oper))) ?_ (i := 26)
          ·
           kernel_rfl
          ·
           intro Kz hKz
           rw [if_pos (by kernel_rfl)]
           simp only [Act.put, List.setIfInBounds_toArray, List.set_cons_zero, List.set_cons_succ] at hKz ⊢
           go_simp
           refine hKz _ _ (fun _ => hS4) ?_
           clear hKz Kz
           refine key ?_ (Eq.refl (some (_ : Oper))) ?_ (i := 27)
           ·
            kernel_rfl
           ·
            intro Kz hKz
            rw [if_pos (by kernel_rfl)]
            simp only [Act.put, List.setIfInBounds_toArray, List.set_cons_zero, List.set_cons_succ] at hKz ⊢
            go_simp
            refine hKz _ _ (fun _ => hS4) ?_
            clear hKz Kz
            refine AnyJ.done (by kernel_rfl) ?_ _
            try simp only [Act.put, List.setIfInBounds_toArray, List.set_cons_zero, List.set_cons_succ]
            clear hS4 hS z0 z2 z8 y0 y2
            cases bb with
            | true =>
             go_wp2_with fail
             exact ⟨⟨i + 1, i, by omega, by go_num, rfl, HPI.out, HB4.out⟩, by simp [intOf]; omega⟩
            | false =>
             go_wp2_with fail
             exact ⟨⟨i + 1, j, by omega, by go_num, rfl, HPJ.out, HB4.out⟩, by simp [intOf]; omega⟩
  ·
   obtain rfl : i = n := by omega
   have hP2 := hP.out
   rw [List.take_of_length_le (by rw [HL.out]; omega)] at hP2
   have HP2 := Lib.hid hP2
   clear hP2
   go_wp2_with fail
   go_ret
   exact ⟨r, rfl, HP2.out, hB.out⟩
end
section
set_option linter.unusedSimpArgs false
set_option linter.unusedVariables false
open Go.RowKit Go.Shelf
theorem compact_mem {l : List Int} {x : Int} : x ∈ Go.Lib.compact l ↔ x ∈ l := by
 unfold Go.Lib.compact Go.Lib.compactUpTo
 have hg : ∀ j, j < l.length → l.toArray[j]! ∈ l := fun j hj => by
  have : l.toArray[j]! = l[j] := by simp [hj]
  rw [this]
  exact List.getElem_mem hj
 constructor
 ·
  intro h
  obtain ⟨j, hj, rfl⟩ := List.mem_map.1 h
  exact hg j (List.mem_range.1 (List.mem_filter.1 hj).1)
 ·
  have key : ∀ j, j < l.length → l.toArray[j]! ∈ ((List.range l.length).filter (Go.Lib.keeps l.toArray)).map (l.toArray[·]!) := by
   intro j
   induction j with
   | zero => exact fun hj => List.mem_map.2 ⟨0, List.mem_filter.2 ⟨List.mem_range.2 hj, by simp [Go.Lib.keeps]⟩, rfl⟩
   | succ j ih =>
    intro hj
    by_cases e : l.toArray[j + 1]! = l.toArray[j]!
    ·
     rw [e]; exact ih (by omega)
    ·
     exact List.mem_map.2 ⟨j + 1, List.mem_filter.2 ⟨List.mem_range.2 hj, Go.Lib.keeps_pos e⟩, rfl⟩
  intro h
  obtain ⟨j, hj, e⟩ := List.getElem_of_mem h
  have := key j hj
  rwa [show l.toArray[j]! = x by simp [hj, e]] at this
set_option maxRecDepth 100000 in
set_option maxHeartbeats 6400000 in
theorem crowded_any (ha : Option Addr) (hm hc : Nat) (H : List RoomV) (b : Option Addr) (n cap : Nat) (l : List StayV) (w : World) (hm1 : hm ≤ 1000) (hr : SlM w ha hm H) (hv : validM H = true) (hs : SlG stE w b n l) (hg : GoodL l) :
  Calls Tryz.prog 69 #[.slice ha hm hc, .slice b n cap] w fun e w' => ∃ (r : RefV) (is : Bool), e = .returned (.tuple #[r.val, .bool is]) ∧ (is = false → ∀ s ∈ l, MatchOK (nsL s.fr l) (srtM H)) ∧ (is = true → ∃ s ∈ l, HallRef (nsL s.fr l) (srtM H) s.fr r) ∧ Below w.heap.size w w' := by
 have hn := hg.len hs.1
 have HS := Lib.hid hs
 have HR := Lib.hid hr
 have HG := Lib.hid hg
 have HL : Hid (l.length = n) := hs.1
 clear hs hg hr
 go_enter Tryz.func69, Tryz.ntmps69
 go_wp2_with fail
 obtain ⟨r0, hr0⟩ : ∃ r0, w.heap.size = r0 := ⟨_, rfl⟩
 obtain ⟨W1, hW1⟩ : ∃ W1, w.alloc (.cells #[.int .i64 0, .int .i64 0, .slice none 0 0, .slice none 0 0, .slice none 0 0] 47) = W1 := ⟨_, rfl⟩
 have hb1 : Below w.heap.size w W1 := by rw [← hW1]; (repeat' (first | (with_reducible first | exact Below.refl _ _ | assumption | exact Bw.out (by assumption) | refine bw_alloc ?_ _ | refine bw_step ?_ (by assumption) | refine Below.alloc ?_ ?_ _ | refine Below.drew ?_ | refine below_drewN ?_ _ | refine Below.setCell ?_ ?_ _ | refine below_step ?_ (by assumption) ?_ | exact Nat.le_refl _) | omega | (simp; omega) | (simp; done)))
 have q4 : Row W1 r0 [.int .i64 0, .int .i64 0, .slice none 0 0, .slice none 0 0, .slice none 0 0] := by rw [← hW1, ← hr0]; (repeat' (first | (with_reducible assumption) | (with_reducible refine Row.new' _ _ _ (by first | rfl | (simp; done) | omega)) | (with_reducible first | refine Row.alloc ?_ _ | refine Row.drew ?_ | refine Row.step ?_ (by assumption) | refine Row.drewN ?_ _) | (with_reducible refine Row.set2' ?_ _ _; first | exact ⟨_, _, by assumption⟩ | exact ⟨_, _, Row.alloc (by assumption) _⟩) | (with_reducible refine Row.other ?_ (by first | omega | (simp; omega)) _)))
 have hs1 : W1.heap.size = r0 + 1 := by rw [← hW1, ← hr0]; simp
 rw [hW1, hr0]
 have HB1 := Lib.hid hb1
 have HQ4 := Lib.hid q4
 have HS1 := Lib.hid (HS.out.step hb1)
 clear hW1 hb1 q4
 go_loopw [6, 8, 17] (fun nv _ ix wr => ∃ (i : Nat) (ad : Option Addr) (cp : Nat), i ≤ n ∧ ix = .int .i64 i ∧ nv = .slice ad i cp ∧ Hid (OwnG intE 3 wr W1.heap.size (.slice ad i cp) ((l.take i).map StayV.fr)) ∧ Hid (Below W1.heap.size W1 wr)) (fun _ _ ix _ => n - (intOf ix).toNat)
 case atStart => exact ⟨0, none, 0, Nat.zero_le _, rfl, rfl, OwnG.nil _ _ _ _, Below.refl _ _⟩
 case round =>
  obtain ⟨i, ad, cp, hi, rfl, rfl, hO, hB⟩ := hrel
  by_cases hin : i < n
  ·
   obtain ⟨s, c1, off1, hsx, rfl, hlb1, x0, x1, x2, x3, x4, x5, x6, x7, x8⟩ := slT_get (HS1.out.step hB.out) hin
   have i1 : (0 : Int) ≤ (i : Int) := by omega
   have i2 : (i : Int) < (n : Int) := by omega
   have HTS := Lib.hid (take_snoc hsx.out)
   have HLL : Hid (((l.take i).map StayV.fr).length = i) := by show _ = _; rw [List.length_map, List.length_take, HL.out]; omega
   obtain ⟨w2, hw2⟩ : ∃ w2, wr.alloc (.cells #[.int .i64 s.id, .int .i64 s.kd, .int .i64 s.fr, .int .i64 s.un, .int .i64 s.ps, .int .i64 s.rm, .int .i64 s.wt, .bool s.ac, .bool s.inn] 37) = w2 := ⟨_, rfl⟩
   have hal : Below wr.heap.size wr w2 := by rw [← hw2]; exact (Below.refl _ _).alloc (Nat.le_refl _) _
   have hr2 : Row w2 wr.heap.size [.int .i64 s.id, .int .i64 s.kd, .int .i64 s.fr, .int .i64 s.un, .int .i64 s.ps, .int .i64 s.rm, .int .i64 s.wt, .bool s.ac, .bool s.inn] := by rw [← hw2]; exact Row.new' _ _ _ rfl
   have z2 := hr2.cell 2 rfl
   have hsz := hB.out.size
   have HB2 : Hid (Below W1.heap.size W1 w2) := hB.out.trans (hal.mono hsz)
   have HO2 : Hid (OwnG intE 3 w2 W1.heap.size (.slice ad i cp) ((l.take i).map StayV.fr)) := by show OwnG _ _ _ _ _ _; rw [← hw2]; exact hO.out.alloc _
   have hs2 := hal.size
   clear hsx hal hr2
   go_wp2_with (at_builtin; refine wpList_append_G inI rfl _ _ _ rfl Tryz.underlying44 W1.heap.size (l := (l.take i).map StayV.fr) rfl (HO2.out.alloc _) (m := 1) (c := 1) (ys := [s.fr]) rfl (SlG.row (rest := []) (Row.new' _ [.int .i64 s.fr] _ (by simp)) rfl) (by rw [HLL.out]; omega) (by rw [HLL.out]; omega) (by simp; omega) ?_; intro v8 w8 ho8 hg8 hor8 hbw8)
   obtain ⟨ad8, cp8, rfl, ho8', _⟩ := ho8.shape (n := i + 1) (by rw [List.length_append, HLL.out]; rfl)
   have HB8 : Hid (Below W1.heap.size W1 w8) := hbw8 W1 (HB2.out.alloc (by omega) _)
   refine ⟨⟨i + 1, ad8, cp8, by omega, by go_num, rfl, ?_, HB8.out⟩, by simp [intOf]; omega⟩
   show OwnG _ _ _ _ _ _
   rw [HTS.out, List.map_append]
   exact ho8'
  ·
   obtain rfl : i = n := by omega
   have hO2 := hO.out
   rw [List.take_of_length_le (by rw [HL.out]; omega)] at hO2
   have HO2 := Lib.hid hO2
   clear hO2
   have hsz := hB.out.size
   go_wp2_with fail
   refine (sortI_any W1.heap.size ad i cp (l.map StayV.fr) wr HO2.out (by omega)).mono ?_
   rintro e w3 ⟨rfl, ho3, hc3⟩
   have HB3 : Hid (Below W1.heap.size W1 w3) := hc3.below hB.out (fun k hk => (HO2.out.lt hk).1) hsz
   have HO3 := Lib.hid ho3
   clear hc3 ho3 hO hB
   go_wp2_with fail
   refine (compI_any W1.heap.size ad i cp _ w3 HO3.out).mono ?_
   rintro e w4 ⟨mz, rfl, hmz, ho4, hc4⟩
   have HB4 : Hid (Below W1.heap.size W1 w4) := hc4.below HB3.out (fun k hk => (HO3.out.lt hk).1) HB3.out.size
   have HI4 := Lib.hid ho4.sl
   have HIO : Hid (∀ b' o, ad = some ⟨b', o, none⟩ → W1.heap.size ≤ b') := fun b' o e => by subst e; exact (ho4.lt rfl).1
   clear hc4 ho4 HO2
   obtain ⟨L2, hL2⟩ : ∃ L2, Go.Lib.compact (srtI (l.map StayV.fr)) = L2 := ⟨_, rfl⟩
   have HM2 : Hid (∀ x, x ∈ L2 ↔ ∃ s ∈ l, s.fr = x) := fun x => by
    rw [← hL2, compact_mem, (srtI_perm _).mem_iff, List.mem_map]
   rw [hL2] at HI4
   have HL2 : Hid (L2.length = mz) := HI4.out.1
   clear hL2
   have HS4 := Lib.hid (HS1.out.step HB4.out)
   have HR4 := Lib.hid ((HR.out.step HB1.out).step HB4.out)
   have hs4 := HB4.out.size
   go_wp2_with fail
   go_loopw [10, 11, 12, 13, 14, 32] (fun _ _ _ _ _ ix w5 => ∃ q : Nat, q ≤ mz ∧ ix = .int .i64 q ∧ Hid (∀ x ∈ L2.take q, MatchOK (nsL x l) (srtM H)) ∧ Hid (Below w4.heap.size w4 w5)) (fun _ _ _ _ _ ix _ => mz - (intOf ix).toNat)
   case atStart => exact ⟨0, Nat.zero_le _, rfl, fun x hx => by simp at hx, Below.refl _ _⟩
   case round =>
    obtain ⟨q, hq, rfl, hOK, hB5⟩ := hrel
    by_cases hqm : q < mz
    ·
     obtain ⟨x, c1, off1, hx, rfl, hlb1, y0⟩ := slI_get (HI4.out.step hB5.out) hqm
     have i1 : (0 : Int) ≤ (q : Int) := by omega
     have i2 : (q : Int) < (mz : Int) := by omega
     obtain ⟨s, hsl, rfl⟩ := (HM2.out x).1 (List.mem_of_getElem? hx.out)
     have hsg := (HG.out.each s hsl).1
     have HTK := Lib.hid (take_snoc hx.out)
     have HSL := Lib.hid hsl
     clear hx hsl
     go_wp2_with fail
     refine (Match_any ha b hm hc i cap H l s.fr wr hm1 (HR4.out.step hB5.out) hv (HS4.out.step hB5.out) HG.out (by omega) (by omega)).mono ?_
     rintro e w6 ⟨v, r, ok, rfl, hyes, hno, hb6⟩
     have HB6 : Hid (Below w4.heap.size w4 w6) := hB5.out.trans (hb6.mono hB5.out.size)
     obtain ⟨w7, hw7⟩ : ∃ w7, w6.alloc (.cells #[.int .i64 r.kd, .int .i64 r.ni, .slice r.sa r.sn r.sc, .slice r.ra r.rn r.rc, .slice r.ba r.bn r.bc] 47) = w7 := ⟨_, rfl⟩
     have hal : Below w6.heap.size w6 w7 := by rw [← hw7]; exact (Below.refl _ _).alloc (Nat.le_refl _) _
     have hr7 : Row w7 w6.heap.size r.cs := by rw [← hw7]; exact Row.new' _ _ _ rfl
     have HB7 : Hid (Below w4.heap.size w4 w7) := HB6.out.trans (hal.mono HB6.out.size)
     cases ok with
     | true =>
      have HY := Lib.hid (hyes rfl)
      clear hyes hno hb6 hal hr7
      go_wp2_with fail
      go_roundw
      case rel =>
       refine ⟨q + 1, by omega, by go_num, fun y hy => ?_, ?_⟩
       ·
        rw [HTK.out] at hy
        rcases List.mem_append.1 hy with hy | hy
        ·
         exact hOK.out y hy
        ·
         simp at hy; subst hy; exact HY.out
       ·
        exact HB7.out
      case measure => simp [intOf]; omega
     | false =>
      have HN := Lib.hid (hno rfl)
      have g0 := hr7.cell 0 rfl
      have g1 := hr7.cell 1 rfl
      have g2 := hr7.cell 2 rfl
      have g3 := hr7.cell 3 rfl
      have g4 := hr7.cell 4 rfl
      have q4 := (HQ4.out.step HB4.out).step HB7.out
      have u0 := q4.cell 0 rfl
      have v0 := q4.frozen 0
      have u1 := q4.cell 1 rfl
      have v1 := q4.frozen 1
      have u2 := q4.cell 2 rfl
      have v2 := q4.frozen 2
      have u3 := q4.cell 3 rfl
      have v3 := q4.frozen 3
      have u4 := q4.cell 4 rfl
      have v4 := q4.frozen 4
      have rl := q4.lt
      have HBF : Hid (Below w.heap.size w w7) := (HB1.out.trans (HB4.out.mono HB1.out.size)).trans (HB7.out.mono (Nat.le_trans HB1.out.size HB4.out.size))
      clear hyes hno hb6 hal
      go_wp2_with fail
      refine bodyPost_ret (v := .tuple #[r.val, .bool true]) (by simp [results, Tryz.results69, go_sem, u0, u1, u2, u3, u4, rl]) rfl ?_
      refine ⟨r, true, rfl, (fun h => by cases h), fun _ => ⟨s, HSL.out, HN.out⟩, ?_⟩
      exact ((((HBF.out.setCell (by show _ ≤ r0; omega) _).setCell (by show _ ≤ r0; omega) _).setCell (by show _ ≤ r0; omega) _).setCell (by show _ ≤ r0; omega) _).setCell (by show _ ≤ r0; omega) _
    ·
     obtain rfl : q = mz := by omega
     have HA : Hid (∀ s ∈ l, MatchOK (nsL s.fr l) (srtM H)) := fun s hs => hOK.out s.fr (by rw [List.take_of_length_le (by rw [HL2.out]; omega)]; exact (HM2.out _).2 ⟨s, hs, rfl⟩)
     have q4 := (HQ4.out.step HB4.out).step hB5.out
     have u0 := q4.cell 0 rfl
     have v0 := q4.frozen 0
     have u1 := q4.cell 1 rfl
     have v1 := q4.frozen 1
     have u2 := q4.cell 2 rfl
     have v2 := q4.frozen 2
     have u3 := q4.cell 3 rfl
     have v3 := q4.frozen 3
     have u4 := q4.cell 4 rfl
     have v4 := q4.frozen 4
     have rl := q4.lt
     have HBF : Hid (Below w.heap.size w wr) := (HB1.out.trans (HB4.out.mono HB1.out.size)).trans (hB5.out.mono (Nat.le_trans HB1.out.size HB4.out.size))
     clear hOK
     go_wp2_with fail
     refine bodyPost_ret (v := .tuple #[.agg #[.int .i64 0, .int .i64 0, .slice none 0 0, .slice none 0 0, .slice none 0 0], .bool false]) (by simp [results, Tryz.results69, go_sem, u0, u1, u2, u3, u4, rl]) rfl ?_
     refine ⟨zref, false, rfl, fun _ => HA.out, (fun h => by cases h), ?_⟩
     exact ((((HBF.out.setCell (by show _ ≤ r0; omega) _).setCell (by show _ ≤ r0; omega) _).setCell (by show _ ≤ r0; omega) _).setCell (by show _ ≤ r0; omega) _).setCell (by show _ ≤ r0; omega) _
end
section
set_option linter.unusedSimpArgs false
set_option linter.unusedVariables false
open Go.RowKit Go.Shelf
/-- A stay that has come into a room. -/
abbrev StayV.into (s : StayV) (rm : Int) : StayV := { s with rm := rm, inn := true }
def placedL (l : List StayV) (i : Nat) (rm : Int) : List StayV := match l[i]? with
 | some s => l.set i (s.into rm)
 | none => l
/-- A slice with one cell of one element stored. -/
theorem SlG.put1 {α : Type} {E : Enc α} {w : World} {g off n : Nat} {l : List α} (h : SlG E w (some ⟨g, off, none⟩) n l) {i : Nat} {x y : α} (hx : l[i]? = some x) {c : Nat} {u : Value} (hc : c < E.k)
  (hy : ∀ j v, (E.c y)[j]? = some v → if j = c then v = u else (E.c x)[j]? = some v) : SlG E (w.setCell ⟨g, off + i * E.k + c, none⟩ u) (some ⟨g, off, none⟩) n (l.set i y) := by
 refine ⟨by rw [List.length_set]; exact h.1, fun k z hz => ⟨g, off, rfl, fun j v hj => ?_⟩⟩
 have hil := (List.getElem?_eq_some_iff.1 hx).1
 have hold : ∀ k x, l[k]? = some x → ∀ j v, (E.c x)[j]? = some v → w.cell? ⟨g, off + k * E.k + j, none⟩ = some v := fun k x hk j v hj => by
  obtain ⟨b, o, e, hh⟩ := h.2 k x hk
  cases e
  exact hh j v hj
 by_cases e : i = k
 ·
  subst e
  rw [List.getElem?_set_self hil] at hz
  cases hz
  have h1 := hy j v hj
  by_cases ej : j = c
  ·
   subst ej
   rw [if_pos rfl] at h1
   subst h1
   obtain ⟨u0, hu0⟩ : ∃ u0, (E.c x)[j]? = some u0 := by
    rw [List.getElem?_eq_getElem (by rw [E.len]; exact hc)]
    exact ⟨_, rfl⟩
   exact World.cell?_setCell_same _ _ _ (hold i x hx j u0 hu0)
  ·
   rw [if_neg ej] at h1
   rw [World.cell?_setCell_other (h := fun h => by
    simp only [Addr.mk.injEq, true_and, and_true] at h
    omega)]
   exact hold i x hx j v h1
 ·
  rw [List.getElem?_set_ne e] at hz
  have hjk : j < E.k := by
   have := (List.getElem?_eq_some_iff.1 hj).1
   rwa [E.len] at this
  rw [World.cell?_setCell_other (h := by
   intro h
   simp only [Addr.mk.injEq, true_and, and_true] at h
   rcases Nat.lt_or_gt_of_ne e with h1 | h1
   ·
    have := Nat.mul_le_mul_right E.k (show i + 1 ≤ k by omega)
    rw [Nat.add_mul] at this
    omega
   ·
    have := Nat.mul_le_mul_right E.k (show k + 1 ≤ i by omega)
    rw [Nat.add_mul] at this
    omega)]
  exact hold k z hz j v hj
theorem cellS {w : World} {g n i : Nat} {l : List StayV} {s : StayV} {rest : List Value} (h : Row w g (l.flatMap stE.c ++ rest)) (hi : l[i]? = some s) (hl : l.length = n) (c : Nat) (hc : c < 9) : w.cell? ⟨g, i * 9 + c, none⟩ = (stE.c s)[c]? := by
 obtain ⟨v, hv⟩ : ∃ v, (stE.c s)[c]? = some v := by
  rw [List.getElem?_eq_getElem (by rw [stE.len]; exact hc)]
  exact ⟨_, rfl⟩
 have hil := (List.getElem?_eq_some_iff.1 hi).1
 rw [hv]
 have h9 : i * 9 + c < (l.flatMap stE.c).length := by
  rw [stE.flat_len]
  show _ < l.length * 9
  omega
 exact h.cell _ (by rw [List.getElem?_append_left h9]; exact (stE.flat l i s c hi hc).trans hv)
theorem SlG.into {w : World} {g n i : Nat} {l : List StayV} {s : StayV} (h : SlG stE w (some ⟨g, 0, none⟩) n l) (hx : l[i]? = some s) (rm : Int) :
  SlG stE ((w.setCell ⟨g, i * 9 + 5, none⟩ (.int .i64 rm)).setCell ⟨g, i * 9 + 8, none⟩ (.bool true)) (some ⟨g, 0, none⟩) n (placedL l i rm) := by
 have hil := (List.getElem?_eq_some_iff.1 hx).1
 have h1 := h.put1 hx (y := { s with rm := rm }) (c := 5) (u := .int .i64 rm) (by show 5 < 9; omega) (fun j v hj => by
  match j, hj with
  | 0, hj => exact hj
  | 1, hj => exact hj
  | 2, hj => exact hj
  | 3, hj => exact hj
  | 4, hj => exact hj
  | 5, hj => cases hj; rfl
  | 6, hj => exact hj
  | 7, hj => exact hj
  | 8, hj => exact hj
  | (k + 9), hj => cases hj)
 have h2 := h1.put1 (x := { s with rm := rm }) (List.getElem?_set_self hil) (y := s.into rm) (c := 8) (u := .bool true) (by show 8 < 9; omega) (fun j v hj => by
  match j, hj with
  | 0, hj => exact hj
  | 1, hj => exact hj
  | 2, hj => exact hj
  | 3, hj => exact hj
  | 4, hj => exact hj
  | 5, hj => exact hj
  | 6, hj => exact hj
  | 7, hj => exact hj
  | 8, hj => cases hj; rfl
  | (k + 9), hj => cases hj)
 rw [List.set_set] at h2
 have e : placedL l i rm = l.set i (s.into rm) := by unfold placedL; rw [hx]
 rw [e]
 have e5 : 0 + i * stE.k + 5 = i * 9 + 5 := by show 0 + i * 9 + 5 = _; omega
 have e8 : 0 + i * stE.k + 8 = i * 9 + 8 := by show 0 + i * 9 + 8 = _; omega
 rw [e5, e8] at h2
 exact h2
/-- An append to a slice that is full, as a step of a region that draws. -/
theorem step_append_clip {α : Type} {E : Enc α} {T : TypeId} {z : Value} {by' : Nat} {K : Act → World → Prop} {X : Prop} {w : World} {ops : Array Oper} {o : Oper} {a : Act} {Q : Exit → Act → World → Prop} (hI : InfoG E T z by') (hgd : o.guard = none) (s x : Operand) (t : TypeId) (ho : o.op = .call { callee := .builtin .append, args := #[s, x], argTypes := #[t, t] }) (ht : Tryz.prog.underlying t = some (.slice T))
  {sa : Option Addr} {n : Nat} {l : List α} (hs : a.eval s = .slice sa n n) (hsl : SlG E w sa n l) {xa : Option Addr} {m c : Nat} {ys : List α} (hx : a.eval x = .slice xa m c)
  (hr : SlG E w xa m ys) (hm : 0 < m) (hn : (n + m) * by' ≤ 140737488355328) (hn2 : n + m ≤ 1000000000000)
  (h : ∀ g cap w', OwnG E T w' w.heap.size (.slice (some ⟨g, 0, none⟩) (n + m) cap) (l ++ ys) → w.grownBy w' none → K (a.put o.dst (.slice (some ⟨g, 0, none⟩) (n + m) cap)) w') :
  if Region.wanted o (yielded ops a.tmps) = true then Oper.wp Tryz.prog o a w K Q else X := by
 have hw : Region.wanted o (yielded ops a.tmps) = true := by simp [Region.wanted, hgd]
 rw [if_pos hw]
 obtain ⟨g, cap, w', hrun, h1, h2⟩ := run_append_clip hI t ht o.type hsl (c := c) hr hm hn hn2
 unfold Oper.wp execOp
 simp only [ho, resolve, invoke, builtin, Sem.run_bind, Sem.run_pure, Result.andThen_ok, List.map_toArray, List.map_cons, List.map_nil, hs, hx, hrun]
 exact h g cap w' h1 h2
set_option maxRecDepth 100000 in
set_option maxHeartbeats 6400000 in
theorem placed_any (b : Option Addr) (n cap : Nat) (l : List StayV) (i : Nat) (room : Int) (w : World) (hn : n ≤ 100000) (hc : n ≤ cap) (hi : i < n) (hs : SlG stE w b n l) :
  Calls Tryz.prog 73 #[.slice b n cap, .int .i64 (i : Int), .int .i64 room] w fun e w' => ∃ (ad : Option Addr) (cp : Nat), e = .returned (.slice ad n cp) ∧ n ≤ cp ∧ SlG stE w' ad n (placedL l i room) ∧ (∀ g o, ad = some ⟨g, o, none⟩ → w.heap.size ≤ g) ∧ Below w.heap.size w w' := by
 obtain ⟨s, c1, off1, hsx, rfl, hlb1, x0, x1, x2, x3, x4, x5, x6, x7, x8⟩ := slT_get hs hi
 have HS := Lib.hid hs
 have HL : Hid (l.length = n) := hs.1
 have HSX := Lib.hid hsx.out
 have i0 : (0 : Int) ≤ (i : Int) := by omega
 have i1 : (i : Int) < (n : Int) := by omega
 have i2 : (i : Int) ≤ (cap : Int) := by omega
 clear hs hsx
 go_enter Tryz.func73, Tryz.ntmps73
 go_upto_region 1 with fail
 refine AnyJ.beginP (fun w' : World => w'.cell? ⟨c1, off1 + i * 9, none⟩ = some (.int .i64 s.id) ∧ w'.cell? ⟨c1, off1 + i * 9 + 1, none⟩ = some (.int .i64 s.kd) ∧ w'.cell? ⟨c1, off1 + i * 9 + 2, none⟩ = some (.int .i64 s.fr) ∧ w'.cell? ⟨c1, off1 + i * 9 + 3, none⟩ = some (.int .i64 s.un) ∧ w'.cell? ⟨c1, off1 + i * 9 + 4, none⟩ = some (.int .i64 s.ps) ∧ w'.cell? ⟨c1, off1 + i * 9 + 5, none⟩ = some (.int .i64 s.rm) ∧ w'.cell? ⟨c1, off1 + i * 9 + 6, none⟩ = some (.int .i64 s.wt) ∧ w'.cell? ⟨c1, off1 + i * 9 + 7, none⟩ = some (.bool s.ac) ∧ w'.cell? ⟨c1, off1 + i * 9 + 8, none⟩ = some (.bool s.inn)) (fun _ => true) (by kernel_rfl) ⟨x0, x1, x2, x3, x4, x5, x6, x7, x8⟩ (fun hS => ?_)
 refine AnyJ.takeD (i := 0) (d := some 8) (v := ?_) rfl (by kernel_rfl) (by kernel_rfl) (by kernel_rfl) (by kernel_rfl) (by kernel_rfl) (fun _ _ _ h => h) (Or.inl ⟨by kernel_rfl, ?_⟩) hS ?_
 rotate_left
 ·
  intro w' hS
  obtain ⟨f0, f1, f2, f3, f4, f5, f6, f7, f8⟩ := hS
  go_simp
  try with_reducible rfl
 refine AnyJ.takeD (i := 1) (d := some 9) (v := ?_) rfl (by kernel_rfl) (by kernel_rfl) (by kernel_rfl) (by kernel_rfl) (by kernel_rfl) (fun _ _ _ h => h) (Or.inl ⟨by kernel_rfl, ?_⟩) hS ?_
 rotate_left
 ·
  intro w' hS
  obtain ⟨f0, f1, f2, f3, f4, f5, f6, f7, f8⟩ := hS
  go_simp
  try with_reducible rfl
 refine AnyJ.takeD (i := 2) (d := some 10) (v := ?_) rfl (by kernel_rfl) (by kernel_rfl) (by kernel_rfl) (by kernel_rfl) (by kernel_rfl) (fun _ _ _ h => h) (Or.inl ⟨by kernel_rfl, ?_⟩) hS ?_
 rotate_left
 ·
  intro w' hS
  obtain ⟨f0, f1, f2, f3, f4, f5, f6, f7, f8⟩ := hS
  go_simp
  try with_reducible rfl
 refine AnyJ.takeD (i := 3) (d := some 11) (v := .slice (some ⟨c1, off1, none⟩) i i) rfl (by kernel_rfl) (by kernel_rfl) (by kernel_rfl) (by kernel_rfl) (by kernel_rfl) (fun _ _ _ h => h) (Or.inl ⟨by kernel_rfl, ?_⟩) hS ?_
 ·
  intro w' hS
  obtain ⟨f0, f1, f2, f3, f4, f5, f6, f7, f8⟩ := hS
  go_simp
  try omega
 refine AnyJ.takeD (i := 4) (d := some 12) (v := ?_) rfl (by kernel_rfl) (by kernel_rfl) (by kernel_rfl) (by kernel_rfl) (by kernel_rfl) (fun _ _ _ h => h) (Or.inl ⟨by kernel_rfl, ?_⟩) hS ?_
 rotate_left
 ·
  intro w' hS
  obtain ⟨f0, f1, f2, f3, f4, f5, f6, f7, f8⟩ := hS
  go_simp
  try with_reducible rfl
 refine AnyJ.takeD (i := 5) (d := some 13) (v := ?_) rfl (by kernel_rfl) (by kernel_rfl) (by kernel_rfl) (by kernel_rfl) (by kernel_rfl) (fun _ _ _ h => h) (Or.inl ⟨by kernel_rfl, ?_⟩) hS ?_
 rotate_left
 ·
  intro w' hS
  obtain ⟨f0, f1, f2, f3, f4, f5, f6, f7, f8⟩ := hS
  go_simp
  try with_reducible rfl
 refine AnyJ.takeD (i := 6) (d := some 14) (v := .pointer (some ⟨c1, off1 + i * 9, none⟩)) rfl (by kernel_rfl) (by kernel_rfl) (by kernel_rfl) (by kernel_rfl) (by kernel_rfl) (fun _ _ _ h => h) (Or.inl ⟨by kernel_rfl, ?_⟩) hS ?_
 ·
  intro w' hS
  obtain ⟨f0, f1, f2, f3, f4, f5, f6, f7, f8⟩ := hS
  go_simp
  try omega
 refine AnyJ.takeD (i := 7) (d := some 15) (v := ?_) rfl (by kernel_rfl) (by kernel_rfl) (by kernel_rfl) (by kernel_rfl) (by kernel_rfl) (fun _ _ _ h => h) (Or.inl ⟨by kernel_rfl, ?_⟩) hS ?_
 rotate_left
 ·
  intro w' hS
  obtain ⟨f0, f1, f2, f3, f4, f5, f6, f7, f8⟩ := hS
  go_simp
  try with_reducible rfl
 obtain ⟨w3, hw3⟩ : ∃ w3, w.drew = w3 := ⟨_, rfl⟩
 have HS3 := Lib.hid (show SlG stE w3 (some ⟨c1, off1, none⟩) n l by rw [← hw3]; exact HS.out.step (Below.refl _ _).drew)
 have HB3 : Hid (Below w.heap.size w w3) := by show Below _ _ _; rw [← hw3]; exact (Below.refl _ _).drew
 rw [hw3] at hS ⊢
 clear hw3 HS x0 x1 x2 x3 x4 x5 x6 x7 x8
 have hsz3 := HB3.out.size
 obtain ⟨w4, hw4⟩ : ∃ w4, w3.alloc (.cells #[.int .i64 s.id, .int .i64 s.kd, .int .i64 s.fr, .int .i64 s.un, .int .i64 s.ps, .int .i64 s.rm, .int .i64 s.wt, .bool s.ac, .bool s.inn] 37) = w4 := ⟨_, rfl⟩
 have hal4 : Below w3.heap.size w3 w4 := by rw [← hw4]; exact (Below.refl _ _).alloc (Nat.le_refl _) _
 have hr4 : SlG stE w4 (some ⟨w3.heap.size, 0, none⟩) 1 [s] := by rw [← hw4]; exact SlG.row (rest := []) (Row.new' _ (stE.c s) _ rfl) rfl
 have hS4 : w4.cell? ⟨c1, off1 + i * 9, none⟩ = some (.int .i64 s.id) ∧ w4.cell? ⟨c1, off1 + i * 9 + 1, none⟩ = some (.int .i64 s.kd) ∧ w4.cell? ⟨c1, off1 + i * 9 + 2, none⟩ = some (.int .i64 s.fr) ∧ w4.cell? ⟨c1, off1 + i * 9 + 3, none⟩ = some (.int .i64 s.un) ∧ w4.cell? ⟨c1, off1 + i * 9 + 4, none⟩ = some (.int .i64 s.ps) ∧ w4.cell? ⟨c1, off1 + i * 9 + 5, none⟩ = some (.int .i64 s.rm) ∧ w4.cell? ⟨c1, off1 + i * 9 + 6, none⟩ = some (.int .i64 s.wt) ∧ w4.cell? ⟨c1, off1 + i * 9 + 7, none⟩ = some (.bool s.ac) ∧ w4.cell? ⟨c1, off1 + i * 9 + 8, none⟩ = some (.bool s.inn) := by
  obtain ⟨f0, f1, f2, f3, f4, f5, f6, f7, f8⟩ := hS
  refine ⟨?_, ?_, ?_, ?_, ?_, ?_, ?_, ?_, ?_⟩ <;> exact (hal4.cell (by show c1 < _; omega)).trans (by assumption)
 have HS4 := Lib.hid (HS3.out.step hal4)
 have HB4 : Hid (Below w.heap.size w w4) := HB3.out.trans (hal4.mono hsz3)
 have hsz4 := hal4.size
 refine AnyJ.one (i := 8) (by kernel_rfl) rfl (fun Kz hKz => ?_)
 go_simp
 try rw [hw4]
 refine hKz _ _ (fun _ => hS4) ?_
 clear hKz Kz
 refine AnyJ.one (i := 9) (by kernel_rfl) rfl (fun Kz hKz => ?_)
 refine step_append_clip stI rfl (.tmp 11) (.tmp 16) 26 rfl Tryz.underlying26 (sa := some ⟨c1, off1, none⟩) (n := i) (l := l.take i) (by simp [Act.eval, Act.put]) (HS4.out.take (by omega)) (xa := some ⟨w3.heap.size, 0, none⟩) (m := 1) (c := 1) (ys := [s]) (by simp [Act.eval, Act.put]) hr4 (by omega) (by omega) (by omega) ?_
 intro g cp w5 ho5 hg5
 have hb5 : Below w4.heap.size w4 w5 := ⟨hg5.os, hg5.tape, hg5.output, hg5.size, fun k hk => hg5.block k hk (by simp)⟩
 have HB5 : Hid (Below w.heap.size w w5) := HB4.out.trans (hb5.mono (by omega))
 have HS5 := Lib.hid (HS4.out.step hb5)
 have HO5 := Lib.hid ho5
 have hgl : w4.heap.size ≤ g := (ho5.lt rfl).1
 have hS5 : w5.cell? ⟨c1, off1 + i * 9, none⟩ = some (.int .i64 s.id) ∧ w5.cell? ⟨c1, off1 + i * 9 + 1, none⟩ = some (.int .i64 s.kd) ∧ w5.cell? ⟨c1, off1 + i * 9 + 2, none⟩ = some (.int .i64 s.fr) ∧ w5.cell? ⟨c1, off1 + i * 9 + 3, none⟩ = some (.int .i64 s.un) ∧ w5.cell? ⟨c1, off1 + i * 9 + 4, none⟩ = some (.int .i64 s.ps) ∧ w5.cell? ⟨c1, off1 + i * 9 + 5, none⟩ = some (.int .i64 s.rm) ∧ w5.cell? ⟨c1, off1 + i * 9 + 6, none⟩ = some (.int .i64 s.wt) ∧ w5.cell? ⟨c1, off1 + i * 9 + 7, none⟩ = some (.bool s.ac) ∧ w5.cell? ⟨c1, off1 + i * 9 + 8, none⟩ = some (.bool s.inn) := by
  obtain ⟨f0, f1, f2, f3, f4, f5, f6, f7, f8⟩ := hS4
  refine ⟨?_, ?_, ?_, ?_, ?_, ?_, ?_, ?_, ?_⟩ <;> exact (hb5.cell (by show c1 < _; omega)).trans (by assumption)
 have hsz5 := hb5.size
 refine hKz _ _ (fun _ => hS5) ?_
 clear hKz Kz hS4 hS ho5 hg5 hb5 hr4 hal4 hw4
 refine AnyJ.one (i := 10) (by kernel_rfl) rfl (fun Kz hKz => ?_)
 go_simp
 refine hKz _ _ (fun _ => hS5) ?_
 clear hKz Kz hS5
 refine AnyJ.done (by kernel_rfl) ?_ _
 try simp only [Act.put, List.setIfInBounds_toArray, List.set_cons_zero, List.set_cons_succ]
 have i3 : (0 : Int) ≤ (i : Int) + 1 := by omega
 have i4 : (i : Int) + 1 ≤ (n : Int) := by omega
 have i5 : (n : Int) ≤ (cap : Int) := by omega
 have HLT : Hid ((l.take i ++ [s]).length = i + 1) := by show _ = _; simp; rw [HL.out]; omega
 have HLL : Hid (l.take i ++ [s] ++ l.drop (i + 1) = l) := by
  show _ = _
  rw [← take_snoc HSX.out, List.take_append_drop]
 by_cases hcc : i + 1 = cap
 ·
  obtain rfl : n = i + 1 := by omega
  subst hcc
  have e1 : ((l.take i ++ [s]).length + 0) * 64 ≤ 140737488355328 := by rw [HLT.out]; omega
  have e2 : (l.take i ++ [s]).length + 0 ≤ 1000000000000 := by rw [HLT.out]; omega
  have HDN : Hid (l.take i ++ [s] ++ [] = l) := by
   show _ = _
   rw [List.append_nil, ← take_snoc HSX.out, List.take_of_length_le (by rw [HL.out]; omega)]
  go_wp2_with (at_builtin; refine wpList_append_G stI rfl _ _ _ rfl Tryz.underlying26 w4.heap.size (l := l.take i ++ [s]) rfl HO5.out (m := 0) (c := 0) (ys := []) rfl (SlG.nil _ _ _) e1 e2 (by omega) ?_; intro v8 w8 ho8 hg8 hor8 hbw8; rw [HDN.out] at ho8; obtain ⟨g8, cap8, rest, rfl, hgb8, hr8, hc8, _⟩ := ho8.at (by rw [HL.out]; omega); rw [HL.out] at hc8 ⊢; have HR8 := Lib.hid hr8; have HO8 := Lib.hid ho8; have r5 := cellS HR8.out HSX.out HL.out 5 (by omega); have r8 := cellS HR8.out HSX.out HL.out 8 (by omega); have f5 := hr8.frozen (i * 9 + 5); have f8 := hr8.frozen (i * 9 + 8); have rl := hr8.lt)
  have HB8 : Hid (Below w.heap.size w w8) := HB5.out.trans ((hbw8 w5 (Below.refl _ _)).mono (by omega))
  have hsl := HO8.out.sl
  rw [HL.out] at hsl
  go_ret
  refine ⟨_, _, rfl, hc8, hsl.into HSX.out room, fun g' o e => by cases e; omega, (HB8.out.setCell (by show _ ≤ g8; omega) _).setCell (by show _ ≤ g8; omega) _⟩
 ·
  have hcc2 : i + 1 < cap := by omega
  have HDR := Lib.hid (HS5.out.drop (k := i + 1) (by omega))
  have e1 : ((l.take i ++ [s]).length + (n - (i + 1))) * 64 ≤ 140737488355328 := by rw [HLT.out]; omega
  have e2 : (l.take i ++ [s]).length + (n - (i + 1)) ≤ 1000000000000 := by rw [HLT.out]; omega
  go_wp2_with (at_builtin; refine wpList_append_G stI rfl _ _ _ rfl Tryz.underlying26 w4.heap.size (l := l.take i ++ [s]) rfl HO5.out (m := n - (i + 1)) (c := cap - (i + 1)) (ys := l.drop (i + 1)) rfl HDR.out e1 e2 (by omega) ?_; intro v8 w8 ho8 hg8 hor8 hbw8; rw [HLL.out] at ho8; obtain ⟨g8, cap8, rest, rfl, hgb8, hr8, hc8, _⟩ := ho8.at (by rw [HL.out]; omega); rw [HL.out] at hc8 ⊢; have HR8 := Lib.hid hr8; have HO8 := Lib.hid ho8; have r5 := cellS HR8.out HSX.out HL.out 5 (by omega); have r8 := cellS HR8.out HSX.out HL.out 8 (by omega); have f5 := hr8.frozen (i * 9 + 5); have f8 := hr8.frozen (i * 9 + 8); have rl := hr8.lt)
  have HB8 : Hid (Below w.heap.size w w8) := HB5.out.trans ((hbw8 w5 (Below.refl _ _)).mono (by omega))
  have hsl := HO8.out.sl
  rw [HL.out] at hsl
  go_ret
  refine ⟨_, _, rfl, hc8, hsl.into HSX.out room, fun g' o e => by cases e; omega, (HB8.out.setCell (by show _ ≤ g8; omega) _).setCell (by show _ ≤ g8; omega) _⟩
end
section
set_option linter.unusedSimpArgs false
set_option linter.unusedVariables false
open Go.RowKit
/-- Blocks of cells lie as they lay. -/
def KeepD (A C : World) : Prop := ∀ (g : Nat) (cs : Array Value) (T : TypeId) (fr : Nat × Nat), A.heap[g]? = some (Obj.cells cs T fr) → C.heap[g]? = A.heap[g]?
theorem KeepD.refl (A : World) : KeepD A A := fun _ _ _ _ _ => rfl
theorem KeepD.trans {A B C : World} (h : KeepD A B) (k : KeepD B C) : KeepD A C := fun g cs T fr e => (k g cs T fr ((h g cs T fr e).trans e)).trans (h g cs T fr e)
theorem KeepD.of_below {A C : World} (h : Below A.heap.size A C) : KeepD A C := fun g _ _ _ e => h.block g (Array.getElem?_eq_some_iff.1 e).1
theorem KeepD.putObj {W : World} {l : Nat} {o : Obj} (o' : Obj) (hl : W.heap[l]? = some o) (ho : o.isCells = false) : KeepD W (W.putObj l o') := fun g cs T fr e => (grownBy_putObj' W l o').block g (Array.getElem?_eq_some_iff.1 e).1 (fun h => by
 have hil : l = g := by cases h; rfl
 rw [hil, e] at hl
 cases hl
 simp [Obj.isCells] at ho)
/-- J is not touched by what turns from block B on, but for blocks of type T. -/
def AbideD {β : Type} (B : Nat) (J : β → World → Prop) : Prop := ∀ s A C, J s A → Below B A C → KeepD A C → J s C
/-- The contract of such an iterator. -/
def SeqD {α : Type} (F : Fence) (n : Nat) (P : Program) (g : Nat) (lb : Array Value) (encs : α → Array Value) (Kp : World → World → Prop) (S Sp : List α → Prop) (N : Nat) (w : World) : Prop :=
 ∀ (l : Nat) (J Jx : List α → World → Prop) (W : World), Below w.heap.size w W → AbideD W.heap.size J →
  (∀ pre x W1, J pre W1 → Sp (pre ++ [x]) → pre.length < N → YieldAt F (n - 1) P l (encs x) W1 fun e W' =>
   (e = .returned (.bool true) ∧ J (pre ++ [x]) W' ∧ Kp W1 W') ∨ (e = .returned (.bool false) ∧ Jx (pre ++ [x]) W')) →
  J [] W →
  CallsIn F n P g (#[.func (.yield l) #[] #[]] ++ lb) W fun e W' => (∃ v, e = .returned v) ∧ ((∃ xs, S xs ∧ J xs W') ∨ (∃ pre, Sp pre ∧ Jx pre W'))
section
variable {F : Fence} {n : Nat} {P : Program}
theorem range_ownD {α : Type} {g : Operand} {ps : Array Tmp} {assign body : Code} {Q : Exit → Act → World → Prop} {a : Act} {w : World}
  (hro : F.round = none) (h1 : 1 ≤ n) {gf : Nat} {lb : Array Value} (hg : a.eval g = .func (.func gf) #[] lb) (hFg : F.fn gf) (eg : ∀ args w, (callFunc gf args).run P w = .ok (.enter gf args) w)
  {encs : α → Array Value} {Kp : World → World → Prop} {S Sp : List α → Prop} {N : Nat} {w0 : World} (hseq : SeqD F (n - 1) P gf lb encs Kp S Sp N w0)
  (hKt : ∀ {A B C : World}, Kp A B → Kp B C → Kp A C) (hKb : ∀ (W : World) (l : Nat) (o o' : Obj), w.heap.size ≤ l → W.heap[l]? = some o → o.isCells = false → o.isWalk = false → o'.isCells = false → Kp W (W.putObj l o')) (hb0 : Below w0.heap.size w0 w) (hps : ∀ x, (encs x).size = ps.size)
  (I : List α → World → Prop) (Ix : Code → List α → World → Prop) (hI : AbideD w.heap.size I) (hIx : ∀ c, Stay w.heap.size (Ix c)) (h0 : I [] w) (Ax : α → Act → World → Prop) (hAx : ∀ x a' W l o o', w.heap.size ≤ l → W.heap[l]? = some o → o.isCells = false → Ax x a' W → Ax x a' (W.putObj l o'))
  (hassign : ∀ (l : Nat) (pre : List α) (x : α) (W : World) (K : Act → World → Prop), I pre W → (∀ a' W', KeepsOthers W W' → Kp W W' → I pre W' → Ax x a' W' → K a' W') →
   assign.wpIn (F.inRound l) (n - 1 - 1) P (Exit.then K (fun _ _ _ => False)) { tmps := (ps.zip (encs x)).foldl (fun t (p, v) => t.setIfInBounds p v) a.tmps, defers := [] } W)
  (hbody : ∀ (l : Nat) (pre : List α) (x : α) (a' : Act) (W : World), I pre W → Ax x a' W → Sp (pre ++ [x]) → pre.length < N → body.wpIn (F.inRound l) (n - 1 - 1) P (ownPostK Kp I Ix (pre ++ [x]) W) a' W)
  (hdone : ∀ (D : Nat) (xs : List α) (W : World), w.heap.size ≤ D → S xs → I xs W → W.heap[D]? = some (.deferred (some [])) → Q .normal { a with defers := { target := .collected D, args := #[] } :: a.defers } W)
  (hstop : ∀ (D : Nat) (c : Code) (pre : List α) (W : World), w.heap.size ≤ D → Sp pre → Ix c pre W → W.heap[D]? = some (.deferred (some [])) → c.wpIn F n P Q { a with defers := { target := .collected D, args := #[] } :: a.defers } W) :
  (Code.rangeFunc g ps assign body).wpIn F n P Q a w := by
 obtain ⟨D, hD⟩ : ∃ D, w.heap.size = D := ⟨_, rfl⟩
 refine wpIn_rangeFunc fun fn hfn => ?_
 obtain ⟨lp, hlp⟩ : ∃ lp : LoopState → Option Code → Loop, lp = fun st pe => { state := st, pending := pe, fn, tmps := a.tmps, params := ps, assign, body, defers := D } := ⟨_, rfl⟩
 obtain ⟨V, hV⟩ : ∃ V, (w.alloc (.deferred (some []))).alloc (.loop (lp .ready none)) = V := ⟨_, rfl⟩
 have sV : V.heap.size = D + 2 := by rw [← hV]; simp [hD]
 have bV : Below D w V := by rw [← hV, ← hD]; exact ((Below.refl _ w).alloc (Nat.le_refl _) _).alloc (by simp) _
 have lV : V.heap[D + 1]? = some (.loop (lp .ready none)) := by
  have := World.alloc_heap_new (w.alloc (.deferred (some []))) (.loop (lp .ready none))
  rwa [hV, World.size_alloc, hD] at this
 have kV : V.heap[D]? = some (.deferred (some [])) := by
  rw [← hV, ← hD]; exact (Below.heap_alloc _ _ _ (by simp)).trans (World.alloc_heap_new w _)
 rw [hD] at hI hIx hKb hdone hstop hAx
 refine ⟨D + 1, [{ target := .collected D, args := #[] }], V, { target := .fn (.func gf) lb, args := #[.func (.yield (D + 1)) #[] #[]] }, V, gf, #[.func (.yield (D + 1)) #[] #[]] ++ lb, V, ?_, ?_, ?_, ?_, fun _ => h1, ?_⟩
 ·
  rw [hro, ← hV, hlp, ← hD]; exact run_enterLoop_outer _ _ _ _ _
 ·
  simp only [resolve, hg]
  simp [go_sem]
 ·
  intro f' hf'; simp [Target.leads] at hf'; subst hf'; exact hFg
 ·
  simp [invoke, go_sem, eg]
 refine (hseq (D + 1) (fun pre W => I pre W ∧ W.heap[D + 1]? = some (.loop (lp .ready none)) ∧ W.heap[D]? = some (.deferred (some [])))
  (fun pre W => ∃ c, Ix c pre W ∧ W.heap[D + 1]? = some (.loop (lp .done (some c))) ∧ W.heap[D]? = some (.deferred (some [])))
  V (hb0.trans (bV.mono (by rw [← hD]; exact hb0.size))) ?_ ?_ ⟨hI _ _ _ h0 bV (KeepD.of_below (by rw [hD]; exact bV)), lV, kV⟩).mono ?_
 ·
  rintro s A C ⟨h, hl, hk⟩ hb ht
  exact ⟨hI _ _ _ h (hb.mono (by omega)) ht, (hb.block _ (by omega)).trans hl, (hb.block _ (by omega)).trans hk⟩
 ·
  rintro pre x Wa ⟨hia, hla, hka⟩ hsp hlen
  have hy := run_yield (P := P) (args := encs x) hla (by rw [hlp]; exact hps x)
  rw [hlp] at hy
  refine ⟨fn, _, assign, body, hy, roundIn_of_wpIn hfn (hassign _ pre x Wa _ hia fun a' W hko hkp hi hax => ?_)⟩
  have hl := hko.same _ _ hla rfl
  have hk := hko.same _ _ hka rfl
  have hlt : D + 1 < W.heap.size := (Array.getElem?_eq_some_iff.1 hl).1
  have hbr := run_beginRound (P := P) hl (by rw [hlp])
  obtain ⟨X, hX⟩ : ∃ X, W.putObj (D + 1) (.loop { lp .ready none with state := .busy }) = X := ⟨_, rfl⟩
  rw [hX] at hbr
  have lX : X.heap[D + 1]? = some (.loop { lp .ready none with state := .busy }) := by rw [← hX]; exact World.putObj_heap_same hlt
  have kX : X.heap[D]? = some (.deferred (some [])) := by rw [← hX]; exact (World.putObj_heap_other (by omega)).trans hk
  have iX : I pre X := hI _ _ _ hi (by rw [← hX]; exact below_put _ (by omega) hl) (by rw [← hX]; exact KeepD.putObj _ hl rfl)
  have aX : Ax x a' X := by rw [← hX]; exact hAx _ _ _ _ _ _ (by omega) hl rfl hax
  have wX : Kp Wa X := hKt hkp (by rw [← hX]; exact hKb _ _ _ _ (by omega) hl rfl rfl rfl)
  have close : ∀ (j : Option Code) (Y : World), KeepsOthers X Y → ∃ Z, (Instr.endRound (D + 1) j).run P Y = .ok (.bool j.isNone) Z ∧ (Below D Y Z ∧ KeepD Y Z ∧ ∀ c s, Ix c s Y → Ix c s Z) ∧ Kp Y Z ∧ Z.heap[D + 1]? = some (.loop (lp (if j.isNone then .ready else .done) j)) ∧ Z.heap[D]? = some (.deferred (some [])) := fun j Y hY => by
   have lY := hY.same _ _ lX rfl
   have hr := run_endRound (P := P) j lY
   rw [hlp] at hr lY ⊢
   exact ⟨_, hr, ⟨below_put _ (by omega) lY, KeepD.putObj _ lY rfl, fun c s h => hIx c s _ _ _ _ (by omega) lY rfl h⟩, hKb _ _ _ _ (by omega) lY rfl rfl rfl, World.putObj_heap_same (Array.getElem?_eq_some_iff.1 lY).1, (World.putObj_heap_other (by omega)).trans (hY.same _ _ kX rfl)⟩
  refine ⟨X, hbr, ?_⟩
  refine wpIn_mono (hbody _ pre x a' X iX aX hsp hlen) ?_
  rintro e a3 Y hp
  cases e with
  | normal =>
   obtain ⟨h3, h4, h5⟩ := hp
   obtain ⟨Z, z1, z2, z3, z4, z5⟩ := close none Y h3
   exact ⟨_, Z, z1, .inl ⟨rfl, ⟨hI _ _ _ h5 z2.1 z2.2.1, z4, z5⟩, hKt (hKt wX h4) z3⟩⟩
  | ret =>
   obtain ⟨h3, h5⟩ := hp
   obtain ⟨Z, z1, z2, z3, z4, z5⟩ := close (some .ret) Y h3
   exact ⟨_, Z, z1, .inr ⟨rfl, .ret, z2.2.2 _ _ h5, z4, z5⟩⟩
  | exit id =>
   obtain ⟨h3, h5⟩ := hp
   obtain ⟨Z, z1, z2, z3, z4, z5⟩ := close (some (.exit id)) Y h3
   exact ⟨_, Z, z1, .inr ⟨rfl, .exit id, z2.2.2 _ _ h5, z4, z5⟩⟩
  | goto t =>
   obtain ⟨h3, h5⟩ := hp
   obtain ⟨Z, z1, z2, z3, z4, z5⟩ := close (some (.goto t)) Y h3
   exact ⟨_, Z, z1, .inr ⟨rfl, .goto t, z2.2.2 _ _ h5, z4, z5⟩⟩
  | panic ch => exact hp.elim
  | outgrown => exact hp.elim
 ·
  rintro e W ⟨⟨v, rfl⟩, (⟨xs, hS, hi, hl, hk⟩ | ⟨pre, hSp, c, hi, hl, hk⟩)⟩
  ·
   have hr := run_endLoop (P := P) hl (by rw [hlp]; simp)
   rw [hlp] at hr hl
   exact ⟨none, _, hr, hdone D xs _ (Nat.le_refl _) hS (hI _ _ _ hi (below_put _ (by omega) hl) (KeepD.putObj _ hl rfl)) ((World.putObj_heap_other (by omega)).trans hk)⟩
  ·
   have hr := run_endLoop (P := P) hl (by rw [hlp]; simp)
   rw [hlp] at hr hl
   exact ⟨some c, _, hr, hstop D c pre _ (Nat.le_refl _) hSp (hIx c _ _ _ _ _ (by omega) hl rfl hi) ((World.putObj_heap_other (by omega)).trans hk)⟩
end
end
section
set_option linter.unusedSimpArgs false
set_option linter.unusedVariables false
open Go.RowKit Go.Shelf
theorem fitting_any (ha : Option Addr) (hm hc : Nat) (s : StayV) (w : World) : Calls Tryz.prog 72 #[.slice ha hm hc, .agg (stE.c s).toArray] w fun e w' => e = .returned (.func (.func 87) #[] #[.pointer (some ⟨w.heap.size, 0, none⟩), .pointer (some ⟨w.heap.size + 1, 0, none⟩)]) ∧ Row w' w.heap.size [.slice ha hm hc] ∧ Row w' (w.heap.size + 1) (stE.c s) ∧ Below w.heap.size w w' := by
 show Calls Tryz.prog _ #[_, .agg #[.int .i64 s.id, .int .i64 s.kd, .int .i64 s.fr, .int .i64 s.un, .int .i64 s.ps, .int .i64 s.rm, .int .i64 s.wt, .bool s.ac, .bool s.inn]] _ _
 go_enter Tryz.func72, Tryz.ntmps72
 go_wp2_with fail
 go_ret
 exact ⟨rfl, by (repeat' (first | (with_reducible assumption) | (with_reducible refine Row.new' _ _ _ (by first | rfl | (simp; done) | omega)) | (with_reducible first | refine Row.alloc ?_ _ | refine Row.drew ?_ | refine Row.step ?_ (by assumption) | refine Row.drewN ?_ _) | (with_reducible refine Row.set2' ?_ _ _; first | exact ⟨_, _, by assumption⟩ | exact ⟨_, _, Row.alloc (by assumption) _⟩) | (with_reducible refine Row.other ?_ (by first | omega | (simp; omega)) _))), Row.new' _ (stE.c s) _ (by simp), by (repeat' (first | (with_reducible first | exact Below.refl _ _ | assumption | exact Bw.out (by assumption) | refine bw_alloc ?_ _ | refine bw_step ?_ (by assumption) | refine Below.alloc ?_ ?_ _ | refine Below.drew ?_ | refine below_drewN ?_ _ | refine Below.setCell ?_ ?_ _ | refine below_step ?_ (by assumption) ?_ | exact Nat.le_refl _) | omega | (simp; omega) | (simp; done)))⟩
/-- The rooms that a stay fits: their numbers. -/
def fitL (s : StayV) (H : List RoomV) : List Int := (H.filter (suitB s)).map RoomV.id
set_option maxRecDepth 100000 in
set_option maxHeartbeats 6400000 in
theorem fit_stops (Kp : World → World → Prop) (m : Nat) (hm : 1 ≤ m) (B1 B2 : Nat) (a : Option Addr) (n cap : Nat) (H : List RoomV) (s : StayV) (w : World) (hr1 : Row w B1 [.slice a n cap]) (hr2 : Row w B2 (stE.c s)) (hs : SlM w a n H) (hn : n ≤ 1000) (hv : ∀ r ∈ H, formedR r = true) (hg : s.Good)
  (K1 : ∀ A C, Kp A C → Row A B1 [.slice a n cap] → Row C B1 [.slice a n cap]) (K2 : ∀ A C, Kp A C → Row A B2 (stE.c s) → Row C B2 (stE.c s)) (K3 : ∀ A C, Kp A C → SlM A a n H → SlM C a n H) (K4 : ∀ A C : World, Kp A C → A.heap.size ≤ C.heap.size) :
  SeqD Fence.wide m Tryz.prog 87 #[.pointer (some ⟨B1, 0, none⟩), .pointer (some ⟨B2, 0, none⟩)] (fun x : Int => #[.int .i64 x]) Kp (fun xs => xs = fitL s H) (fun pre => pre <+: fitL s H) 1000 w := fun y J Jx W hW hJ hY h0J => by
 have HV := Lib.hid hv
 have HG := Lib.hid hg
 have HL : Hid (H.length = n) := hs.1.1
 have HR1 := Lib.hid (hr1.step hW)
 have HR2 := Lib.hid (hr2.step hW)
 have HS := Lib.hid (hs.step hW)
 have HY := Lib.hid hY
 have HJA := Lib.hid hJ
 have HK1 := Lib.hid K1
 have HK2 := Lib.hid K2
 have HK3 := Lib.hid K3
 have HK4 := Lib.hid K4
 have c1 := HR1.out.cell 0 rfl
 clear hr1 hr2 hs hv hg hY hJ hW K1 K2 K3 K4
 refine callsIn_of_wp Tryz.func87 rfl trivial ?_ rfl
 simp only [Tryz.ntmps87, List.size_toArray, List.length_cons, List.length_nil, Nat.reduceAdd, Nat.reduceSub, Array.replicate_succ, Array.replicate_zero, List.push_toArray, List.append_toArray, List.nil_append, List.cons_append]
 gi_wp2_with fail
 gi_loopw [5, 6, 7, 10] (fun _ _ _ i wr => ∃ k : Nat, k ≤ n ∧ i = .int .i64 k ∧ Hid (J (fitL s (H.take k)) wr) ∧ Hid (SlM wr a n H) ∧ Hid (Row wr B1 [.slice a n cap]) ∧ Hid (Row wr B2 (stE.c s)) ∧ Hid (W.heap.size ≤ wr.heap.size)) (fun _ _ _ i _ => n - (intOf i).toNat)
 case atStart => exact ⟨0, Nat.zero_le _, rfl, by show J _ _; exact h0J, HS.out, HR1.out, HR2.out, Nat.le_refl _⟩
 case round =>
  obtain ⟨k, hk, rfl, hJr, hSr, hA, hB, hsz⟩ := hrel
  have hsz' := hsz.out
  by_cases hkn : k < n
  ·
   obtain ⟨r, b, off, hx, hin, rfl, hlb, x0, x1, x2, x3, x4, x5⟩ := slM_get hSr.out hkn
   have HTS := Lib.hid (take_snoc hx.out)
   have hrf := HV.out r (List.mem_of_getElem? hx.out)
   obtain ⟨w6, hw6⟩ : ∃ w6, wr.alloc (.cells #[.int .i64 r.id, .int .i64 r.ho, .int .i64 r.kd, .int .i64 r.jn, .bool r.ac, .slice r.ba r.bl.length r.bc] 42) = w6 := ⟨_, rfl⟩
   obtain ⟨bx, hbx⟩ : ∃ bx, wr.heap.size = bx := ⟨_, rfl⟩
   have hal : Below wr.heap.size wr w6 := by rw [← hw6]; exact (Below.refl _ _).alloc (Nat.le_refl _) _
   have R6 : Row w6 bx [.int .i64 r.id, .int .i64 r.ho, .int .i64 r.kd, .int .i64 r.jn, .bool r.ac, .slice r.ba r.bl.length r.bc] := by rw [← hw6, ← hbx]; exact Row.new' _ _ _ rfl
   have y0 := R6.cell 0 rfl
   have y1 := R6.cell 1 rfl
   have y2 := R6.cell 2 rfl
   have y3 := R6.cell 3 rfl
   have y4 := R6.cell 4 rfl
   have y5 := R6.cell 5 rfl
   have hB6 := hB.out.step hal
   have z0 := hB6.cell 0 rfl
   have z1 := hB6.cell 1 rfl
   have z2 := hB6.cell 2 rfl
   have z3 := hB6.cell 3 rfl
   have z4 := hB6.cell 4 rfl
   have z5 := hB6.cell 5 rfl
   have z6 := hB6.cell 6 rfl
   have z7 := hB6.cell 7 rfl
   have z8 := hB6.cell 8 rfl
   have HFI := Lib.hid (hin.out.step hal)
   obtain ⟨p, hp⟩ : ∃ p, suitB s r = p := ⟨_, rfl⟩
   have i1 : (0 : Int) ≤ (k : Int) := by omega
   have i2 : (k : Int) < (n : Int) := by omega
   have HAL := Lib.hid hal
   clear hx hin hal
   gi_wp2_with fail
   refine ⟨trivial, (callsIn_wide.2 (Fits_p s r p hp w6 HG.out HFI.out hrf)).mono ?_⟩
   rintro e w7 ⟨rfl, hb7⟩
   have hb67 : Below wr.heap.size wr w7 := HAL.out.trans (hb7.mono HAL.out.size)
   have HS7 := Lib.hid (hSr.out.step hb67)
   have HA7 := Lib.hid (hA.out.step hb67)
   have HB7 := Lib.hid (hB.out.step hb67)
   have HJ7 := Lib.hid (HJA.out _ _ _ hJr.out (hb67.mono hsz') (KeepD.of_below hb67))
   have hs7 : W.heap.size ≤ w7.heap.size := Nat.le_trans hsz' hb67.size
   have y0 := (R6.step hb7).cell 0 rfl
   cases p with
   | false =>
    have HF : Hid (fitL s (H.take (k + 1)) = fitL s (H.take k)) := by show _ = _; unfold fitL; rw [HTS.out, List.filter_append]; simp [hp]
    gi_wp2_with fail
    refine ⟨(fun f h => by cases h), ?_⟩
    gi_wp2_with fail
    go_roundw
    case rel =>
     refine ⟨k + 1, by omega, by go_num, ?_, HS7.out, HA7.out, HB7.out, hs7⟩
     show J _ _
     rw [HF.out]
     exact HJ7.out
    case measure => simp [intOf]; omega
   | true =>
    have HF : Hid (fitL s (H.take (k + 1)) = fitL s (H.take k) ++ [r.id]) := by show _ = _; unfold fitL; rw [HTS.out, List.filter_append]; simp [hp]
    have hpf : fitL s (H.take k) ++ [r.id] <+: fitL s H := by rw [← HF.out]; exact ((List.take_prefix (k + 1) H).filter _).map _
    have HPF := Lib.hid hpf
    have hlen : (fitL s (H.take k)).length < 1000 := by
     unfold fitL
     rw [List.length_map]
     have h1 := List.length_filter_le (suitB s) (H.take k)
     rw [List.length_take] at h1
     omega
    obtain ⟨fn, tmps, assign, body, hy, hR⟩ := HY.out (fitL s (H.take k)) r.id w7 HJ7.out hpf hlen
    clear hpf hlen
    gi_wp2_with fail
    refine hR.mono ?_
    rintro e W3 (⟨rfl, hJ3, hk3⟩ | ⟨rfl, hJx3⟩)
    ·
     rw [← HF.out] at hJ3
     have H3 := Lib.hid hJ3
     have H4 := Lib.hid (HK3.out _ _ hk3 HS7.out)
     have H5 := Lib.hid (HK1.out _ _ hk3 HA7.out)
     have H6 := Lib.hid (HK2.out _ _ hk3 HB7.out)
     have h7 := HK4.out _ _ hk3
     have H8 : Hid (W.heap.size ≤ W3.heap.size) := Nat.le_trans hs7 h7
     clear hJ3 hk3 hy hR
     gi_wp2_with fail
     go_roundw
     case rel => exact ⟨k + 1, by omega, by go_num, H3, H4, H5, H6, H8⟩
     case measure => simp [intOf]; omega
    ·
     have H3 := Lib.hid hJx3
     clear hJx3
     gi_wp2_with fail
     refine bodyPost_ret (results_none rfl _ _ _) rfl ?_
     exact ⟨⟨_, rfl⟩, .inr ⟨_, HPF.out, H3.out⟩⟩
  ·
   obtain rfl : k = n := by omega
   gi_wp2_with fail
   go_end0
   refine ⟨⟨_, rfl⟩, .inl ⟨_, rfl, ?_⟩⟩
   have := hJr.out
   rwa [List.take_of_length_le (by rw [HL.out]; omega)] at this
end
section
set_option linter.unusedSimpArgs false
set_option linter.unusedVariables false
open Go.RowKit Go.Shelf
/-- There is a night on which a stay begins, whose stays cannot have rooms. -/
def Crowded (H : List RoomV) (l : List StayV) : Prop := ∃ s ∈ l, ¬ MatchOK (nsL s.fr l) (srtM H)
/-- The rooms ids, one after the other, for stay i. -/
def PlaceL (rec : Int → List StayV → Option (List StayV) → Int → Prop) (l : List StayV) (i : Nat) : List Int → Int → Option (List StayV) → Int → Prop
 | [], left, res, left' => res = none ∧ left' = left
 | x :: r, left, res, left' => (left - 1 < 0 ∧ res = none ∧ left' = left - 1) ∨ (0 ≤ left - 1 ∧ ∃ (m : Option (List StayV)) (lm : Int), rec (left - 1) (placedL l i x) m lm ∧
   (((m.isSome = true ∨ lm < 0) ∧ res = m ∧ left' = lm) ∨ (m = none ∧ 0 ≤ lm ∧ PlaceL rec l i r lm res left')))
def PlaceR (H : List RoomV) : Nat → Int → List StayV → Option (List StayV) → Int → Prop
 | 0, _, _, _, _ => False
 | d + 1, left, l, res, left' => (Crowded H l ∧ res = none ∧ left' = left) ∨ (¬ Crowded H l ∧ (((∀ s ∈ l, s.inn = true) ∧ res = some l ∧ left' = left) ∨
   ∃ (i : Nat) (s : StayV), l[i]? = some s ∧ s.inn = false ∧ PlaceL (PlaceR H d) l i (fitL s H) left res left'))
end
section
set_option linter.unusedSimpArgs false
set_option linter.unusedVariables false
open Go.RowKit
section
variable {P : Program} {ops : Array Oper} {Q : Exit → Act → World → Prop} {md : Region.Mode} {S : World → Prop} {J : Nat → Bool}
/-- The operations bk hold i, wait for each other, none is listed; whatever else is not listed is in J, and apart. -/
def blockB (md : Region.Mode) (ops : Array Oper) (ls : Array Bool) (J : Nat → Bool) (bk : List Nat) (i : Nat) (o : Oper) : Bool :=
 bk.contains i && (bk.all (fun j => !(ls.getD j false)) && (List.range ops.size).all fun j => match ops[j]? with
  | none => true
  | some oj => if bk.contains j then j == i || oj.after.any (fun e => Region.binds md e && bk.contains e.on) else ls.getD j true || (J j && o.apart ops oj))
theorem blockB_spec {ls : Array Bool} {bk : List Nat} {i : Nat} {o : Oper} (h : blockB md ops ls J bk i o = true) : i ∈ bk ∧ (∀ j ∈ bk, ls.getD j false = false) ∧
  (∀ j oj, ops[j]? = some oj → j ∈ bk → j ≠ i → ∃ e ∈ oj.after, Region.binds md e = true ∧ e.on ∈ bk) ∧ (∀ j oj, ops[j]? = some oj → j ∉ bk → ls.getD j true = false → J j = true ∧ o.apart ops oj = true) := by
 unfold blockB at h
 rw [Bool.and_eq_true, Bool.and_eq_true, List.all_eq_true, List.all_eq_true] at h
 obtain ⟨h1, h2, h3⟩ := h
 refine ⟨by simpa using h1, fun j hj => by simpa using h2 j hj, fun j oj hoj hj hne => ?_, fun j oj hoj hj hu => ?_⟩
 ·
  have := h3 j (List.mem_range.2 (Array.getElem?_eq_some_iff.1 hoj).1)
  rw [hoj] at this
  simp only [] at this
  rw [if_pos (by simpa using hj), Bool.or_eq_true] at this
  rcases this with h | h
  ·
   exact absurd (by simpa using h) hne
  ·
   obtain ⟨e, he, hb⟩ := Array.any_eq_true'.1 h
   rw [Bool.and_eq_true] at hb
   exact ⟨e, he, hb.1, by simpa using hb.2⟩
 ·
  have := h3 j (List.mem_range.2 (Array.getElem?_eq_some_iff.1 hoj).1)
  rw [hoj] at this
  simp only [] at this
  rw [if_neg (by simpa using hj), hu, Bool.false_or, Bool.and_eq_true] at this
  exact this
theorem AnyJ.firstT {i : Nat} {o : Oper} {v : Value} {bk : List Nat} (hi : ops[i]? = some o) (hsel : ∀ (j : Nat) (o : Oper) cs b, ops[j]? = some o → o.op ≠ .select cs b) (hQ : ∀ c a w, Q (.panic c) (a.put o.dst v) w → Q (.panic c) a w)
  (hB : ∀ j oj, ops[j]? = some oj → j ∈ bk → j ≠ i → ∃ e ∈ oj.after, Region.binds md e = true ∧ e.on ∈ bk) :
  ∀ (f : Nat) (ls : Array Bool) (a : Act) (w : World), (∀ j ∈ bk, ls.getD j false = false) →
   (∀ j oj, ops[j]? = some oj → j ∉ bk → ls.getD j true = false → J j = true ∧ o.apart ops oj = true) →
   i ∈ Region.ready md ops ls → YieldsIf P ops S o v a → S w → AnyJ P md ops Q S J f (ls.setIfInBounds i true) (a.put o.dst v) w → AnyJ P md ops Q S J (f + 1) ls a w
 | 0, ls, a, w, hu0, hJ, hr, hy, hS, H => by
  refine ⟨fun e => absurd hr (by rw [e]; exact List.not_mem_nil), fun j hj => ?_⟩
  rcases Nat.decEq j i with hne | he
  ·
   have := ready_mono hj hne
   rw [H.1] at this
   exact absurd this List.not_mem_nil
  ·
   subst he
   exact hy.wpOp hi hS ⟨fun _ => hS, H⟩
 | f + 1, ls, a, w, hu0, hJ, hr, hy, hS, H => by
  refine ⟨fun e => absurd hr (by rw [e]; exact List.not_mem_nil), fun j hj => ?_⟩
  rcases Nat.decEq j i with hne | he
  ·
   obtain ⟨hun, oj, hoj, hpre⟩ := mem_ready.1 hj
   have hnb : j ∉ bk := fun hm => by
    obtain ⟨e, he, hb, hon⟩ := hB j oj hoj hm hne
    have := hpre e he hb
    rw [hu0 _ hon] at this
    cases this
   obtain ⟨hs, hap⟩ := hJ j oj hoj hnb hun
   have hput := wpOp_putIf hoj hap (fun cs b => hsel i o cs b hi) (fun cs b => hsel j oj cs b hoj) hQ hy (H.2 j (ready_mono hj hne))
   refine wpOp_mono (fun b u h3 => ⟨h3.2.1, AnyJ.firstT hi hsel hQ hB f _ b u ?_ ?_ (ready_mono hr (Ne.symm hne)) h3.1 (h3.2.1 hs) (by rw [Array.setIfInBounds_comm _ _ hne]; exact h3.2.2)⟩) hput
   ·
    intro k hk
    have hjk : j ≠ k := fun e => hnb (by rw [e]; exact hk)
    rw [getD_set_ne false hjk]
    exact hu0 k hk
   ·
    intro k ok hk hkb hku
    refine hJ k ok hk hkb ?_
    rcases Nat.decEq j k with hjk | hjk
    ·
     rwa [getD_set_ne true hjk] at hku
    ·
     subst hjk; exact hun
  ·
   subst he
   exact hy.wpOp hi hS ⟨fun _ => hS, H⟩
theorem AnyJ.takeT {i : Nat} {o : Oper} {d : Option Tmp} {v : Value} {f : Nat} {ls : Array Bool} {a : Act} {w : World} (bk : List Nat) (hi : ops[i]? = some o) (hd : o.dst = d) (hs : Region.noSelect ops = true) (hr : (Region.ready md ops ls).contains i = true)
  (hb : blockB md ops ls J bk i o = true) (hQ : ∀ c a w, Q (.panic c) (a.put d v) w → Q (.panic c) a w) (hy : YieldsIf P ops S o v a) (hS : S w)
  (h : AnyJ P md ops Q S J f (ls.setIfInBounds i true) (a.put d v) w) : AnyJ P md ops Q S J (f + 1) ls a w := by
 subst hd
 obtain ⟨_, h1, h2, h3⟩ := blockB_spec hb
 exact AnyJ.firstT hi (Region.noSelect_spec hs) hQ h2 f ls a w h1 h3 (by simpa using hr) hy hS h
end
end
section
set_option linter.unusedSimpArgs false
set_option linter.unusedVariables false
open Go.RowKit Go.Shelf
/-- An address without a spot. -/
def PlA (a : Option Addr) : Prop := a = none ∨ ∃ b off, a = some ⟨b, off, none⟩
theorem SlG.plA {α : Type} {E : Enc α} {w : World} {a : Option Addr} {n : Nat} {l : List α} (h : SlG E w a n l) (h0 : 0 < l.length) : PlA a := by
 have hx : l[0]? = some l[0] := List.getElem?_eq_getElem h0
 obtain ⟨b, off, e, _⟩ := h.2 0 _ hx
 exact .inr ⟨b, off, e⟩
/-- P stays where all blocks below n but sb stay. -/
def Stab (n sb : Nat) (P : World → Prop) : Prop := ∀ A C : World, (∀ k, k < n → k ≠ sb → C.heap[k]? = A.heap[k]?) → P A → P C
theorem Stab.mono {n m sb : Nat} {P : World → Prop} (h : Stab n sb P) (hn : n ≤ m) : Stab m sb P := fun A C hk => h A C (fun k h1 h2 => hk k (by omega) h2)
theorem Stab.ch {n sb : Nat} {P : World → Prop} {A C : World} (h : Stab n sb P) (hA : P A) (hc : Ch (fun x => x = sb) A C) (hn : n ≤ A.heap.size) : P C := h A C (fun k h1 h2 => hc.2.2.2.2 k (by omega) h2) hA
theorem SlG.block {α : Type} {E : Enc α} {w : World} {a : Option Addr} {n : Nat} {l : List α} (h : SlG E w a n l) (h0 : 0 < l.length) : ∃ b off, a = some ⟨b, off, none⟩ ∧ b < w.heap.size := by
 have hx : l[0]? = some l[0] := List.getElem?_eq_getElem h0
 obtain ⟨b, off, e, hc⟩ := h.2 0 _ hx
 have h1 : (E.c l[0])[0]? = some ((E.c l[0])[0]'(by rw [E.len]; exact E.pos)) := List.getElem?_eq_getElem _
 exact ⟨b, off, e, World.block_lt_of_cell? w _ (hc 0 _ h1)⟩
theorem SlG.of_same {α : Type} {E : Enc α} {A C : World} {a : Option Addr} {n : Nat} {l : List α} (h : SlG E A a n l) (he : 0 < l.length → ∀ b off, a = some ⟨b, off, none⟩ → C.heap[b]? = A.heap[b]?) : SlG E C a n l := by
 refine ⟨h.1, fun i x hx => ?_⟩
 obtain ⟨b, off, e, hc⟩ := h.2 i x hx
 have := (List.getElem?_eq_some_iff.1 hx).1
 exact ⟨b, off, e, fun j v hj => (World.cell?_of_block (he (by omega) b off e)).trans (hc j v hj)⟩
theorem SlG.stab {α : Type} {E : Enc α} {w : World} {a : Option Addr} {n sb : Nat} {l : List α} (h : SlG E w a n l) (hne : 0 < l.length → ∀ b off, a = some ⟨b, off, none⟩ → b ≠ sb) : Stab w.heap.size sb (fun W => SlG E W a n l) := fun A C hk hA =>
 hA.of_same fun h0 b off e => by
  obtain ⟨b', off', e', hb⟩ := h.block h0
  rw [e] at e'
  cases e'
  exact hk b hb (hne h0 b off e)
theorem SlM.stab {w : World} {a : Option Addr} {n sb : Nat} {l : List RoomV} (h : SlM w a n l) (hsb : w.heap.size ≤ sb) : Stab w.heap.size sb (fun W => SlM W a n l) := fun A C hk hA => by
 refine ⟨SlG.stab h.1 (fun h0 b off e => ?_) A C hk hA.1, fun r hr => ⟨SlG.stab (h.2 r hr).1 (fun h0 b off e => ?_) A C hk (hA.2 r hr).1, (hA.2 r hr).2⟩⟩
 ·
  obtain ⟨b', off', e', hb⟩ := h.1.block h0
  rw [e] at e'
  cases e'
  omega
 ·
  obtain ⟨b', off', e', hb⟩ := (h.2 r hr).1.block h0
  rw [e] at e'
  cases e'
  omega
theorem SlG.putObj {α : Type} {E : Enc α} {W : World} {D : Nat} {o : Obj} {a : Option Addr} {n : Nat} {l : List α} (h : SlG E W a n l) (o' : Obj) (ho : W.heap[D]? = some o) (hc : o.isCells = false) : SlG E (W.putObj D o') a n l := by
 refine ⟨h.1, fun i x hx => ?_⟩
 obtain ⟨b, off, e, hcc⟩ := h.2 i x hx
 refine ⟨b, off, e, fun j v hj => ?_⟩
 have hv := hcc j v hj
 rw [← hv]
 refine World.cell?_of_block (World.putObj_heap_other (fun e => ?_))
 have e : b = D := e
 subst e
 simp only [World.cell?, ho] at hv
 cases o <;> simp [Obj.isCells] at hc hv
/-- Refusals. -/
def rfE : Enc RefV := ⟨5, RefV.cs, fun _ => rfl, fun x u hu => by simp only [List.mem_cons, List.not_mem_nil, or_false] at hu; rcases hu with rfl | rfl | rfl | rfl | rfl <;> rfl, by decide⟩
theorem rfI : InfoG rfE 47 zref.val 88 := ⟨by kernel_rfl, by kernel_rfl⟩
theorem Row.keepD {A C : World} {b : Nat} {cs : List Value} (h : Row A b cs) (k : KeepD A C) : Row C b cs := by
 obtain ⟨T, hT⟩ := h
 exact ⟨T, (k _ _ _ _ hT).trans hT⟩
theorem OwnG.keepD {α : Type} {E : Enc α} {T : TypeId} {A C : World} {base : Nat} {v : Value} {l : List α} (h : OwnG E T A base v l) (k : KeepD A C) : OwnG E T C base v l := by
 refine ⟨h.1, ?_⟩
 rcases h.2 with h2 | ⟨g, cap, cur, e1, e2, e3, e4⟩
 ·
  exact Or.inl h2
 ·
  exact Or.inr ⟨g, cap, cur, e1, e2, (k _ _ _ _ e3).trans e3, e4⟩
theorem OwnG.isCells {α : Type} {E : Enc α} {T : TypeId} {w : World} {base : Nat} {v : Value} {l : List α} (h : OwnG E T w base v l) {g : Nat} (hg : v.ownBlock = some g) : ∃ cs fr, w.heap[g]? = some (.cells cs T fr) := by
 rcases h.2 with ⟨rfl, _⟩ | ⟨g', cap, cur, rfl, e2, e3, e4⟩
 ·
  simp [Value.ownBlock] at hg
 ·
  simp [Value.ownBlock] at hg
  subst hg
  exact ⟨_, _, e3⟩
theorem OwnG.apart {α β : Type} {E : Enc α} {E' : Enc β} {T T' : TypeId} {w : World} {base base' : Nat} {v v' : Value} {l : List α} {l' : List β} (h : OwnG E T w base v l) (h' : OwnG E' T' w base' v' l') (hT : T ≠ T') {g : Nat} (hg : v.ownBlock = some g) : v'.ownBlock ≠ some g := fun hg' => by
 obtain ⟨cs, fr, e⟩ := h.isCells hg
 obtain ⟨cs', fr', e'⟩ := h'.isCells hg'
 rw [e] at e'
 cases e'
 exact hT rfl
/-- A block that is too small holds no element. -/
theorem SlG.ne_row {α : Type} {E : Enc α} {w : World} {a : Option Addr} {n b : Nat} {l : List α} {cs : List Value} (h : SlG E w a n l) (hr : Row w b cs) (hl : cs.length < E.k) (h0 : 0 < l.length) {b' off : Nat} (e : a = some ⟨b', off, none⟩) : b' ≠ b := fun hb => by
 subst hb
 have hx : l[0]? = some l[0] := List.getElem?_eq_getElem h0
 obtain ⟨b1, o1, e1, hc⟩ := h.2 0 _ hx
 rw [e] at e1
 cases e1
 have hlast : (E.c l[0])[E.k - 1]? = some ((E.c l[0])[E.k - 1]'(by rw [E.len]; have := E.pos; omega)) := List.getElem?_eq_getElem _
 have h2 := hc _ _ hlast
 obtain ⟨T, hT⟩ := hr
 simp only [World.cell?, hT] at h2
 rw [List.getElem?_toArray, List.getElem?_eq_none (by omega)] at h2
 simp at h2
/-- The blocks of one call of place: where they lie. -/
structure PlO (sb B0 Bi T B1 B2 base : Nat) : Prop where
 a : sb < B0
 b : B0 + 4 < Bi
 c : Bi < T
 d : T < B1
 e : B1 < B2
 f : B2 < base
/-- What they hold. -/
structure PlZ (B0 Bi B1 B2 : Nat) (sb : Nat) (hs ls : Value) (i : Nat) (s : StayV) (W : World) : Prop where
 b0 : Row W B0 [.pointer (some ⟨sb, 0, none⟩)]
 b1 : Row W (B0 + 1) [ls]
 b2 : Row W (B0 + 2) [.slice none 0 0]
 b3 : Row W (B0 + 3) zref.cs
 b4 : Row W (B0 + 4) [.bool false]
 bi : Row W Bi [.int .i64 (i : Int)]
 h1 : Row W B1 [hs]
 h2 : Row W B2 (stE.c s)
structure PlF (sb B0 Bi T B1 B2 base : Nat) (hs ls c2 : Value) (i : Nat) (s : StayV) (vR vB : Value) (k : Nat) (W : World) : Prop where
 z : PlZ B0 Bi B1 B2 sb hs ls i s W
 t : Row W T [.int .i64 3, .int .i64 0, c2, vR, vB]
 xs : ∃ xs : List Int, xs.length = k ∧ OwnG intE 3 W base vR xs
 bs : ∃ bs : List RefV, bs.length = k ∧ OwnG rfE 47 W base vB bs
section
variable {sb B0 Bi T B1 B2 base : Nat} {hs ls c2 : Value} {i : Nat} {s : StayV} {vR vB : Value} {k : Nat} {W Y : World}
theorem PlZ.ch {o : Nat → Prop} (h : PlZ B0 Bi B1 B2 sb hs ls i s W) (ho : PlO sb B0 Bi T B1 B2 base) (hc : Ch o W Y) (hk : ∀ k, o k → k = sb ∨ k = T ∨ base ≤ k) : PlZ B0 Bi B1 B2 sb hs ls i s Y := by
 obtain ⟨o1, o2, o3, o4, o5, o6⟩ := ho
 exact ⟨h.b0.ch hc (fun e => by have := hk _ e; omega), h.b1.ch hc (fun e => by have := hk _ e; omega), h.b2.ch hc (fun e => by have := hk _ e; omega), h.b3.ch hc (fun e => by have := hk _ e; omega), h.b4.ch hc (fun e => by have := hk _ e; omega), h.bi.ch hc (fun e => by have := hk _ e; omega), h.h1.ch hc (fun e => by have := hk _ e; omega), h.h2.ch hc (fun e => by have := hk _ e; omega)⟩
theorem PlF.ch (h : PlF sb B0 Bi T B1 B2 base hs ls c2 i s vR vB k W) (ho : PlO sb B0 Bi T B1 B2 base) (hc : Ch (fun x => x = sb) W Y) : PlF sb B0 Bi T B1 B2 base hs ls c2 i s vR vB k Y := by
 obtain ⟨xs, hx, hX⟩ := h.xs
 obtain ⟨bs, hb, hB⟩ := h.bs
 have h1 := h.z.ch ho hc (fun k e => .inl e)
 obtain ⟨o1, o2, o3, o4, o5, o6⟩ := ho
 exact ⟨h1, h.t.ch hc (by omega), ⟨xs, hx, hX.ch hc (fun g hg e => by have := (hX.lt hg).1; omega)⟩, ⟨bs, hb, hB.ch hc (fun g hg e => by have := (hB.lt hg).1; omega)⟩⟩
theorem PlF.ch2 {o : Nat → Prop} (h : PlF sb B0 Bi T B1 B2 base hs ls c2 i s vR vB k W) (ho : PlO sb B0 Bi T B1 B2 base) (hc : Ch o W Y) (hk : ∀ k, o k → k = sb ∨ W.heap.size ≤ k) : PlF sb B0 Bi T B1 B2 base hs ls c2 i s vR vB k Y := by
 obtain ⟨xs, hx, hX⟩ := h.xs
 obtain ⟨bs, hb, hB⟩ := h.bs
 have hz := h.z
 have ht := h.t
 obtain ⟨o1, o2, o3, o4, o5, o6⟩ := ho
 have key : ∀ b, b < W.heap.size → b ≠ sb → ¬ o b := fun b hb hne e => by have := hk b e; omega
 exact ⟨⟨hz.b0.ch hc (key _ hz.b0.lt (by omega)), hz.b1.ch hc (key _ hz.b1.lt (by omega)), hz.b2.ch hc (key _ hz.b2.lt (by omega)), hz.b3.ch hc (key _ hz.b3.lt (by omega)), hz.b4.ch hc (key _ hz.b4.lt (by omega)), hz.bi.ch hc (key _ hz.bi.lt (by omega)), hz.h1.ch hc (key _ hz.h1.lt (by omega)), hz.h2.ch hc (key _ hz.h2.lt (by omega))⟩, ht.ch hc (key _ ht.lt (by omega)),
  ⟨xs, hx, hX.ch hc (fun g hg => key g (hX.lt hg).2 (by have := (hX.lt hg).1; omega))⟩, ⟨bs, hb, hB.ch hc (fun g hg => key g (hB.lt hg).2 (by have := (hB.lt hg).1; omega))⟩⟩
theorem PlF.keepD (h : PlF sb B0 Bi T B1 B2 base hs ls c2 i s vR vB k W) (hc : KeepD W Y) : PlF sb B0 Bi T B1 B2 base hs ls c2 i s vR vB k Y := by
 obtain ⟨xs, hx, hX⟩ := h.xs
 obtain ⟨bs, hb, hB⟩ := h.bs
 obtain ⟨b0, b1, b2, b3, b4, bi, h1, h2⟩ := h.z
 exact ⟨⟨b0.keepD hc, b1.keepD hc, b2.keepD hc, b3.keepD hc, b4.keepD hc, bi.keepD hc, h1.keepD hc, h2.keepD hc⟩, h.t.keepD hc, ⟨xs, hx, hX.keepD hc⟩, ⟨bs, hb, hB.keepD hc⟩⟩
/-- Blocks that a round may turn. -/
def oPl (n sb B1 B2 : Nat) (W : World) (k : Nat) : Prop := k = sb ∨ (n ≤ k ∧ k ≠ B1 ∧ k ≠ B2 ∧ ∀ x, W.heap[k]? = some x → x.isCells = true)
/-- What a round keeps. -/
def KPl (n sb B1 B2 : Nat) (A C : World) : Prop := A.heap.size ≤ C.heap.size ∧ (∀ k, k < n → k ≠ sb → C.heap[k]? = A.heap[k]?) ∧ C.heap[B1]? = A.heap[B1]? ∧ C.heap[B2]? = A.heap[B2]?
theorem KPl.refl (n sb B1 B2 : Nat) (A : World) : KPl n sb B1 B2 A A := ⟨Nat.le_refl _, fun _ _ _ => rfl, rfl, rfl⟩
theorem KPl.trans {n sb B1 B2 : Nat} {A B C : World} (h : KPl n sb B1 B2 A B) (g : KPl n sb B1 B2 B C) : KPl n sb B1 B2 A C := ⟨Nat.le_trans h.1 g.1, fun k h1 h2 => (g.2.1 k h1 h2).trans (h.2.1 k h1 h2), g.2.2.1.trans h.2.2.1, g.2.2.2.trans h.2.2.2⟩
theorem KPl.putObj {n sb B1 B2 base : Nat} (W : World) (l : Nat) (o' : Obj) (hl : base ≤ l) (hn : n ≤ base) (h1 : B1 < base) (h2 : B2 < base) : KPl n sb B1 B2 W (W.putObj l o') :=
 ⟨by simp [World.putObj], fun k hk _ => World.putObj_heap_other (by omega), World.putObj_heap_other (by omega), World.putObj_heap_other (by omega)⟩
theorem oPl_out {n sb B1 B2 : Nat} {cs : List Value} (hs : Row W sb cs) (h1 : B1 < W.heap.size) (h2 : B2 < W.heap.size) (h3 : sb ≠ B1) (h4 : sb ≠ B2) (hn : n ≤ W.heap.size) (hc : Ch (oPl n sb B1 B2 W) W Y) : KeepsOthers W Y ∧ KPl n sb B1 B2 W Y := by
 refine ⟨⟨hc.size, fun k x hk hx => (hc.2.2.2.2 k (Array.getElem?_eq_some_iff.1 hk).1 (fun hh => ?_)).trans hk⟩, hc.size, fun k hk hne => hc.2.2.2.2 k (by omega) (fun hh => ?_), hc.2.2.2.2 _ h1 (fun hh => ?_), hc.2.2.2.2 _ h2 (fun hh => ?_)⟩
 ·
  rcases hh with rfl | ⟨_, _, _, h⟩
  ·
   obtain ⟨T, hT⟩ := hs
   rw [hT] at hk
   cases hk
   simp [Obj.isCells] at hx
  ·
   rw [h x hk] at hx
   cases hx
 ·
  rcases hh with h | ⟨h, _⟩
  ·
   exact hne h
  ·
   omega
 ·
  rcases hh with h | ⟨_, h, _⟩
  ·
   exact h3 h.symm
  ·
   exact h rfl
 ·
  rcases hh with h | ⟨_, _, h, _⟩
  ·
   exact h4 h.symm
  ·
   exact h rfl
theorem oPl_row {n sb B1 B2 b : Nat} {cs : List Value} (h : Row W b cs) (hb : n ≤ b) (h1 : b ≠ B1) (h2 : b ≠ B2) : oPl n sb B1 B2 W b := .inr ⟨hb, h1, h2, fun x hx => by
 obtain ⟨T, hT⟩ := h
 rw [hT] at hx
 cases hx
 rfl⟩
theorem oPl_own {α : Type} {E : Enc α} {T : TypeId} {n sb B1 B2 b base : Nat} {v : Value} {l : List α} (h : OwnG E T W base v l) (hb : n ≤ base) (h1 : B1 < base) (h2 : B2 < base) (hg : v.ownBlock = some b) : oPl n sb B1 B2 W b := .inr (by
 have := (h.lt hg).1
 refine ⟨by omega, by omega, by omega, fun x hx => ?_⟩
 obtain ⟨cs, fr, hT⟩ := h.isCells hg
 rw [hT] at hx
 cases hx
 rfl)
/-- What the loop over the rooms holds. -/
def PlI (w : World) (sb B0 Bi T B1 B2 base : Nat) (hs ls c2 : Value) (i : Nat) (s : StayV) (left : Int) (L : List Int → Int → Option (List StayV) → Int → Prop) (pre : List Int) (W : World) : Prop :=
 ∃ (lk : Int) (vR vB : Value), Row W sb [hs, .int .i64 lk] ∧ 0 ≤ lk ∧ lk ≤ left ∧ PlF sb B0 Bi T B1 B2 base hs ls c2 i s vR vB pre.length W ∧ Ch (fun x => x = sb) w W ∧ base ≤ W.heap.size ∧ (∀ r res left', L r lk res left' → L (pre ++ r) left res left')
theorem PlI.abide {w : World} {left : Int} {L : List Int → Int → Option (List StayV) → Int → Prop} (ho : PlO sb B0 Bi T B1 B2 base) (hw : w.heap.size ≤ base) : AbideD base (PlI w sb B0 Bi T B1 B2 base hs ls c2 i s left L) := by
 rintro pre A C ⟨lk, vR, vB, h1, h2, h3, h4, h5, h6, h7⟩ hb hk
 refine ⟨lk, vR, vB, h1.keepD hk, h2, h3, h4.keepD hk, ⟨hb.os.trans h5.1, hb.tape.trans h5.2.1, hb.output.trans h5.2.2.1, Nat.le_trans h5.2.2.2.1 hb.size, fun k hk1 hk2 => (hb.block k (by omega)).trans (h5.2.2.2.2 k hk1 hk2)⟩, Nat.le_trans h6 hb.size, h7⟩
end
end
section
set_option linter.unusedSimpArgs false
set_option linter.unusedVariables false
open Go.RowKit Go.Shelf
/-- A stay after the search: as it was, or in a room where it was in none. -/
def SameS (s t : StayV) : Prop := t = s ∨ (s.inn = false ∧ ∃ rm : Int, (1 ≤ rm ∧ rm ≤ 1000000) ∧ t = s.into rm)
theorem SameS.trans {s t u : StayV} (h : SameS s t) (k : SameS t u) : SameS s u := by
 rcases h with rfl | ⟨h1, rm, h2, rfl⟩
 ·
  exact k
 ·
  rcases k with rfl | ⟨k1, _⟩
  ·
   exact .inr ⟨h1, rm, h2, rfl⟩
  ·
   cases k1
theorem SameS.id {s t : StayV} (h : SameS s t) : t.id = s.id ∧ t.fr = s.fr ∧ t.un = s.un := by
 rcases h with rfl | ⟨_, rm, _, rfl⟩ <;> exact ⟨rfl, rfl, rfl⟩
theorem SameS.good {s t : StayV} (h : SameS s t) (hg : s.Good) : t.Good := by
 rcases h with rfl | ⟨_, rm, hr, rfl⟩
 ·
  exact hg
 ·
  obtain ⟨g1, g2, g3, g4, g5, g6, g7⟩ := hg
  exact ⟨g1, g2, g3, g4, ⟨by show 0 ≤ rm; omega, hr.2⟩, g6, fun _ => by show rm ≠ 0; omega⟩
/-- Stays after the search. -/
def ExtL (l out : List StayV) : Prop := out.length = l.length ∧ ∀ (i : Nat) (s : StayV), l[i]? = some s → ∃ t, out[i]? = some t ∧ SameS s t
theorem ExtL.refl (l : List StayV) : ExtL l l := ⟨rfl, fun _ s h => ⟨s, h, .inl rfl⟩⟩
theorem ExtL.trans {a b c : List StayV} (h : ExtL a b) (k : ExtL b c) : ExtL a c := ⟨k.1.trans h.1, fun i s hs => by
 obtain ⟨t, ht, h1⟩ := h.2 i s hs
 obtain ⟨u, hu, h2⟩ := k.2 i t ht
 exact ⟨u, hu, h1.trans h2⟩⟩
theorem ExtL.ids {l out : List StayV} (h : ExtL l out) : out.map StayV.id = l.map StayV.id := by
 apply List.ext_getElem?
 intro i
 rw [List.getElem?_map, List.getElem?_map]
 cases hl : l[i]? with
 | none =>
  have : out[i]? = none := by rw [List.getElem?_eq_none_iff] at hl ⊢; rw [h.1]; exact hl
  rw [this]
 | some s =>
  obtain ⟨t, ht, hs⟩ := h.2 i s hl
  rw [ht]
  show some t.id = some s.id
  rw [hs.id.1]
theorem ExtL.back {l out : List StayV} (h : ExtL l out) {t : StayV} (ht : t ∈ out) : ∃ (i : Nat) (s : StayV), l[i]? = some s ∧ out[i]? = some t ∧ SameS s t := by
 obtain ⟨i, hi, rfl⟩ := List.getElem_of_mem ht
 have hil : i < l.length := by rw [← h.1]; exact hi
 obtain ⟨t, ht', hs⟩ := h.2 i l[i] (List.getElem?_eq_getElem hil)
 have e : out[i] = t := by
  rw [List.getElem?_eq_getElem hi] at ht'
  cases ht'
  rfl
 exact ⟨i, l[i], List.getElem?_eq_getElem hil, List.getElem?_eq_getElem hi, by rw [e]; exact hs⟩
theorem ExtL.good {l out : List StayV} (h : ExtL l out) (hg : GoodL l) : GoodL out := ⟨fun t ht => by
 obtain ⟨i, s, hs, _, h1⟩ := h.back ht
 exact h1.good (hg.each s (List.mem_of_getElem? hs)), by rw [h.ids]; exact hg.ids, by rw [h.1]; exact hg.few⟩
theorem placed_ext {l : List StayV} {i : Nat} {s : StayV} (h : l[i]? = some s) (hin : s.inn = false) {rm : Int} (hr : 1 ≤ rm ∧ rm ≤ 1000000) : ExtL l (placedL l i rm) := by
 unfold placedL
 rw [h]
 refine ⟨List.length_set .., fun j t ht => ?_⟩
 by_cases e : i = j
 ·
  subst e
  rw [h] at ht
  cases ht
  exact ⟨_, List.getElem?_set_self (List.getElem?_eq_some_iff.1 h).1, .inr ⟨hin, rm, hr, rfl⟩⟩
 ·
  exact ⟨t, by rw [List.getElem?_set_ne e]; exact ht, .inl rfl⟩
theorem fitL_mem {s : StayV} {H : List RoomV} {x : Int} (h : x ∈ fitL s H) : ∃ r ∈ H, r.id = x ∧ suitB s r = true := by
 unfold fitL at h
 obtain ⟨r, hr, rfl⟩ := List.mem_map.1 h
 obtain ⟨h1, h2⟩ := List.mem_filter.1 hr
 exact ⟨r, h1, rfl, h2⟩
/-- The number of the stays that are in no room yet falls. -/
theorem out_falls {l : List StayV} {i : Nat} {s : StayV} (h : l[i]? = some s) (hin : s.inn = false) (rm : Int) : ((placedL l i rm).filter (fun s => !s.inn)).length < (l.filter (fun s => !s.inn)).length := by
 obtain ⟨hi, he⟩ := List.getElem?_eq_some_iff.1 h
 have e : placedL l i rm = l.take i ++ s.into rm :: l.drop (i + 1) := by
  unfold placedL
  rw [h]
  show l.set i _ = _
  rw [List.set_eq_take_append_cons_drop, if_pos hi]
 have e2 : l = l.take i ++ s :: l.drop (i + 1) := by
  rw [← he, List.getElem_cons_drop hi, List.take_append_drop]
 rw [e]
 conv => rhs; rw [e2]
 rw [List.filter_append, List.filter_append, List.length_append, List.length_append, List.filter_cons_of_neg (by simp), List.filter_cons_of_pos (by simp [hin])]
 simp only [List.length_cons]
 omega
theorem placeL_some {rec : Int → List StayV → Option (List StayV) → Int → Prop} {l : List StayV} {i : Nat} {out : List StayV} {P : Prop} : ∀ {xs : List Int} {left left' : Int}, (∀ x ∈ xs, ∀ a b, rec a (placedL l i x) (some out) b → P) → PlaceL rec l i xs left (some out) left' → P
 | [], _, _, _, h => by obtain ⟨h, _⟩ := h; cases h
 | x :: r, _, _, hrec, h => by
  rcases h with ⟨_, h, _⟩ | ⟨_, m, lm, hm, h⟩
  ·
   cases h
  ·
   rcases h with ⟨_, e, _⟩ | ⟨_, _, h⟩
   ·
    subst e
    exact hrec x (by simp) _ _ hm
   ·
    exact placeL_some (fun y hy => hrec y (by simp [hy])) h
/-- What place finds. -/
theorem place_found {H : List RoomV} (hH : ∀ r ∈ H, 1 ≤ r.id ∧ r.id ≤ 1000000) : ∀ {d : Nat} {left left' : Int} {l out : List StayV}, PlaceR H d left l (some out) left' → ExtL l out ∧ (∀ s ∈ out, s.inn = true) ∧ ¬ Crowded H out
 | 0, _, _, _, _, h => h.elim
 | d + 1, _, _, l, out, h => by
  rcases h with ⟨_, h, _⟩ | ⟨hc, ⟨h1, h2, _⟩ | ⟨i, s, hs, hin, h⟩⟩
  ·
   cases h
  ·
   cases h2
   exact ⟨ExtL.refl _, h1, hc⟩
  ·
   refine placeL_some (fun x hx a b hr => ?_) h
   obtain ⟨r, hr1, rfl, _⟩ := fitL_mem hx
   obtain ⟨k1, k2, k3⟩ := place_found hH hr
   exact ⟨(placed_ext hs hin (hH r hr1)).trans k1, k2, k3⟩
theorem nodup_at {β : Type} {l : List β} (hn : l.Nodup) {i j : Nat} {x : β} (h1 : l[i]? = some x) (h2 : l[j]? = some x) : i = j := by
 rw [List.nodup_iff_pairwise_ne, List.pairwise_iff_getElem] at hn
 obtain ⟨hi, e1⟩ := List.getElem?_eq_some_iff.1 h1
 obtain ⟨hj, e2⟩ := List.getElem?_eq_some_iff.1 h2
 rcases Nat.lt_trichotomy i j with h | h | h
 ·
  exact absurd (e1.trans e2.symm) (hn i j hi hj h)
 ·
  exact h
 ·
  exact absurd (e2.trans e1.symm) (hn j i hj hi h)
theorem onB_iff {q : Int} {s : StayV} : onB q s = true ↔ s.fr ≤ q ∧ q < s.un := by
 unfold onB
 rw [inZ_iff]
 omega
theorem nsL_at {q : Int} {l : List StayV} (hn : (l.map StayV.id).Nodup) {s : StayV} (hs : s ∈ l) (h1 : s.fr ≤ q) (h2 : q < s.un) : ∃ a : Nat, (nsL q l)[a]? = some s := by
 have : s ∈ nsL q l := (nsL_perm hn).mem_iff.2 (List.mem_filter.2 ⟨hs, onB_iff.2 ⟨h1, h2⟩⟩)
 obtain ⟨a, ha, e⟩ := List.getElem_of_mem this
 exact ⟨a, by rw [List.getElem?_eq_getElem ha, e]⟩
theorem suit_in {s : StayV} {r : RoomV} (h : suitB s r = true) (hin : s.inn = true) : s.rm = r.id := by
 unfold suitB at h
 rw [hin] at h
 simp only [Bool.and_eq_true, Bool.not_true, Bool.false_or, decide_eq_true_eq] at h
 exact h.2.2.2
theorem match_room {q : Int} {l : List StayV} {H : List RoomV} {a : Nat} {s : StayV} {g : Nat → Nat} (h : sfits (nsL q l) H a (g a) = true) (hs : (nsL q l)[a]? = some s) (hin : s.inn = true) : ∃ r, H[g a]? = some r ∧ r.id = s.rm ∧ suitB s r = true := by
 obtain ⟨_, hk⟩ := sfits_lt h
 have hr : H[g a]? = some H[g a] := List.getElem?_eq_getElem hk
 rw [sfits_at hs hr] at h
 exact ⟨_, hr, (suit_in h hin).symm, h⟩
/-- Stays that are all in rooms, and matched on each night, are placed. -/
theorem placed_of {H : List RoomV} (hn : ((srtM H).map RoomV.id).Nodup) {l : List StayV} (hg : GoodL l) (hin : ∀ s ∈ l, s.inn = true) (hc : ¬ Crowded H l) : PlacedL H l := by
 have hM : ∀ s ∈ l, MatchOK (nsL s.fr l) (srtM H) := fun s hs => Classical.byContradiction fun h => hc ⟨s, hs, h⟩
 refine ⟨fun s hs => ?_, fun i k s t hik hs ht hrm => ?_⟩
 ·
  obtain ⟨g, h1, _⟩ := hM s hs
  obtain ⟨a, ha⟩ := nsL_at (q := s.fr) hg.ids hs (Int.le_refl _) (hg.each s hs).1.2.1
  obtain ⟨r, hr, h2, h3⟩ := match_room (h1 a (List.getElem?_eq_some_iff.1 ha).1) ha (hin s hs)
  exact ⟨r, (srtM_perm H).mem_iff.1 (List.mem_of_getElem? hr), h2, h3⟩
 ·
  by_cases hq : s.un ≤ t.fr ∨ t.un ≤ s.fr
  ·
   exact hq
  exfalso
  have hsl := List.mem_of_getElem? hs
  have htl := List.mem_of_getElem? ht
  have hs0 := (hg.each s hsl).1
  have ht0 := (hg.each t htl).1
  obtain ⟨q, hq0, hqs, hqt, hqe⟩ : ∃ q, (∃ u ∈ l, u.fr = q) ∧ (s.fr ≤ q ∧ q < s.un) ∧ (t.fr ≤ q ∧ q < t.un) ∧ True := by
   by_cases h : s.fr ≤ t.fr
   ·
    exact ⟨t.fr, ⟨t, htl, rfl⟩, ⟨h, by omega⟩, ⟨Int.le_refl _, by omega⟩, trivial⟩
   ·
    exact ⟨s.fr, ⟨s, hsl, rfl⟩, ⟨Int.le_refl _, by omega⟩, ⟨by omega, by omega⟩, trivial⟩
  obtain ⟨u, hu, rfl⟩ := hq0
  obtain ⟨g, h1, h2⟩ := hM u hu
  obtain ⟨a, ha⟩ := nsL_at (q := u.fr) hg.ids hsl hqs.1 hqs.2
  obtain ⟨b, hb⟩ := nsL_at (q := u.fr) hg.ids htl hqt.1 hqt.2
  have hal := (List.getElem?_eq_some_iff.1 ha).1
  have hbl := (List.getElem?_eq_some_iff.1 hb).1
  obtain ⟨r, hr, r1, _⟩ := match_room (h1 a hal) ha (hin s hsl)
  obtain ⟨r', hr', r1', _⟩ := match_room (h1 b hbl) hb (hin t htl)
  have e : g a = g b := by
   refine nodup_at hn (x := s.rm) ?_ ?_
   ·
    rw [List.getElem?_map, hr]
    exact congrArg some r1
   ·
    rw [List.getElem?_map, hr', hrm]
    exact congrArg some r1'
  have e2 := h2 a b hal hbl e
  subst e2
  rw [ha] at hb
  cases hb
  have e3 : i = k := nodup_at hg.ids (x := s.id) (by rw [List.getElem?_map, hs]; rfl) (by rw [List.getElem?_map, ht]; rfl)
  omega
/-- The list with the marks of arrival as they were. -/
def backL (l out : List StayV) : List StayV := (l.zip out).map (fun p => { p.2 with inn := p.1.inn })
/-- A stay after the assignment. -/
def AsgS (s t : StayV) : Prop := t = s ∨ (s.inn = false ∧ ∃ rm : Int, (1 ≤ rm ∧ rm ≤ 1000000) ∧ t = { s with rm := rm })
structure AsgL (l out : List StayV) : Prop where
 len : out.length = l.length
 each : ∀ (i : Nat) (s : StayV), l[i]? = some s → ∃ t, out[i]? = some t ∧ AsgS s t
theorem backL_at {l out : List StayV} (hl : out.length = l.length) {i : Nat} {s t : StayV} (hs : l[i]? = some s) (ht : out[i]? = some t) : (backL l out)[i]? = some { t with inn := s.inn } := by
 unfold backL
 rw [List.getElem?_map, (List.getElem?_zip_eq_some (z := (s, t))).2 ⟨hs, ht⟩]
 rfl
theorem back_asg {l out : List StayV} (h : ExtL l out) : AsgL l (backL l out) := by
 refine ⟨by unfold backL; simp [h.1], fun i s hs => ?_⟩
 obtain ⟨t, ht, hst⟩ := h.2 i s hs
 refine ⟨_, backL_at h.1 hs ht, ?_⟩
 rcases hst with rfl | ⟨h1, rm, hr, rfl⟩
 ·
  exact .inl rfl
 ·
  exact .inr ⟨h1, rm, hr, by rfl⟩
theorem AsgS.id {s t : StayV} (h : AsgS s t) : t.id = s.id ∧ t.fr = s.fr ∧ t.un = s.un ∧ t.inn = s.inn := by
 rcases h with rfl | ⟨_, rm, _, rfl⟩ <;> exact ⟨rfl, rfl, rfl, rfl⟩
theorem AsgS.good {s t : StayV} (h : AsgS s t) (hg : s.Good) : t.Good := by
 rcases h with rfl | ⟨h1, rm, hr, rfl⟩
 ·
  exact hg
 ·
  obtain ⟨g1, g2, g3, g4, g5, g6, g7⟩ := hg
  exact ⟨g1, g2, g3, g4, ⟨by show 0 ≤ rm; omega, hr.2⟩, g6, fun _ => by show rm ≠ 0; omega⟩
theorem AsgL.ids {l out : List StayV} (h : AsgL l out) : out.map StayV.id = l.map StayV.id := by
 apply List.ext_getElem?
 intro i
 rw [List.getElem?_map, List.getElem?_map]
 cases hl : l[i]? with
 | none =>
  have : out[i]? = none := by rw [List.getElem?_eq_none_iff] at hl ⊢; rw [h.len]; exact hl
  rw [this]
 | some s =>
  obtain ⟨t, ht, hs⟩ := h.each i s hl
  rw [ht]
  show some t.id = some s.id
  rw [hs.id.1]
theorem AsgL.back {l out : List StayV} (h : AsgL l out) {i : Nat} {t : StayV} (ht : out[i]? = some t) : ∃ s, l[i]? = some s ∧ AsgS s t := by
 obtain ⟨hi, rfl⟩ := List.getElem?_eq_some_iff.1 ht
 have hil : i < l.length := by rw [← h.len]; exact hi
 obtain ⟨t, ht', hs⟩ := h.each i l[i] (List.getElem?_eq_getElem hil)
 refine ⟨l[i], List.getElem?_eq_getElem hil, ?_⟩
 rw [ht] at ht'
 cases ht'
 exact hs
theorem AsgL.good {l out : List StayV} (h : AsgL l out) (hg : GoodL l) : GoodL out := ⟨fun t ht => by
 obtain ⟨i, hi⟩ := List.getElem?_of_mem ht
 obtain ⟨s, hs, h1⟩ := h.back hi
 exact h1.good (hg.each s (List.mem_of_getElem? hs)), by rw [h.ids]; exact hg.ids, by rw [h.len]; exact hg.few⟩
theorem suit_out {s : StayV} {r : RoomV} (h : suitB s r = true) (b : Bool) (hr : r.id = s.rm) : suitB { s with inn := b } r = true := by
 unfold suitB at h ⊢
 simp only [Bool.and_eq_true, decide_eq_true_eq, Bool.or_eq_true] at h ⊢
 exact ⟨h.1, h.2.1, h.2.2.1, .inr hr.symm⟩
theorem back_placed {H : List RoomV} {l out : List StayV} (h : ExtL l out) (hp : PlacedL H out) : PlacedL H (backL l out) := by
 have key : ∀ (i : Nat) (u : StayV), (backL l out)[i]? = some u → ∃ (s t : StayV), l[i]? = some s ∧ out[i]? = some t ∧ u = { t with inn := s.inn } := fun i u hu => by
  have hi := (List.getElem?_eq_some_iff.1 hu).1
  have hl : (backL l out).length = l.length := (back_asg h).len
  have hil : i < l.length := by rw [← hl]; exact hi
  have hio : i < out.length := by rw [h.1]; exact hil
  have e := backL_at h.1 (List.getElem?_eq_getElem hil) (List.getElem?_eq_getElem hio)
  rw [hu] at e
  cases e
  exact ⟨_, _, List.getElem?_eq_getElem hil, List.getElem?_eq_getElem hio, rfl⟩
 refine ⟨fun u hu => ?_, fun i k u v hik hu hv hrm => ?_⟩
 ·
  obtain ⟨i, hi⟩ := List.getElem?_of_mem hu
  obtain ⟨s, t, _, ht, rfl⟩ := key i u hi
  obtain ⟨r, hr, h1, h2⟩ := hp.room t (List.mem_of_getElem? ht)
  exact ⟨r, hr, h1, suit_out h2 _ h1⟩
 ·
  obtain ⟨s, t, _, ht, rfl⟩ := key i u hu
  obtain ⟨s', t', _, ht', rfl⟩ := key k v hv
  exact hp.apart i k t t' hik ht ht' hrm
/-- What Assign gives. -/
theorem assigned {H : List RoomV} (hv : validM H = true) {d : Nat} {left left' : Int} {l out : List StayV} (hg : GoodL l) (h : PlaceR H d left l (some out) left') : GoodL (backL l out) ∧ PlacedL H (backL l out) ∧ AsgL l (backL l out) := by
 obtain ⟨_, h2, h3⟩ := validM_in hv
 obtain ⟨k1, k2, k3⟩ := place_found (fun r hr => (formedR_in (h2 r hr)).1) h
 have hp := placed_of (((srtM_perm H).map RoomV.id).nodup_iff.2 h3) (k1.good hg) k2 k3
 exact ⟨(back_asg k1).good hg, back_placed k1 hp, back_asg k1⟩
end
end Go.Proofs.YtlmajlfhjbhdpaaGreat
