/-
 The walk of hall.refuse.
-/
import Derived.Test.YtlmajlfhjbhdpaaGreatYG
import Derived.Test.YtlmajlfhjbhdpaaGreatYH
import Derived.Test.YtlmajlfhjbhdpaaGreatZX
import Derived.Maps.RangeWalk
namespace Go.Proofs.YtlmajlfhjbhdpaaGreat
set_option linter.unusedSimpArgs false
set_option linter.unusedVariables false
open Go.RowKit Go.Shelf
theorem grownBy_setCell (w : World) (a : Addr) (v : Value) : w.grownBy (w.setCell a v) (some a.block) := ⟨rfl, rfl, rfl, by simp [World.setCell], fun k hk hn => Below.heap_setCell _ _ _ _ (fun e => hn (by rw [e]))⟩
theorem perm_cast {ls : List Int} {R : List Nat} (h : ls.Perm (R.map fun j : Nat => (j : Int))) {x : Int} {k : Nat} (hx : ls[k]? = some x) : ∃ j ∈ R, x = (j : Int) := by
 have := h.mem_iff.1 (List.mem_of_getElem? hx)
 obtain ⟨j, hj, e⟩ := List.mem_map.1 this
 exact ⟨j, hj, e.symm⟩
theorem perm_nat {ls : List Int} {R : List Nat} (h : ls.Perm (R.map fun j : Nat => (j : Int))) : ∃ ks : List Nat, ls = ks.map (fun j : Nat => (j : Int)) ∧ ks.Perm R := by
 have e : ls = (ls.map Int.toNat).map (fun j : Nat => (j : Int)) := by
  rw [List.map_map]
  refine ((List.map_congr_left fun x hx => ?_).trans (List.map_id _)).symm
  obtain ⟨j, _, rfl⟩ := List.mem_map.1 (h.mem_iff.1 hx)
  simp
 refine ⟨ls.map Int.toNat, e, ?_⟩
 have h2 := h.map Int.toNat
 rw [List.map_map] at h2
 exact h2.trans (by rw [show (Int.toNat ∘ fun j : Nat => (j : Int)) = id by funext j; simp]; simp)
/-- 2 where one of the rooms does not suit one of the stays; else 1. -/
def badK (fits : Nat → Nat → Bool) (R ks : List Nat) : Bool := ks.any (fun k => R.any (fun j => !fits j k))
def kindV (b : Bool) : Int := if b then 2 else 1
set_option maxRecDepth 100000 in
set_option maxHeartbeats 12800000 in
theorem refuse_any (sa : Option Addr) (sn sc : Nat) (NS : List StayV) (ra : Option Addr) (m rc : Nat) (NR : List RoomV) (fb : Nat) (F : List (Int × Int)) (nb ob stay : Nat) (when : Int) (O : OwnO) (w : World) (hm : m ≤ 1000) (hsn : sn ≤ 100000) (hst : stay < sn) (hN : NightIn w nb sa sn sc NS ra m rc NR fb F) (hM : OMap w ob O) (hO : ∀ k j, O k = some j → j < sn) :
  Calls Tryz.prog 96 #[.pointer (some ⟨nb, 0, none⟩), .map (some ob), .int .i64 (stay : Int), .int .i64 when] w fun e w' => ∃ (R T : List Nat) (a1 : Option Addr) (c1 : Nat) (a2 : Option Addr) (c2 : Nat), e = .returned (.agg #[.int .i64 (kindV (badK (fitsF F) R T)), .int .i64 when, .slice a1 R.length c1, .slice a2 T.length c2, .slice none 0 0]) ∧ RI (fitsF F) m sn O stay stay m R T [] ∧ Below w.heap.size w w' := by
 have HN := Lib.hid hN
 have hre := fun W (hb : Below w.heap.size w W) => reach_any sa sn sc NS ra m rc NR fb F nb ob stay O W hm hsn hst (hN.step hb) (hM.step hb) hO
 have HRE := Lib.hid hre
 clear hN hM hO hre
 go_enter Tryz.func96, Tryz.ntmps96
 go_wp2_with fail
 obtain ⟨r0, hr0⟩ : ∃ r0, w.heap.size = r0 := ⟨_, rfl⟩
 have hb1 : Below w.heap.size w (w.alloc (.cells #[.int .i64 0, .int .i64 0, .slice none 0 0, .slice none 0 0, .slice none 0 0] 47)) := by (repeat' (first | (with_reducible first | exact Below.refl _ _ | assumption | exact Bw.out (by assumption) | refine bw_alloc ?_ _ | refine bw_step ?_ (by assumption) | refine Below.alloc ?_ ?_ _ | refine Below.drew ?_ | refine below_drewN ?_ _ | refine Below.setCell ?_ ?_ _ | refine below_step ?_ (by assumption) ?_ | exact Nat.le_refl _) | omega | (simp; omega) | (simp; done)))
 have R0 : RowT (w.alloc (.cells #[.int .i64 0, .int .i64 0, .slice none 0 0, .slice none 0 0, .slice none 0 0] 47)) r0 47 [.int .i64 0, .int .i64 0, .slice none 0 0, .slice none 0 0, .slice none 0 0] := by rw [← hr0]; exact RowT.new _ _ _
 have hs1 : (w.alloc (.cells #[.int .i64 0, .int .i64 0, .slice none 0 0, .slice none 0 0, .slice none 0 0] 47)).heap.size = r0 + 1 := by simp [hr0]
 refine (HRE.out _ hb1).mono ?_
 rintro e w1 ⟨rb, tb, R, T, rfl, hrb, htb, hR, hT, hRI, hb2⟩
 have R1 := R0.step hb2
 have HB1 := Lib.hid (hb1.trans (hb2.mono hb1.size))
 have HN1 := Lib.hid (HN.out.step HB1.out)
 have HRI := Lib.hid hRI
 have HRB := Lib.hid hR
 have HTB := Lib.hid hT
 have hs2 := hb2.size
 clear hb1 hb2 R0 hR hT hRI
 go_wp2_with fail
 obtain ⟨bo, hbo⟩ : ∃ bo, w1.heap.size = bo := ⟨_, rfl⟩
 obtain ⟨w2, hw2⟩ : ∃ w2, w1.alloc (.cells #[.int .i64 1, .int .i64 when, .slice none 0 0, .slice none 0 0, .slice none 0 0] 47) = w2 := ⟨_, rfl⟩
 have hal : Below w1.heap.size w1 w2 := by rw [← hw2]; exact (Below.refl _ _).alloc (Nat.le_refl _) _
 have O2 : RowT w2 bo 47 [.int .i64 1, .int .i64 when, .slice none 0 0, .slice none 0 0, .slice none 0 0] := by rw [← hw2, ← hbo]; exact RowT.new _ _ _
 have HRB2 := Lib.hid (HRB.out.below hal)
 have HTB2 := Lib.hid (HTB.out.below hal)
 have R2 := R1.step hal
 have HN2 := Lib.hid (HN1.out.step hal)
 have HB2 : Hid (Below w.heap.size w w2) := HB1.out.trans (hal.mono HB1.out.size)
 have hrb1 := HRB.out.lt
 have htb1 := HTB.out.lt
 have hr01 := R1.row.lt
 have hs12 := hal.size
 have hbl2 := O2.row.lt
 try simp only [hw2, hbo]
 clear hw2 hal R1 HRB HTB HN1 HB1
 refine (keysI_any rb w2).mono ?_
 rintro e w3 ⟨rfl, hk3, hb3⟩
 have O3 := O2.step hb3
 have R3 := R2.step hb3
 have HRB3 := Lib.hid (HRB2.out.below hb3)
 have HTB3 := Lib.hid (HTB2.out.below hb3)
 have HN3 := Lib.hid (HN2.out.step hb3)
 have HB3 : Hid (Below w.heap.size w w3) := HB2.out.trans (hb3.mono HB2.out.size)
 have HK3 := Lib.hid hk3
 have hs23 := hb3.size
 clear hb3 O2 R2 HRB2 HTB2 HN2 HB2 hk3
 have HRN : Hid (∀ j ∈ R, j < sn) := HRI.out.rn
 have HRL : Hid (R.length ≤ sn) := by
  have h1 : ((List.range sn).filter (fun k => decide (k ∈ R))).Perm R := (List.perm_ext_iff_of_nodup (List.nodup_range.filter _) HRI.out.nr).2 fun k => by
   rw [List.mem_filter, List.mem_range, decide_eq_true_eq]
   exact ⟨fun hh => hh.2, fun hh => ⟨HRI.out.rn k hh, hh⟩⟩
  show _ ≤ _
  rw [← h1.length_eq]
  exact Nat.le_trans (List.length_filter_le _ _) (by simp)
 have hrl := HRL.out
 go_wp2_with fail
 refine (sortedKeys_any rb w2.heap.size R w3 HRB3.out HK3.out (fun j hj => by have := HRN.out j hj; omega) (by omega)).mono ?_
 rintro e w4 ⟨ia, ic, ls, rfl, ho4, hp4, hb4⟩
 have O4 := Lib.hid (O3.step hb4)
 have R4 := Lib.hid (R3.step hb4)
 have HRB4 := Lib.hid (HRB3.out.below hb4)
 have HTB4 := Lib.hid (HTB3.out.below hb4)
 have HN4 := Lib.hid (HN3.out.step hb4)
 have HB4 : Hid (Below w.heap.size w w4) := HB3.out.trans (hb4.mono HB3.out.size)
 have HI4 := Lib.hid ho4.sl
 have HP4 := Lib.hid hp4
 have HIO : Hid (∀ b' o, ia = some ⟨b', o, none⟩ → w3.heap.size ≤ b') := fun b' o e => by subst e; exact (ho4.lt rfl).1
 have hs34 := hb4.size
 clear hb4 O3 R3 HRB3 HTB3 HN3 HB3 ho4 hp4 HK3
 obtain ⟨nR, hnR⟩ : ∃ nR, R.length = nR := ⟨_, rfl⟩
 rw [hnR] at HI4 hrl ⊢
 have HNR := Lib.hid hnR
 clear hnR HRL
 go_wp2_with fail
 go_loopw [30] (fun ix wr => ∃ (k : Nat) (ad : Option Addr) (cp : Nat) (L : List Int), k ≤ nR ∧ ix = .int .i64 k ∧ Hid (RowT wr bo 47 [.int .i64 1, .int .i64 when, .slice ad k cp, .slice none 0 0, .slice none 0 0]) ∧ Hid (OwnG intE 3 wr w4.heap.size (.slice ad k cp) L) ∧ Hid (Ch (fun x => x = bo) w4 wr)) (fun ix _ => nR - (intOf ix).toNat)
 case atStart => exact ⟨0, none, 0, [], Nat.zero_le _, rfl, O4.out, OwnG.nil _ _ _ _, Ch.refl _ _⟩
 case round =>
  obtain ⟨k, ad, cp, L, hk, rfl, hO, hL, hC⟩ := hrel
  have hcz := hC.out.size
  have HNr := Lib.hid (HN4.out.ch (B := r0) (hr0 ▸ HN.out.lo) hC.out (fun x hx => by omega))
  by_cases hkn : k < nR
  ·
   obtain ⟨x, c1, off1, hx, rfl, hlb1, y0⟩ := slI_get (HI4.out.ch hC.out (fun h0 b' o e e' => by have := HIO.out b' o e; omega)) hkn
   obtain ⟨j, hjR, rfl⟩ := perm_cast HP4.out hx.out
   have hjn := HRN.out j hjR
   obtain ⟨s, c2, off2, hsx, hsa, hlb2, x0, x1, x2, x3, x4, x5, x6, x7, x8⟩ := slT_get HNr.out.stays hjn
   have i1 : (0 : Int) ≤ (k : Int) := by omega
   have i2 : (k : Int) < (nR : Int) := by omega
   have i3 : (0 : Int) ≤ (j : Int) := by omega
   have i4 : (j : Int) < (sn : Int) := by omega
   have HLL : Hid (L.length = k) := hL.out.sizes.1
   have n0 := HNr.out.row.cell 0 rfl
   rw [hsa] at n0
   clear hjR x1 x2 x3 x4 x5 x6 x7 x8
   go_upto_region 6 with fail
   refine AnyJ.beginP (fun w' : World => w'.cell? ⟨bo, 2, none⟩ = some (.slice ad k cp) ∧ w'.cell? ⟨nb, 0, none⟩ = some (.slice (some ⟨c2, off2, none⟩) sn sc) ∧ w'.cell? ⟨c2, off2 + j * 9, none⟩ = some (.int .i64 s.id)) (fun j => decide (j ≤ 11)) (by kernel_rfl) ⟨hO.out.row.cell 2 rfl, n0, x0⟩ (fun hS => ?_)
   refine AnyJ.takeD (i := 0) (d := some 34) (v := ?_) rfl (by kernel_rfl) (by kernel_rfl) (by kernel_rfl) (by kernel_rfl) (by kernel_rfl) (fun _ _ _ h => h) (Or.inl ⟨by kernel_rfl, ?_⟩) hS ?_
   rotate_left
   ·
    intro w' hS
    obtain ⟨f0, f1, f2⟩ := hS
    go_simp
    try with_reducible rfl
   refine AnyJ.takeD (i := 1) (d := some 35) (v := ?_) rfl (by kernel_rfl) (by kernel_rfl) (by kernel_rfl) (by kernel_rfl) (by kernel_rfl) (fun _ _ _ h => h) (Or.inl ⟨by kernel_rfl, ?_⟩) hS ?_
   rotate_left
   ·
    intro w' hS
    obtain ⟨f0, f1, f2⟩ := hS
    go_simp
    try with_reducible rfl
   refine AnyJ.takeD (i := 2) (d := some 36) (v := ?_) rfl (by kernel_rfl) (by kernel_rfl) (by kernel_rfl) (by kernel_rfl) (by kernel_rfl) (fun _ _ _ h => h) (Or.inl ⟨by kernel_rfl, ?_⟩) hS ?_
   rotate_left
   ·
    intro w' hS
    obtain ⟨f0, f1, f2⟩ := hS
    go_simp
    try with_reducible rfl
   refine AnyJ.takeD (i := 3) (d := some 37) (v := ?_) rfl (by kernel_rfl) (by kernel_rfl) (by kernel_rfl) (by kernel_rfl) (by kernel_rfl) (fun _ _ _ h => h) (Or.inl ⟨by kernel_rfl, ?_⟩) hS ?_
   rotate_left
   ·
    intro w' hS
    obtain ⟨f0, f1, f2⟩ := hS
    go_simp
    try with_reducible rfl
   refine AnyJ.takeD (i := 4) (d := some 38) (v := ?_) rfl (by kernel_rfl) (by kernel_rfl) (by kernel_rfl) (by kernel_rfl) (by kernel_rfl) (fun _ _ _ h => h) (Or.inl ⟨by kernel_rfl, ?_⟩) hS ?_
   rotate_left
   ·
    intro w' hS
    obtain ⟨f0, f1, f2⟩ := hS
    go_simp
    try with_reducible rfl
   refine AnyJ.takeD (i := 5) (d := some 39) (v := ?_) rfl (by kernel_rfl) (by kernel_rfl) (by kernel_rfl) (by kernel_rfl) (by kernel_rfl) (fun _ _ _ h => h) (Or.inl ⟨by kernel_rfl, ?_⟩) hS ?_
   rotate_left
   ·
    intro w' hS
    obtain ⟨f0, f1, f2⟩ := hS
    go_simp
    try with_reducible rfl
   refine AnyJ.takeD (i := 6) (d := some 40) (v := ?_) rfl (by kernel_rfl) (by kernel_rfl) (by kernel_rfl) (by kernel_rfl) (by kernel_rfl) (fun _ _ _ h => h) (Or.inl ⟨by kernel_rfl, ?_⟩) hS ?_
   rotate_left
   ·
    intro w' hS
    obtain ⟨f0, f1, f2⟩ := hS
    go_simp
    try with_reducible rfl
   refine AnyJ.takeD (i := 7) (d := some 41) (v := .pointer (some ⟨c2, off2 + j * 9, none⟩)) rfl (by kernel_rfl) (by kernel_rfl) (by kernel_rfl) (by kernel_rfl) (by kernel_rfl) (fun _ _ _ h => h) (Or.inl ⟨by kernel_rfl, ?_⟩) hS ?_
   ·
    intro w' hS
    obtain ⟨f0, f1, f2⟩ := hS
    go_simp
    try omega
   refine AnyJ.takeD (i := 8) (d := some 42) (v := ?_) rfl (by kernel_rfl) (by kernel_rfl) (by kernel_rfl) (by kernel_rfl) (by kernel_rfl) (fun _ _ _ h => h) (Or.inl ⟨by kernel_rfl, ?_⟩) hS ?_
   rotate_left
   ·
    intro w' hS
    obtain ⟨f0, f1, f2⟩ := hS
    go_simp
    try with_reducible rfl
   refine AnyJ.takeD (i := 9) (d := some 43) (v := ?_) rfl (by kernel_rfl) (by kernel_rfl) (by kernel_rfl) (by kernel_rfl) (by kernel_rfl) (fun _ _ _ h => h) (Or.inl ⟨by kernel_rfl, ?_⟩) hS ?_
   rotate_left
   ·
    intro w' hS
    obtain ⟨f0, f1, f2⟩ := hS
    go_simp
    try with_reducible rfl
   clear hS
   obtain ⟨w7, hw7⟩ : ∃ w7, wr.drew = w7 := ⟨_, rfl⟩
   have hN7 : NightIn w7 nb sa sn sc NS ra m rc NR fb F := by rw [← hw7]; exact HNr.out.step (Below.refl _ _).drew
   have hO7 : RowT w7 bo 47 [.int .i64 1, .int .i64 when, .slice ad k cp, .slice none 0 0, .slice none 0 0] := by rw [← hw7]; exact hO.out
   have hL7 : OwnG intE 3 w7 w4.heap.size (.slice ad k cp) L := by rw [← hw7]; exact hL.out
   have hC7 : Ch (fun x => x = bo) w4 w7 := by rw [← hw7]; exact hC.out.drew
   have hx7 : w7.cell? ⟨c2, off2 + j * 9, none⟩ = some (.int .i64 s.id) := by rw [← hw7]; exact x0
   rw [hw7]
   have hlo := HN.out.lo
   have hc2 : c2 < w4.heap.size := by have := hlo.sa (by omega) c2 off2 hsa; omega
   have hnb : nb < w4.heap.size := by have := hlo.nb; omega
   have hbo4 : bo < w4.heap.size := by omega
   have HSP : ∀ W : World, (∀ q, q < w4.heap.size → W.heap[q]? = w7.heap[q]?) → W.cell? ⟨bo, 2, none⟩ = some (.slice ad k cp) ∧ W.cell? ⟨nb, 0, none⟩ = some (.slice (some ⟨c2, off2, none⟩) sn sc) ∧ W.cell? ⟨c2, off2 + j * 9, none⟩ = some (.int .i64 s.id) := fun W h =>
    ⟨(World.cell?_of_block (h bo hbo4)).trans (hO7.row.cell 2 rfl), (World.cell?_of_block (h nb hnb)).trans (by rw [← hsa]; exact hN7.row.cell 0 rfl), (World.cell?_of_block (h c2 hc2)).trans hx7⟩
   have hs7 := hC7.size
   clear hw7 n0 x0 hlo
   refine AnyJ.one (i := 10) (by kernel_rfl) rfl (fun Kz hKz => ?_)
   go_simp
   refine hKz _ _ (fun _ => HSP _ (fun q hq => Below.heap_alloc _ _ _ (by omega))) ?_
   clear hKz Kz
   refine AnyJ.one (i := 11) (by kernel_rfl) rfl (fun Kz hKz => ?_)
   refine step_append_G inI rfl (.tmp 35) (.tmp 44) 44 rfl Tryz.underlying44 w4.heap.size (l := L) (v := .slice ad k cp) (by simp [Act.eval, Act.put]) (hL7.alloc _) (xa := some ⟨w7.heap.size, 0, none⟩) (m := 1) (c := 1) (ys := [s.id]) (by simp [Act.eval, Act.put]) (SlG.row (rest := []) (Row.new' _ [.int .i64 s.id] _ (by simp)) rfl) (by rw [HLL.out]; omega) (by rw [HLL.out]; omega) (by simp; omega) ?_
   intro v8 w8 ho8 hg8 hor8 _
   obtain ⟨ad8, cp8, rfl, ho8', _⟩ := ho8.shape (n := k + 1) (by rw [List.length_append, HLL.out]; rfl)
   have hq1 : ∀ g, (Value.slice ad k cp).ownBlock = some g → w4.heap.size ≤ g := fun g e => (hL7.lt e).1
   have hq2 : ∀ g, (Value.slice ad8 (k + 1) cp8).ownBlock = some g → w4.heap.size ≤ g := fun g e => (ho8'.lt e).1
   have hC8 : Ch (fun x => x = bo) w4 w8 := Ch.over (Below.refl _ _) ((hC7.alloc _).mono (p := fun x => x = bo ∨ w4.heap.size ≤ x) (fun k _ h => Or.inl h) |>.trans ((Ch.of_grown (o := fun q => (Value.slice ad k cp).ownBlock = some q) hg8 (fun k e => e)).mono (fun k _ h => Or.inr (hq1 k h)))) (fun k h => h)
   have hb8 : ∀ q, q < w4.heap.size → w8.heap[q]? = w7.heap[q]? := fun q hq => (hg8.block q (by simp; omega) (fun e => by have := hq1 q e.symm; omega)).trans (Below.heap_alloc _ _ _ (by omega))
   have hO8 : RowT w8 bo 47 [.int .i64 1, .int .i64 when, .slice ad k cp, .slice none 0 0, .slice none 0 0] := (hb8 bo hbo4).trans hO7
   have hS8 := HSP w8 hb8
   have HC8 := Lib.hid hC8
   have HL8 := Lib.hid ho8'
   have HO8 := Lib.hid hO8
   refine hKz _ _ (fun _ => hS8) ?_
   clear hKz Kz hC8 ho8 ho8' hO8 hg8 hor8 hL7 hC7 hO7 hN7 HSP hb8 hx7
   refine AnyJ.one (i := 12) (by kernel_rfl) rfl (fun Kz hKz => ?_)
   go_simp
   refine hKz _ _ (fun h => by simp at h) ?_
   clear hKz Kz hS8
   have z0 := HO8.out.row.cell 2 rfl
   have z1 := HO8.out.row.frozen 2
   have z2 := HO8.out.row.lt
   refine AnyJ.one (i := 13) (by kernel_rfl) rfl (fun Kz hKz => ?_)
   go_simp
   refine hKz _ _ (fun h => by simp at h) ?_
   clear hKz Kz
   refine AnyJ.done (by kernel_rfl) ?_ _
   try simp only [Act.put, List.setIfInBounds_toArray, List.set_cons_zero, List.set_cons_succ]
   have HO9 : Hid (RowT (w8.setCell ⟨bo, 2, none⟩ (.slice ad8 (k + 1) cp8)) bo 47 [.int .i64 1, .int .i64 when, .slice ad8 (k + 1) cp8, .slice none 0 0, .slice none 0 0]) := HO8.out.set 2 _
   have HL9 : Hid (OwnG intE 3 (w8.setCell ⟨bo, 2, none⟩ (.slice ad8 (k + 1) cp8)) w4.heap.size (.slice ad8 (k + 1) cp8) (L ++ [s.id])) := HL8.out.ch (Ch.setCell (o := fun k => k = bo) (Ch.refl _ w8) (p := ⟨bo, 2, none⟩) rfl _) (fun g e h => by have := hq2 g e; omega)
   have HC9 : Hid (Ch (fun x => x = bo) w4 (w8.setCell ⟨bo, 2, none⟩ (.slice ad8 (k + 1) cp8))) := HC8.out.setCell rfl _
   go_wp2_with fail
   go_roundw
   case rel => exact ⟨k + 1, ad8, cp8, _, by omega, by go_num, HO9.out, HL9.out, HC9.out⟩
   case measure => simp [intOf]; omega
  ·
   obtain rfl : k = nR := by omega
   obtain ⟨wz, hwz⟩ : ∃ x, x = wr := ⟨_, rfl⟩
   subst hwz
   have HOZ := Lib.hid hO.out
   have HTZ := Lib.hid (HTB4.out.of_block (hC.out.2.2.2.2 tb (by omega) (by omega)))
   have HRZ := Lib.hid (HRB4.out.of_block (hC.out.2.2.2.2 rb (by omega) (by omega)))
   have R0Z := Lib.hid ((R4.out.row.ch hC.out (by omega)))
   have HBZ : Hid (Below w.heap.size w wz) := hC.out.below HB4.out (fun x hx => by omega) HB4.out.size
   clear hO hL hC HTB4 HRB4 R4 HB4 HN4 HI4 HP4 HIO
   go_wp2_with fail
   refine (keysI_any tb wz).mono ?_
   rintro e w5 ⟨rfl, hk5, hb5⟩
   have HO5 := Lib.hid (HOZ.out.step hb5)
   have HT5 := Lib.hid (HTZ.out.below hb5)
   have HR5 := Lib.hid (HRZ.out.below hb5)
   have R05 := Lib.hid (R0Z.out.step hb5)
   have HB5 : Hid (Below w.heap.size w w5) := HBZ.out.trans (hb5.mono HBZ.out.size)
   have HK5 := Lib.hid hk5
   have hs5 := hb5.size
   clear hb5 HOZ HTZ HRZ R0Z HBZ hk5
   have HTL : Hid (T.length ≤ m) := HRI.out.few
   have htl := HTL.out
   go_wp2_with fail
   refine (sortedKeys_any tb wz.heap.size T w5 HT5.out HK5.out (fun j hj => by have := HRI.out.tm j hj; omega) (by omega)).mono ?_
   rintro e w6 ⟨ib, ic2, ls2, rfl, ho6, hp6, hb6⟩
   obtain ⟨ks, rfl, hks⟩ := perm_nat hp6
   have HO6 := Lib.hid (HO5.out.step hb6)
   have HR6 := Lib.hid (HR5.out.below hb6)
   have R06 := Lib.hid (R05.out.step hb6)
   have HB6 : Hid (Below w.heap.size w w6) := HB5.out.trans (hb6.mono HB5.out.size)
   have HI6 := Lib.hid ho6.sl
   have HKS := Lib.hid hks
   have HIO : Hid (∀ b' o, ib = some ⟨b', o, none⟩ → w5.heap.size ≤ b') := fun b' o e => by subst e; exact (ho6.lt rfl).1
   have hs56 := hb6.size
   clear hb6 HO5 HR5 R05 HB5 ho6 hp6 HK5 hks HT5
   obtain ⟨nT, hnT⟩ : ∃ nT, T.length = nT := ⟨_, rfl⟩
   rw [hnT] at HI6 htl ⊢
   have HNT := Lib.hid hnT
   have HKL : Hid (ks.length = nT) := HKS.out.length_eq.trans hnT
   clear hnT HTL
   have hwz6 : wz.heap.size ≤ w6.heap.size := by omega
   go_wp2_with fail
   go_loopw [52] (fun ix wr => ∃ (q : Nat) (ad2 : Option Addr) (cp2 : Nat) (L : List Int), q ≤ nT ∧ ix = .int .i64 q ∧ Hid (RowT wr bo 47 [.int .i64 (kindV (badK (fitsF F) R (ks.take q))), .int .i64 when, .slice ad k cp, .slice ad2 q cp2, .slice none 0 0]) ∧ Hid (OwnG intE 3 wr w6.heap.size (.slice ad2 q cp2) L) ∧ Hid (Ch (fun x => x = bo) w6 wr)) (fun ix _ => nT - (intOf ix).toNat)
   case atStart => exact ⟨0, none, 0, [], Nat.zero_le _, rfl, HO6.out, OwnG.nil _ _ _ _, Ch.refl _ _⟩
   case round =>
    obtain ⟨q, ad2, cp2, L, hq, rfl, hO, hL, hC⟩ := hrel
    have hcz := hC.out.size
    have hs0w := HB6.out.size
    have HNr := Lib.hid ((HN.out.step HB6.out).ch (B := r0) (hr0 ▸ HN.out.lo) hC.out (fun x hx => by omega))
    by_cases hqn : q < nT
    ·
     obtain ⟨x, c1, off1, hx, rfl, hlb1, y0⟩ := slI_get (HI6.out.ch hC.out (fun h0 b' o e e' => by have := HIO.out b' o e; omega)) hqn
     have hx2 := hx.out
     rw [List.getElem?_map] at hx2
     obtain ⟨kx, hkx, rfl⟩ := Option.map_eq_some_iff.1 hx2
     have hkm : kx < m := HRI.out.tm kx (HKS.out.mem_iff.1 (List.mem_of_getElem? hkx))
     have HTK := Lib.hid (take_snoc hkx)
     obtain ⟨s, c2, off2, hsx, hsa, hlb2, gx⟩ := HNr.out.rooms.get hkm
     have x0 : wr.cell? ⟨c2, off2 + kx * 6, none⟩ = some (.int .i64 s.id) := gx 0 _ rfl
     have i1 : (0 : Int) ≤ (q : Int) := by omega
     have i2 : (q : Int) < (nT : Int) := by omega
     have i3 : (0 : Int) ≤ (kx : Int) := by omega
     have i4 : (kx : Int) < (m : Int) := by omega
     have HLL : Hid (L.length = q) := hL.out.sizes.1
     have n0 := HNr.out.row.cell 1 rfl
     rw [hsa] at n0
     clear hx2 hkx gx hx
     go_upto_region 11 with fail
     refine AnyJ.beginP (fun w' : World => w'.cell? ⟨bo, 3, none⟩ = some (.slice ad2 q cp2) ∧ w'.cell? ⟨nb, 1, none⟩ = some (.slice (some ⟨c2, off2, none⟩) m rc) ∧ w'.cell? ⟨c2, off2 + kx * 6, none⟩ = some (.int .i64 s.id)) (fun j => decide (j ≤ 11)) (by kernel_rfl) ⟨hO.out.row.cell 3 rfl, n0, x0⟩ (fun hS => ?_)
     refine AnyJ.takeD (i := 0) (d := some 56) (v := ?_) rfl (by kernel_rfl) (by kernel_rfl) (by kernel_rfl) (by kernel_rfl) (by kernel_rfl) (fun _ _ _ h => h) (Or.inl ⟨by kernel_rfl, ?_⟩) hS ?_
     rotate_left
     ·
      intro w' hS
      obtain ⟨f0, f1, f2⟩ := hS
      go_simp
      try with_reducible rfl
     refine AnyJ.takeD (i := 1) (d := some 57) (v := ?_) rfl (by kernel_rfl) (by kernel_rfl) (by kernel_rfl) (by kernel_rfl) (by kernel_rfl) (fun _ _ _ h => h) (Or.inl ⟨by kernel_rfl, ?_⟩) hS ?_
     rotate_left
     ·
      intro w' hS
      obtain ⟨f0, f1, f2⟩ := hS
      go_simp
      try with_reducible rfl
     refine AnyJ.takeD (i := 2) (d := some 58) (v := ?_) rfl (by kernel_rfl) (by kernel_rfl) (by kernel_rfl) (by kernel_rfl) (by kernel_rfl) (fun _ _ _ h => h) (Or.inl ⟨by kernel_rfl, ?_⟩) hS ?_
     rotate_left
     ·
      intro w' hS
      obtain ⟨f0, f1, f2⟩ := hS
      go_simp
      try with_reducible rfl
     refine AnyJ.takeD (i := 3) (d := some 59) (v := ?_) rfl (by kernel_rfl) (by kernel_rfl) (by kernel_rfl) (by kernel_rfl) (by kernel_rfl) (fun _ _ _ h => h) (Or.inl ⟨by kernel_rfl, ?_⟩) hS ?_
     rotate_left
     ·
      intro w' hS
      obtain ⟨f0, f1, f2⟩ := hS
      go_simp
      try with_reducible rfl
     refine AnyJ.takeD (i := 4) (d := some 60) (v := ?_) rfl (by kernel_rfl) (by kernel_rfl) (by kernel_rfl) (by kernel_rfl) (by kernel_rfl) (fun _ _ _ h => h) (Or.inl ⟨by kernel_rfl, ?_⟩) hS ?_
     rotate_left
     ·
      intro w' hS
      obtain ⟨f0, f1, f2⟩ := hS
      go_simp
      try with_reducible rfl
     refine AnyJ.takeD (i := 5) (d := some 61) (v := ?_) rfl (by kernel_rfl) (by kernel_rfl) (by kernel_rfl) (by kernel_rfl) (by kernel_rfl) (fun _ _ _ h => h) (Or.inl ⟨by kernel_rfl, ?_⟩) hS ?_
     rotate_left
     ·
      intro w' hS
      obtain ⟨f0, f1, f2⟩ := hS
      go_simp
      try with_reducible rfl
     refine AnyJ.takeD (i := 6) (d := some 62) (v := ?_) rfl (by kernel_rfl) (by kernel_rfl) (by kernel_rfl) (by kernel_rfl) (by kernel_rfl) (fun _ _ _ h => h) (Or.inl ⟨by kernel_rfl, ?_⟩) hS ?_
     rotate_left
     ·
      intro w' hS
      obtain ⟨f0, f1, f2⟩ := hS
      go_simp
      try with_reducible rfl
     refine AnyJ.takeD (i := 7) (d := some 63) (v := .pointer (some ⟨c2, off2 + kx * 6, none⟩)) rfl (by kernel_rfl) (by kernel_rfl) (by kernel_rfl) (by kernel_rfl) (by kernel_rfl) (fun _ _ _ h => h) (Or.inl ⟨by kernel_rfl, ?_⟩) hS ?_
     ·
      intro w' hS
      obtain ⟨f0, f1, f2⟩ := hS
      go_simp
      try omega
     refine AnyJ.takeD (i := 8) (d := some 64) (v := ?_) rfl (by kernel_rfl) (by kernel_rfl) (by kernel_rfl) (by kernel_rfl) (by kernel_rfl) (fun _ _ _ h => h) (Or.inl ⟨by kernel_rfl, ?_⟩) hS ?_
     rotate_left
     ·
      intro w' hS
      obtain ⟨f0, f1, f2⟩ := hS
      go_simp
      try with_reducible rfl
     refine AnyJ.takeD (i := 9) (d := some 65) (v := ?_) rfl (by kernel_rfl) (by kernel_rfl) (by kernel_rfl) (by kernel_rfl) (by kernel_rfl) (fun _ _ _ h => h) (Or.inl ⟨by kernel_rfl, ?_⟩) hS ?_
     rotate_left
     ·
      intro w' hS
      obtain ⟨f0, f1, f2⟩ := hS
      go_simp
      try with_reducible rfl
     clear hS
     obtain ⟨w7, hw7⟩ : ∃ w7, wr.drew = w7 := ⟨_, rfl⟩
     have hN7 : NightIn w7 nb sa sn sc NS ra m rc NR fb F := by rw [← hw7]; exact HNr.out.step (Below.refl _ _).drew
     obtain ⟨kd, hkd⟩ : ∃ kd, badK (fitsF F) R (ks.take q) = kd := ⟨_, rfl⟩
     have hO7 : RowT w7 bo 47 [.int .i64 (kindV kd), .int .i64 when, .slice ad k cp, .slice ad2 q cp2, .slice none 0 0] := by rw [← hw7, ← hkd]; exact hO.out
     have HKD := Lib.hid hkd
     have hL7 : OwnG intE 3 w7 w6.heap.size (.slice ad2 q cp2) L := by rw [← hw7]; exact hL.out
     have hC7 : Ch (fun x => x = bo) w6 w7 := by rw [← hw7]; exact hC.out.drew
     have hx7 : w7.cell? ⟨c2, off2 + kx * 6, none⟩ = some (.int .i64 s.id) := by rw [← hw7]; exact x0
     rw [hw7]
     have hlo := HN.out.lo
     have hc2 : c2 < w6.heap.size := by have := hlo.ra (by omega) c2 off2 hsa; omega
     have hnb : nb < w6.heap.size := by have := hlo.nb; omega
     have hbo4 : bo < w6.heap.size := by omega
     have HSP : ∀ W : World, (∀ q, q < w6.heap.size → W.heap[q]? = w7.heap[q]?) → W.cell? ⟨bo, 3, none⟩ = some (.slice ad2 q cp2) ∧ W.cell? ⟨nb, 1, none⟩ = some (.slice (some ⟨c2, off2, none⟩) m rc) ∧ W.cell? ⟨c2, off2 + kx * 6, none⟩ = some (.int .i64 s.id) := fun W h =>
      ⟨(World.cell?_of_block (h bo hbo4)).trans (hO7.row.cell 3 rfl), (World.cell?_of_block (h nb hnb)).trans (by rw [← hsa]; exact hN7.row.cell 1 rfl), (World.cell?_of_block (h c2 hc2)).trans hx7⟩
     have hs7 := hC7.size
     clear hw7 n0 x0 hlo hkd
     refine AnyJ.one (i := 10) (by kernel_rfl) rfl (fun Kz hKz => ?_)
     go_simp
     refine hKz _ _ (fun _ => HSP _ (fun q hq => Below.heap_alloc _ _ _ (by omega))) ?_
     clear hKz Kz
     refine AnyJ.one (i := 11) (by kernel_rfl) rfl (fun Kz hKz => ?_)
     refine step_append_G inI rfl (.tmp 57) (.tmp 66) 44 rfl Tryz.underlying44 w6.heap.size (l := L) (v := .slice ad2 q cp2) (by simp [Act.eval, Act.put]) (hL7.alloc _) (xa := some ⟨w7.heap.size, 0, none⟩) (m := 1) (c := 1) (ys := [s.id]) (by simp [Act.eval, Act.put]) (SlG.row (rest := []) (Row.new' _ [.int .i64 s.id] _ (by simp)) rfl) (by rw [HLL.out]; omega) (by rw [HLL.out]; omega) (by simp; omega) ?_
     intro v8 w8 ho8 hg8 hor8 _
     obtain ⟨ad8, cp8, rfl, ho8', _⟩ := ho8.shape (n := q + 1) (by rw [List.length_append, HLL.out]; rfl)
     have hq1 : ∀ g, (Value.slice ad2 q cp2).ownBlock = some g → w6.heap.size ≤ g := fun g e => (hL7.lt e).1
     have hq2 : ∀ g, (Value.slice ad8 (q + 1) cp8).ownBlock = some g → w6.heap.size ≤ g := fun g e => (ho8'.lt e).1
     have hC8 : Ch (fun x => x = bo) w6 w8 := Ch.over (Below.refl _ _) ((hC7.alloc _).mono (p := fun x => x = bo ∨ w6.heap.size ≤ x) (fun k _ h => Or.inl h) |>.trans ((Ch.of_grown (o := fun q' => (Value.slice ad2 q cp2).ownBlock = some q') hg8 (fun k e => e)).mono (fun k _ h => Or.inr (hq1 k h)))) (fun k h => h)
     have hb8 : ∀ q, q < w6.heap.size → w8.heap[q]? = w7.heap[q]? := fun q hq => (hg8.block q (by simp; omega) (fun e => by have := hq1 q e.symm; omega)).trans (Below.heap_alloc _ _ _ (by omega))
     have hO8 : RowT w8 bo 47 [.int .i64 (kindV kd), .int .i64 when, .slice ad k cp, .slice ad2 q cp2, .slice none 0 0] := (hb8 bo hbo4).trans hO7
     have hS8 := HSP w8 hb8
     have HC8 := Lib.hid hC8
     have HL8 := Lib.hid ho8'
     have HO8 := Lib.hid hO8
     refine hKz _ _ (fun _ => hS8) ?_
     clear hKz Kz hC8 ho8 ho8' hO8 hg8 hor8 hL7 hC7 hO7 hN7 HSP hb8 hx7
     refine AnyJ.one (i := 12) (by kernel_rfl) rfl (fun Kz hKz => ?_)
     go_simp
     refine hKz _ _ (fun h => by simp at h) ?_
     clear hKz Kz hS8
     have z0 := HO8.out.row.cell 3 rfl
     have z1 := HO8.out.row.frozen 3
     have z2 := HO8.out.row.lt
     refine AnyJ.one (i := 13) (by kernel_rfl) rfl (fun Kz hKz => ?_)
     go_simp
     refine hKz _ _ (fun h => by simp at h) ?_
     clear hKz Kz
     refine AnyJ.done (by kernel_rfl) ?_ _
     try simp only [Act.put, List.setIfInBounds_toArray, List.set_cons_zero, List.set_cons_succ]
     have HQ2 : Hid (∀ g, (Value.slice ad8 (q + 1) cp8).ownBlock = some g → w6.heap.size ≤ g) := hq2
     obtain ⟨w9, hw9⟩ : ∃ w9, w8.setCell ⟨bo, 3, none⟩ (.slice ad8 (q + 1) cp8) = w9 := ⟨_, rfl⟩
     have HO9 : Hid (RowT w9 bo 47 [.int .i64 (kindV kd), .int .i64 when, .slice ad k cp, .slice ad8 (q + 1) cp8, .slice none 0 0]) := by show RowT _ _ _ _; rw [← hw9]; exact HO8.out.set 3 _
     have HL9 : Hid (OwnG intE 3 w9 w6.heap.size (.slice ad8 (q + 1) cp8) (L ++ [s.id])) := by show OwnG _ _ _ _ _ _; rw [← hw9]; exact HL8.out.ch (Ch.setCell (o := fun k => k = bo) (Ch.refl _ w8) (p := ⟨bo, 3, none⟩) rfl _) (fun g e h => by have := hq2 g e; omega)
     have HC9 : Hid (Ch (fun x => x = bo) w6 w9) := by show Ch _ _ _; rw [← hw9]; exact HC8.out.setCell rfl _
     rw [hw9]
     clear hw9 z0 z1 z2 HO8 HL8 HC8
     have HR9 : Hid (IMap w9 rb (bl R)) := HR6.out.of_block (HC9.out.2.2.2.2 rb (by have := HR6.out.lt; omega) (by omega))
     obtain ⟨D, hD, hpD, hszD, hhD⟩ := HR9.out.owns (plainElem Tryz.prog 4) (fun x hx => by
      obtain ⟨j, hj, rfl⟩ := List.mem_map.1 hx
      have := HRN.out j hj
      simp only
      omega) (fun x hx => by
      obtain ⟨j, hj, rfl⟩ := List.mem_map.1 hx
      exact ⟨_, plainElem_bool Tryz.underlying4 true⟩) (by simp [bl]; have := HNR.out; unfold maxLen; omega)
     have HHD : Hid (∀ x : Int, Maps.has D (.int .i64 x) = true ↔ ∃ j ∈ R, x = (j : Int)) := fun x => by
      rw [hhD x]
      simp only [bl, List.map_map, List.mem_map, Function.comp]
      exact ⟨fun ⟨j, h1, h2⟩ => ⟨j, h1, h2.symm⟩, fun ⟨j, h1, h2⟩ => ⟨j, h1, h2.symm⟩⟩
     have HDO := Lib.hid hD
     have hs9 := HC9.out.size
     clear hD hpD hszD hhD
     have hcz9 := HC9.out.size
     have hrl9 := HR9.out.lt
     go_wp2_with (at_range; refine wpList_range_own _ rfl _ 171 rfl 3 4 (Maps.int_keyed Tryz.underlying3) Tryz.underlying171 _ rb _ _ rfl HDO.out ?_; intro w10 hrg0 hg0 hs0)
     have HC10 : Hid (Ch (fun x => x = bo) w9 w10) := Ch.of_grown hg0 (fun k e => by simp at e)
     have HRG0 := Lib.hid hrg0
     have HO10 : Hid (RowT w10 bo 47 [.int .i64 (kindV kd), .int .i64 when, .slice ad k cp, .slice ad8 (q + 1) cp8, .slice none 0 0]) := (hg0.block bo (by omega) (by simp)).trans HO9.out
     obtain ⟨it, hit⟩ : ∃ it, w9.heap.size = it := ⟨_, rfl⟩
     rw [hit] at HRG0 ⊢
     clear hrg0 hg0 HR9
     go_frame
     go_loopw [16] (fun _ wr => ∃ (left : Lit → Bool) (cnt : Nat) (kb : Bool), Hid (wr.ranges Tryz.prog 3 (plainElem Tryz.prog 4) rb it (bl R).length D left cnt) ∧ Hid (RowT wr bo 47 [.int .i64 (kindV kb), .int .i64 when, .slice ad k cp, .slice ad8 (q + 1) cp8, .slice none 0 0]) ∧ Hid (Ch (fun x => x = bo) w9 wr) ∧ Hid (kb = true ↔ (kd = true ∨ ∃ j ∈ R, left (.int .i64 (j : Int)) = false ∧ fitsF F j kx = false)) ∧ Hid (∀ x : Int, left (.int .i64 x) = true → ∃ j ∈ R, x = (j : Int)) ∧ Hid (it < wr.heap.size)) (fun _ wr => wr.rangeLeft rb it)
     case atStart =>
      exact ⟨_, _, kd, HRG0.out, HO10.out, HC10.out, ⟨Or.inl, fun h => h.elim id (fun ⟨j, hj, h1, _⟩ => by have := (HHD.out (j : Int)).2 ⟨j, hj, rfl⟩; rw [h1] at this; cases this)⟩, fun x hx => (HHD.out x).1 hx, by show _ < _; omega⟩
     case round =>
      obtain ⟨left, cnt, kb, hrg, hO, hC, hK, hLf, hIt⟩ := hrel
      have hrg' := hrg.out
      have hcz2 := hC.out.size
      have hitl := hIt.out
      have HCW : Hid (Ch (fun x => x = bo) w6 wr) := HC9.out.trans hC.out
      have HNQ := Lib.hid ((HN.out.step HB6.out).ch (B := r0) (hr0 ▸ HN.out.lo) HCW.out (fun x hx => by omega))
      go_wp2_with (at_next; refine wpList_next_ranges _ rfl _ rfl 3 (Maps.int_keyed Tryz.underlying3) (plainElem Tryz.prog 4) (Value.int .i64) (fun v : Value => v) (fun key kl hkey => by obtain ⟨x, rfl, _⟩ := Maps.keyOf_int_inv Tryz.underlying3 hkey; exact ⟨x, rfl⟩) (fun v y hv => ⟨v, rfl⟩) rb it (bl R).length D left cnt rfl hrg' ?_ ?_)
      ·
       intro hc0 hl0
       clear hrg'
       go_wp2_with fail
       refine ⟨⟨q + 1, ad8, cp8, _, by omega, by go_num, ?_, HL9.out.ch hC.out (fun g e h => by have := HQ2.out g e; omega), HCW.out⟩, by simp [intOf]; omega⟩
       have hkk : badK (fitsF F) R (ks.take (q + 1)) = kb := by
        rw [HTK.out]
        unfold badK
        rw [Bool.eq_iff_iff, List.any_append, Bool.or_eq_true, hK.out]
        rw [show (List.take q ks).any (fun k => R.any fun j => !fitsF F j k) = kd from HKD.out]
        refine or_congr Iff.rfl ?_
        simp only [List.any_cons, List.any_nil, Bool.or_false, List.any_eq_true, Bool.not_eq_true']
        exact ⟨fun ⟨j, h1, h2⟩ => ⟨j, h1, hl0 _, h2⟩, fun ⟨j, h1, _, h2⟩ => ⟨j, h1, h2⟩⟩
       rw [hkk]
       exact hO
      ·
       intro x c kl y1 y2 w11 cnt1 hkey hlk hv hat hrg1 hlt hg1 hs1 hen
       clear hrg'
       obtain ⟨x', ex, rfl, hwx⟩ := Maps.keyOf_int_inv Tryz.underlying3 hkey
       cases ex
       obtain ⟨j, hjR, rfl⟩ := hLf.out x hlk
       have hjn := HRN.out j hjR
       have hC1 : Ch (fun x => x = it) wr w11 := Ch.of_grown hg1 (fun k e => by simpa using e.symm)
       have HN11 := Lib.hid (HNQ.out.ch (B := r0) (hr0 ▸ HN.out.lo) hC1 (fun x hx => by omega))
       have HO11 : Hid (RowT w11 bo 47 [.int .i64 (kindV kb), .int .i64 when, .slice ad k cp, .slice ad8 (q + 1) cp8, .slice none 0 0]) := (hg1.block bo (by omega) (by simp; omega)).trans hO.out
       have HC11 : Hid (Ch (fun x => x = bo) w9 w11) := Ch.over (Below.refl _ _) ((hC.out.mono (p := fun x => x = bo ∨ w9.heap.size ≤ x) (fun k _ h => Or.inl h)).trans (hC1.mono (fun k _ h => Or.inr (by omega)))) (fun k h => h)
       have HG11 := Lib.hid hrg1
       have n0 := HN11.out.row.cell 2 rfl
       have hlf := run_lookup_pmap Tryz.underlying63 HN11.out.fits ((j : Int), (kx : Int))
       obtain ⟨p2, hp2⟩ : ∃ p, fitsF F j kx = p := ⟨_, rfl⟩
       have hp2' : decide (((j : Int), (kx : Int)) ∈ F) = p2 := hp2
       rw [hp2'] at hlf
       simp only [pkey] at hlf
       have HP2 := Lib.hid hp2
       clear hp2 hp2' hC1 hkey hg1 hrg1 hat
       have u0 := HO11.out.row.cell 0 rfl
       have v0 := HO11.out.row.frozen 0
       have ul := HO11.out.row.lt
       have HLT := Lib.hid hlt
       have HSZ : Hid (w11.heap.size = wr.heap.size) := hs1
       have HML : Hid (w11.rangeLeft rb it < wr.rangeLeft rb it) := by
        show _ < _
        rw [HG11.out.left_eq, hrg.out.left_eq]
        exact hlt
       have HLF2 : Hid (∀ x : Int, (left (.int .i64 x) && !(Lit.int .i64 x).sameKey (.int .i64 (j : Int))) = true → ∃ j ∈ R, x = (j : Int)) := fun x hx => by
        rw [Bool.and_eq_true] at hx
        exact hLf.out x hx.1
       have HSK : Hid (∀ x : Nat, (left (.int .i64 (x : Int)) && !(Lit.int .i64 (x : Int)).sameKey (.int .i64 (j : Int))) = false ↔ (left (.int .i64 (x : Int)) = false ∨ x = j)) := fun x => by
        rw [Bool.and_eq_false_iff, Bool.not_eq_false']
        refine or_congr Iff.rfl ?_
        simp [Lit.sameKey]
        exact Int.ofNat_inj
       have HJR := Lib.hid hjR
       clear hlt hs1
       cases p2 with
       | true =>
        go_wp2_with fail
        refine ⟨⟨_, _, kb, HG11.out, HO11.out, HC11.out, ?_, HLF2.out, by show _ < _; rw [HSZ.out]; exact hitl⟩, HML.out⟩
        refine hK.out.trans (or_congr Iff.rfl ?_)
        constructor
        ·
         rintro ⟨i, h1, h2, h3⟩
         exact ⟨i, h1, (HSK.out i).2 (Or.inl h2), h3⟩
        ·
         rintro ⟨i, h1, h2, h3⟩
         rcases (HSK.out i).1 h2 with h2 | rfl
         ·
          exact ⟨i, h1, h2, h3⟩
         ·
          rw [HP2.out] at h3
          cases h3
       | false =>
        go_wp2_with fail
        have hgs := grownBy_setCell w11 ⟨bo, 0, none⟩ (.int .i64 2)
        have hrg3 := HG11.out.kept hgs (by simp; omega) (by simp; omega)
        refine ⟨⟨_, _, true, hrg3, HO11.out.set 0 _, HC11.out.setCell rfl _, ?_, HLF2.out, by show _ < _; simp; rw [HSZ.out]; exact hitl⟩, ?_⟩
        ·
         show _ ↔ _
         simp only [true_iff]
         exact Or.inr ⟨j, HJR.out, (HSK.out j).2 (Or.inr rfl), HP2.out⟩
        ·
         have h1 := HML.out
         rw [HG11.out.left_eq] at h1
         rw [hrg3.left_eq]
         exact h1
    ·
     obtain rfl : q = nT := by omega
     have hbk : badK (fitsF F) R (ks.take q) = badK (fitsF F) R T := by
      rw [List.take_of_length_le (by rw [HKL.out]; omega)]
      unfold badK
      rw [Bool.eq_iff_iff, List.any_eq_true, List.any_eq_true]
      exact ⟨fun ⟨x, hx, h⟩ => ⟨x, HKS.out.mem_iff.1 hx, h⟩, fun ⟨x, hx, h⟩ => ⟨x, HKS.out.mem_iff.2 hx, h⟩⟩
     have hO2 := hO.out
     rw [hbk] at hO2
     have rr := R06.out.ch hC.out (by omega)
     have u0 := rr.cell 0 rfl
     have v0 := rr.frozen 0
     have u1 := rr.cell 1 rfl
     have v1 := rr.frozen 1
     have u2 := rr.cell 2 rfl
     have v2 := rr.frozen 2
     have u3 := rr.cell 3 rfl
     have v3 := rr.frozen 3
     have u4 := rr.cell 4 rfl
     have v4 := rr.frozen 4
     have rl := rr.lt
     have x0 := hO2.row.cell 0 rfl
     have x1 := hO2.row.cell 1 rfl
     have x2 := hO2.row.cell 2 rfl
     have x3 := hO2.row.cell 3 rfl
     have x4 := hO2.row.cell 4 rfl
     have xl := hO2.row.lt
     have HBF : Hid (Below w.heap.size w wr) := hC.out.below HB6.out (fun x hx => by omega) HB6.out.size
     clear hbk hO2
     go_wp2_with fail
     refine bodyPost_ret (v := .agg #[.int .i64 (kindV (badK (fitsF F) R T)), .int .i64 when, .slice ad k cp, .slice ad2 q cp2, .slice none 0 0]) (by simp [results, Tryz.results96, go_sem, u0, u1, u2, u3, u4, rl]) rfl ?_
     refine ⟨R, T, ad, cp, ad2, cp2, by rw [HNR.out, HNT.out], HRI.out, ?_⟩
     exact ((((HBF.out.setCell (by show _ ≤ r0; omega) _).setCell (by show _ ≤ r0; omega) _).setCell (by show _ ≤ r0; omega) _).setCell (by show _ ≤ r0; omega) _).setCell (by show _ ≤ r0; omega) _
end Go.Proofs.YtlmajlfhjbhdpaaGreat
