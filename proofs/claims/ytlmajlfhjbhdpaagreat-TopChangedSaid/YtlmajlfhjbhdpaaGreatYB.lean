/-
 The walks of package hall: place and the closure that finds a room.
-/
import Derived.Test.YtlmajlfhjbhdpaaGreatZW
import Derived.Test.YtlmajlfhjbhdpaaGreatZQ
namespace Go.Proofs.YtlmajlfhjbhdpaaGreat
set_option linter.unusedSimpArgs false
set_option linter.unusedVariables false
open Go.RowKit Go.Shelf
/-- A map that holds true at some numbers. -/
def BMap (w : World) (r : Nat) (S : SetB) : Prop := ∃ f, IMap w r f ∧ ∀ k : Nat, look f (k : Int) = if S k then some (.bool true) else none
/-- What the pairs of a map from numbers to numbers say. -/
def OSays (f : List (Int × Value)) (O : OwnO) : Prop := (∀ k : Nat, look f (k : Int) = (O k).map fun j : Nat => .int .i64 (j : Int)) ∧ ∀ x ∈ f, ∃ k : Nat, x.1 = (k : Int)
/-- A map from numbers to numbers. -/
def OMap (w : World) (r : Nat) (O : OwnO) : Prop := ∃ f, IMap w r f ∧ OSays f O
theorem upd_mem {f : List (Int × Value)} {k : Int} {v : Value} {x : Int × Value} (h : x ∈ upd f k v) : x = (k, v) ∨ x ∈ f := by
 induction f with
 | nil => simpa [upd] using h
 | cons y r ih =>
  unfold upd at h
  split at h
  ·
   rcases List.mem_cons.1 h with h | h
   ·
    exact Or.inl h
   ·
    exact Or.inr (List.mem_cons_of_mem _ h)
  ·
   rcases List.mem_cons.1 h with h | h
   ·
    exact Or.inr (by rw [h]; exact List.mem_cons_self)
   ·
    exact (ih h).imp id (List.mem_cons_of_mem _)
section
variable {w w' : World} {r : Nat} {S : SetB} {O : OwnO}
theorem BMap.lt (h : BMap w r S) : r < w.heap.size := by obtain ⟨f, h, _⟩ := h; exact h.lt
theorem OMap.lt (h : OMap w r O) : r < w.heap.size := by obtain ⟨f, h, _⟩ := h; exact h.lt
theorem BMap.of_block (h : BMap w r S) (e : w'.heap[r]? = w.heap[r]?) : BMap w' r S := by obtain ⟨f, h1, h2⟩ := h; exact ⟨f, h1.of_block e, h2⟩
theorem OMap.of_block (h : OMap w r O) (e : w'.heap[r]? = w.heap[r]?) : OMap w' r O := by obtain ⟨f, h1, h2⟩ := h; exact ⟨f, h1.of_block e, h2⟩
theorem BMap.step (h : BMap w r S) (hb : Below w.heap.size w w') : BMap w' r S := h.of_block (hb.block r h.lt)
theorem OMap.step (h : OMap w r O) (hb : Below w.heap.size w w') : OMap w' r O := h.of_block (hb.block r h.lt)
theorem bmap_made (w : World) : BMap (w.alloc (.map #[] 0)) w.heap.size (fun _ => false) := ⟨[], imap_made w, fun _ => rfl⟩
theorem omap_made (w : World) : OMap (w.alloc (.map #[] 0)) w.heap.size (fun _ => none) := ⟨[], imap_made w, fun _ => rfl, by simp⟩
theorem bmap_upd {n : Nat} {f : List (Int × Value)} (hf : ∀ k : Nat, look f (k : Int) = if S k then some (.bool true) else none) (h : IMap w r (upd f (n : Int) (.bool true))) : BMap w r (setB S n) := ⟨_, h, fun k => by
 rw [look_upd]
 unfold setB
 by_cases e : k = n
 ·
  rw [if_pos (by rw [e]), if_pos e]; rfl
 ·
  rw [if_neg (by omega), if_neg e]; exact hf k⟩
theorem omap_upd {f : List (Int × Value)} {n i : Nat} (hf : OSays f O) (h : IMap w r (upd f (n : Int) (.int .i64 (i : Int)))) : OMap w r (setO O n i) := ⟨_, h, fun k => by
 rw [look_upd]
 unfold setO
 by_cases e : k = n
 ·
  rw [if_pos (by rw [e]), if_pos e]; rfl
 ·
  rw [if_neg (by omega), if_neg e]; exact hf.1 k, fun x hx => by
 rcases upd_mem hx with rfl | hx
 ·
  exact ⟨n, rfl⟩
 ·
  exact hf.2 x hx⟩
theorem run_lookup_bmap (h : BMap w r S) (k : Nat) : Sem.run Tryz.prog (Instr.lookup 171 (.map (some r)) (.int .i64 (k : Int)) false) w = .ok (.bool (S k)) w := by
 obtain ⟨f, h1, h2⟩ := h
 have hz : (zeroValue 4).run Tryz.prog w = .ok (.bool false) w := by kernel_rfl
 rw [run_lookup_imap Tryz.underlying171 Tryz.underlying3 h1 _ hz (k : Int) false, h2 k]
 cases S k <;> rfl
theorem run_lookup_omap (h : OMap w r O) (k : Nat) : Sem.run Tryz.prog (Instr.lookup 140 (.map (some r)) (.int .i64 (k : Int)) true) w = .ok (.tuple #[.int .i64 (((O k).getD 0 : Nat) : Int), .bool (O k).isSome]) w := by
 obtain ⟨f, h1, h2⟩ := h
 have hz : (zeroValue 3).run Tryz.prog w = .ok (.int .i64 0) w := by kernel_rfl
 rw [run_lookup_imap Tryz.underlying140 Tryz.underlying3 h1 _ hz (k : Int) true, h2.1 k]
 cases O k <;> rfl
end
theorem PMap.ch {o : Nat → Prop} {A B : World} {b : Nat} {f : List (Int × Int)} (h : PMap A b f) (k : Ch o A B) (hn : ¬ o b) : PMap B b f := h.of_block (k.2.2.2.2 b h.lt hn)
theorem SlG.ch {α : Type} {E : Enc α} {o : Nat → Prop} {A B : World} {a : Option Addr} {n : Nat} {l : List α} (h : SlG E A a n l) (k : Ch o A B) (hn : 0 < n → ∀ b off, a = some ⟨b, off, none⟩ → ¬ o b) : SlG E B a n l := by
 refine ⟨h.1, fun i x hx => ?_⟩
 obtain ⟨b, off, e, hc⟩ := h.2 i x hx
 have h0 : 0 < n := by have := (List.getElem?_eq_some_iff.1 hx).1; rw [h.1] at this; omega
 exact ⟨b, off, e, fun j v hj => (World.cell?_of_block (k.2.2.2.2 b (World.block_lt_of_cell? A _ (hc j v hj)) (hn h0 b off e))).trans (hc j v hj)⟩
/-- A night: its stays, the rooms, which suit. -/
structure NightIn (w : World) (nb : Nat) (sa : Option Addr) (sn sc : Nat) (NS : List StayV) (ra : Option Addr) (rn rc : Nat) (NR : List RoomV) (fb : Nat) (F : List (Int × Int)) : Prop where
 row : Row w nb [.slice sa sn sc, .slice ra rn rc, .map (some fb)]
 stays : SlG stE w sa sn NS
 rooms : SlG rmE w ra rn NR
 fits : PMap w fb F
theorem NightIn.step {w w' : World} {nb : Nat} {sa : Option Addr} {sn sc : Nat} {NS : List StayV} {ra : Option Addr} {rn rc : Nat} {NR : List RoomV} {fb : Nat} {F : List (Int × Int)} (h : NightIn w nb sa sn sc NS ra rn rc NR fb F) (hb : Below w.heap.size w w') : NightIn w' nb sa sn sc NS ra rn rc NR fb F :=
 ⟨h.row.step hb, h.stays.step hb, h.rooms.step hb, h.fits.step hb⟩
/-- All of it lies below block B. -/
structure NightLo (B nb sn m : Nat) (sa ra : Option Addr) (fb : Nat) : Prop where
 nb : nb < B
 sa : 0 < sn → ∀ b off, sa = some ⟨b, off, none⟩ → b < B
 ra : 0 < m → ∀ b off, ra = some ⟨b, off, none⟩ → b < B
 fb : fb < B
theorem NightIn.lo {w : World} {nb : Nat} {sa : Option Addr} {sn sc : Nat} {NS : List StayV} {ra : Option Addr} {rn rc : Nat} {NR : List RoomV} {fb : Nat} {F : List (Int × Int)} (h : NightIn w nb sa sn sc NS ra rn rc NR fb F) : NightLo w.heap.size nb sn rn sa ra fb :=
 ⟨h.row.lt, fun h0 b off e => by obtain ⟨b', o', e', hb⟩ := h.stays.ad h0; rw [e] at e'; cases e'; exact hb, fun h0 b off e => by obtain ⟨b', o', e', hb⟩ := h.rooms.ad h0; rw [e] at e'; cases e'; exact hb, h.fits.lt⟩
theorem NightIn.ch {w w' : World} {nb : Nat} {sa : Option Addr} {sn sc : Nat} {NS : List StayV} {ra : Option Addr} {rn rc : Nat} {NR : List RoomV} {fb : Nat} {F : List (Int × Int)} {o : Nat → Prop} (h : NightIn w nb sa sn sc NS ra rn rc NR fb F) {B : Nat} (hl : NightLo B nb sn rn sa ra fb) (k : Ch o w w') (ho : ∀ k, o k → B ≤ k) : NightIn w' nb sa sn sc NS ra rn rc NR fb F :=
 ⟨h.row.ch k (fun e => by have := ho _ e; have := hl.nb; omega), h.stays.ch k (fun h0 b off e e' => by have := ho _ e'; have := hl.sa h0 b off e; omega), h.rooms.ch k (fun h0 b off e e' => by have := ho _ e'; have := hl.ra h0 b off e; omega), h.fits.ch k (fun e => by have := ho _ e; have := hl.fb; omega)⟩
def fitsF (F : List (Int × Int)) (i k : Nat) : Bool := decide (((i : Int), (k : Int)) ∈ F)
theorem range_drop {m k : Nat} (h : k < m) : (List.range m).drop k = k :: (List.range m).drop (k + 1) := by
 rw [List.drop_eq_getElem_cons (by simpa using h), List.getElem_range]
/-- What 'find' has captured. -/
structure CapIn (w : World) (c1 c2 c3 c4 c5 nb sb ob fixed : Nat) : Prop where
 r1 : Row w c1 [.pointer (some ⟨nb, 0, none⟩)]
 r2 : Row w c2 [.map (some sb)]
 r3 : Row w c3 [.map (some ob)]
 r4 : Row w c4 [.int .i64 (fixed : Int)]
 r5 : Row w c5 [.func (.func 140) #[] #[.pointer (some ⟨c1, 0, none⟩), .pointer (some ⟨c2, 0, none⟩), .pointer (some ⟨c3, 0, none⟩), .pointer (some ⟨c4, 0, none⟩), .pointer (some ⟨c5, 0, none⟩)]]
theorem CapIn.of {w w' : World} {c1 c2 c3 c4 c5 nb sb ob fixed : Nat} (h : CapIn w c1 c2 c3 c4 c5 nb sb ob fixed) (k : Ch (fun k => k = sb ∨ k = ob) w w') (hn : ∀ c, (c = c1 ∨ c = c2 ∨ c = c3 ∨ c = c4 ∨ c = c5) → ¬ (c = sb ∨ c = ob)) : CapIn w' c1 c2 c3 c4 c5 nb sb ob fixed :=
 ⟨h.r1.ch k (hn _ (by simp)), h.r2.ch k (hn _ (by simp)), h.r3.ch k (hn _ (by simp)), h.r4.ch k (hn _ (by simp)), h.r5.ch k (hn _ (by simp))⟩
set_option maxRecDepth 100000 in
set_option maxHeartbeats 6400000 in
theorem find_any (sa : Option Addr) (sn sc : Nat) (NS : List StayV) (ra : Option Addr) (m rc : Nat) (NR : List RoomV) (fb : Nat) (F : List (Int × Int)) (c1 c2 c3 c4 c5 nb sb ob fixed B : Nat) (hlo : NightLo B nb sn m sa ra fb) (hBs : B ≤ sb) (hBo : B ≤ ob) (hso : sb ≠ ob) (hm : m ≤ 1000) (hfx : fixed ≤ 1000000)
  (hn : ∀ c, (c = c1 ∨ c = c2 ∨ c = c3 ∨ c = c4 ∨ c = c5) → ¬ (c = sb ∨ c = ob)) : ∀ (d : Nat) (S : SetB) (O : OwnO) (i : Nat) (w : World), unseen m S < d → i ≤ 1000000 → (∀ k j, O k = some j → j ≤ 1000000) → NightIn w nb sa sn sc NS ra m rc NR fb F → CapIn w c1 c2 c3 c4 c5 nb sb ob fixed → BMap w sb S → OMap w ob O →
  Calls Tryz.prog 140 #[.int .i64 (i : Int), .pointer (some ⟨c1, 0, none⟩), .pointer (some ⟨c2, 0, none⟩), .pointer (some ⟨c3, 0, none⟩), .pointer (some ⟨c4, 0, none⟩), .pointer (some ⟨c5, 0, none⟩)] w fun e w' => e = .returned (.bool (findF (fitsF F) fixed m d S O i).1) ∧ BMap w' sb (findF (fitsF F) fixed m d S O i).2.1 ∧ OMap w' ob (findF (fitsF F) fixed m d S O i).2.2 ∧ Ch (fun k => k = sb ∨ k = ob) w w'
 | 0, _, _, _, _, h, _, _, _, _, _, _ => by omega
 | d + 1, S, O, i, w, hU, hi, hO, hN, hC, hS, hM => by
  have IH : Hid (∀ (S : SetB) (O : OwnO) (j : Nat) (w : World), unseen m S < d → j ≤ 1000000 → (∀ k j, O k = some j → j ≤ 1000000) → NightIn w nb sa sn sc NS ra m rc NR fb F → CapIn w c1 c2 c3 c4 c5 nb sb ob fixed → BMap w sb S → OMap w ob O →
    Calls Tryz.prog 140 #[.int .i64 (j : Int), .pointer (some ⟨c1, 0, none⟩), .pointer (some ⟨c2, 0, none⟩), .pointer (some ⟨c3, 0, none⟩), .pointer (some ⟨c4, 0, none⟩), .pointer (some ⟨c5, 0, none⟩)] w fun e w' => e = .returned (.bool (findF (fitsF F) fixed m d S O j).1) ∧ BMap w' sb (findF (fitsF F) fixed m d S O j).2.1 ∧ OMap w' ob (findF (fitsF F) fixed m d S O j).2.2 ∧ Ch (fun k => k = sb ∨ k = ob) w w') :=
   fun S O j w a b c d e f g => find_any sa sn sc NS ra m rc NR fb F c1 c2 c3 c4 c5 nb sb ob fixed B hlo hBs hBo hso hm hfx hn _ S O j w a b c d e f g
  obtain ⟨fin, hfin⟩ : ∃ fin, findF (fitsF F) fixed m (d + 1) S O i = fin := ⟨_, rfl⟩
  rw [hfin]
  have HFIN : Hid (fin = findL (fitsF F) fixed (findF (fitsF F) fixed m d) i ((List.range m).drop 0) S O) := by rw [← hfin]; rfl
  have HN := Lib.hid hN
  have HC := Lib.hid hC
  have HS := Lib.hid hS
  have HM := Lib.hid hM
  have HU := Lib.hid hU
  have HO := Lib.hid hO
  have HLO := Lib.hid hlo
  have HNE := Lib.hid hn
  have k1 := hC.r1.cell 0 rfl
  have k2 := hN.row.cell 1 rfl
  clear hN hC hS hM hU hO hlo hn hfin
  go_enter Tryz.func140, Tryz.ntmps140
  go_wp2_with fail
  go_step3
  go_wp2_with fail
  go_step3
  go_wp2_with fail
  go_loopw [16] (fun ix wr => ∃ (k : Nat) (S1 : SetB) (O1 : OwnO), k ≤ m ∧ ix = .int .i64 k ∧ Hid (fin = findL (fitsF F) fixed (findF (fitsF F) fixed m d) i ((List.range m).drop k) S1 O1) ∧ Hid (BMap wr sb S1) ∧ Hid (OMap wr ob O1) ∧ Hid (Ch (fun k => k = sb ∨ k = ob) w wr) ∧ Hid ((∀ k, S k = true → S1 k = true) ∧ ∀ k j, O1 k = some j → j ≤ 1000000)) (fun ix _ => m - (intOf ix).toNat)
  case atStart => exact ⟨0, S, O, Nat.zero_le _, rfl, HFIN.out, HS.out, HM.out, Ch.refl _ _, fun _ h => h, HO.out⟩
  case round =>
   obtain ⟨k, S1, O1, hk, rfl, hT, hS1, hM1, hC1, hX⟩ := hrel
   have HN1 := Lib.hid (HN.out.ch HLO.out hC1.out (fun k hk => by rcases hk with rfl | rfl <;> assumption))
   have HC2 := Lib.hid (HC.out.of hC1.out HNE.out)
   have k1 := HC2.out.r1.cell 0 rfl
   have k2 := HC2.out.r2.cell 0 rfl
   have k3 := HC2.out.r3.cell 0 rfl
   have k4 := HC2.out.r4.cell 0 rfl
   have k5 := HC2.out.r5.cell 0 rfl
   have n1 := HN1.out.row.cell 2 rfl
   by_cases hkm : k < m
   ·
    have HDR := Lib.hid (range_drop hkm)
    have hls := run_lookup_bmap hS1.out k
    have hlf := run_lookup_pmap Tryz.underlying63 HN1.out.fits ((i : Int), (k : Int))
    obtain ⟨p1, hp1⟩ : ∃ p, S1 k = p := ⟨_, rfl⟩
    obtain ⟨p2, hp2⟩ : ∃ p, fitsF F i k = p := ⟨_, rfl⟩
    have hp2' : decide (((i : Int), (k : Int)) ∈ F) = p2 := hp2
    rw [hp1] at hls
    rw [hp2'] at hlf
    simp only [pkey] at hlf
    have HP1 := Lib.hid hp1
    have HP2 := Lib.hid hp2
    clear hp1 hp2 hp2'
    cases p1 with
    | true =>
     have HT2 : Hid (fin = findL (fitsF F) fixed (findF (fitsF F) fixed m d) i ((List.range m).drop (k + 1)) S1 O1) := by
      show _ = _
      rw [hT.out, HDR.out]
      show (if _ then _ else _) = _
      rw [HP1.out]
      rfl
     go_wp2_with fail
     exact ⟨⟨k + 1, S1, O1, by omega, by go_num, HT2.out, hS1.out, hM1.out, hC1.out, hX.out⟩, by simp [intOf]; omega⟩
    | false =>
     cases p2 with
     | false =>
      have HT2 : Hid (fin = findL (fitsF F) fixed (findF (fitsF F) fixed m d) i ((List.range m).drop (k + 1)) S1 O1) := by
       show _ = _
       rw [hT.out, HDR.out]
       show (if _ then _ else _) = _
       rw [HP1.out, HP2.out]
       rfl
      go_wp2_with fail
      exact ⟨⟨k + 1, S1, O1, by omega, by go_num, HT2.out, hS1.out, hM1.out, hC1.out, hX.out⟩, by simp [intOf]; omega⟩
     | true =>
      cases hok : O1 k with
      | none =>
       have HOK := Lib.hid hok
       have HT2 : Hid (fin = (true, setB S1 k, setO O1 k i)) := by
        show _ = _
        rw [hT.out, HDR.out]
        show (if _ then _ else _) = _
        rw [HP1.out, HP2.out]
        show (match O1 k with | none => _ | some j => _) = _
        rw [HOK.out]
       clear hok
       obtain ⟨f, hf1, hf2⟩ := hS1.out
       have HF1 := Lib.hid hf1
       have HF2 := Lib.hid hf2
       have tok1 : True := trivial
       clear hf1 hf2
       go_wp2_with (first
        | (
         have _t := tok1
         refine wpList_update_imap _ rfl _ _ _ 171 (.inl rfl) 3 4 Tryz.underlying171 Tryz.underlying3 sb f rfl HF1.out (k : Int) (.bool true) rfl rfl ?_
         intro w5 hm5 hg5
         have HS5 := Lib.hid (bmap_upd (n := k) HF2.out hm5)
         have HC5 : Hid (Ch (fun k => k = sb ∨ k = ob) w w5) := hC1.out.trans (Ch.of_grown hg5 (fun q e => by cases e; exact Or.inl rfl))
         have HM5 := Lib.hid (hM1.out.of_block (hg5.block ob hM1.out.lt (fun e => hso (by cases e; rfl))))
         have hlo := run_lookup_omap HM5.out k
         rw [HOK.out] at hlo
         simp only [Option.getD_none, Option.getD_some, Option.isSome_none, Option.isSome_some] at hlo
         have HC6 := Lib.hid (HC.out.of HC5.out HNE.out)
         have HN6 := Lib.hid (HN.out.ch HLO.out HC5.out (fun k hk => by rcases hk with rfl | rfl <;> assumption))
         clear tok1 hm5 hg5 k1 k2 k3 k4 k5 n1 hls hlf
         have k1 := HC6.out.r1.cell 0 rfl
         have k2 := HC6.out.r2.cell 0 rfl
         have k3 := HC6.out.r3.cell 0 rfl
         have k4 := HC6.out.r4.cell 0 rfl
         have k5 := HC6.out.r5.cell 0 rfl
         obtain ⟨g, hg1, hg2⟩ := HM5.out
         have HG1 := Lib.hid hg1
         have HG2 := Lib.hid hg2
         have tok2 : True := trivial
         clear hg1 hg2)
        | (
         have _t := tok2
         refine wpList_update_imap _ rfl _ _ _ 140 (.inl rfl) 3 3 Tryz.underlying140 Tryz.underlying3 ob g rfl HG1.out (k : Int) (.int .i64 (i : Int)) rfl rfl ?_
         intro w7 hm7 hg7
         have HM7 := Lib.hid (omap_upd (n := k) (i := i) HG2.out hm7)
         have HC7 : Hid (Ch (fun k => k = sb ∨ k = ob) w w7) := HC5.out.trans (Ch.of_grown hg7 (fun q e => by cases e; exact Or.inr rfl))
         have HS7 := Lib.hid (HS5.out.of_block (hg7.block sb HS5.out.lt (fun e => hso (by cases e; rfl))))
         clear tok2 hm7 hg7))
       rw [Exit.noGoto_ret]
       go_ret
       rw [HT2.out]
       exact ⟨rfl, HS7.out, HM7.out, HC7.out⟩
      | some j =>
       have HOK := Lib.hid hok
       have hj1 := hX.out.2 k j hok
       clear hok
       by_cases hjf : j < fixed
       ·
        have HT2 : Hid (fin = findL (fitsF F) fixed (findF (fitsF F) fixed m d) i ((List.range m).drop (k + 1)) (setB S1 k) O1) := by
         show _ = _
         rw [hT.out, HDR.out]
         show (if _ then _ else _) = _
         rw [HP1.out, HP2.out]
         show (match O1 k with | none => _ | some j => _) = _
         rw [HOK.out]
         show (if j < fixed then _ else _) = _
         rw [if_pos hjf]
        have hjf' : (j : Int) < (fixed : Int) := by omega
        obtain ⟨f, hf1, hf2⟩ := hS1.out
        have HF1 := Lib.hid hf1
        have HF2 := Lib.hid hf2
        have tok1 : True := trivial
        clear hf1 hf2
        go_wp2_with (
         have _t := tok1
         refine wpList_update_imap _ rfl _ _ _ 171 (.inl rfl) 3 4 Tryz.underlying171 Tryz.underlying3 sb f rfl HF1.out (k : Int) (.bool true) rfl rfl ?_
         intro w5 hm5 hg5
         have HS5 := Lib.hid (bmap_upd (n := k) HF2.out hm5)
         have HC5 : Hid (Ch (fun k => k = sb ∨ k = ob) w w5) := hC1.out.trans (Ch.of_grown hg5 (fun q e => by cases e; exact Or.inl rfl))
         have HM5 := Lib.hid (hM1.out.of_block (hg5.block ob hM1.out.lt (fun e => hso (by cases e; rfl))))
         have hlo := run_lookup_omap HM5.out k
         rw [HOK.out] at hlo
         simp only [Option.getD_none, Option.getD_some, Option.isSome_none, Option.isSome_some] at hlo
         have HC6 := Lib.hid (HC.out.of HC5.out HNE.out)
         have HN6 := Lib.hid (HN.out.ch HLO.out HC5.out (fun k hk => by rcases hk with rfl | rfl <;> assumption))
         clear tok1 hm5 hg5 k1 k2 k3 k4 k5 n1 hls hlf
         have k1 := HC6.out.r1.cell 0 rfl
         have k2 := HC6.out.r2.cell 0 rfl
         have k3 := HC6.out.r3.cell 0 rfl
         have k4 := HC6.out.r4.cell 0 rfl
         have k5 := HC6.out.r5.cell 0 rfl)
        exact ⟨⟨k + 1, setB S1 k, O1, by omega, by go_num, HT2.out, HS5.out, HM5.out, HC5.out, fun x hx => setB_sub (hX.out.1 x hx), hX.out.2⟩, by simp [intOf]; omega⟩
       ·
        have hjf' : (fixed : Int) ≤ (j : Int) := by omega
        have hun : unseen m (setB S1 k) < d := by
         have a1 := unseen_set hkm HP1.out
         have a2 := unseen_mono (m := m) hX.out.1
         have a3 := HU.out
         omega
        rcases hrr : findF (fitsF F) fixed m d (setB S1 k) O1 j with ⟨b, S2, O2⟩
        have HT1 : Hid (fin = (if b then (true, S2, setO O2 k i) else findL (fitsF F) fixed (findF (fitsF F) fixed m d) i ((List.range m).drop (k + 1)) S2 O2)) := by
         show _ = _
         rw [hT.out, HDR.out]
         show (if _ then _ else _) = _
         rw [HP1.out, HP2.out]
         show (match O1 k with | none => _ | some j => _) = _
         rw [HOK.out]
         show (if j < fixed then _ else _) = _
         rw [if_neg hjf, hrr]
         cases b <;> rfl
        have HIH : Hid (∀ W, NightIn W nb sa sn sc NS ra m rc NR fb F → CapIn W c1 c2 c3 c4 c5 nb sb ob fixed → BMap W sb (setB S1 k) → OMap W ob O1 → Calls Tryz.prog 140 #[.int .i64 (j : Int), .pointer (some ⟨c1, 0, none⟩), .pointer (some ⟨c2, 0, none⟩), .pointer (some ⟨c3, 0, none⟩), .pointer (some ⟨c4, 0, none⟩), .pointer (some ⟨c5, 0, none⟩)] W fun e w' => e = .returned (.bool b) ∧ BMap w' sb S2 ∧ OMap w' ob O2 ∧ Ch (fun k => k = sb ∨ k = ob) W w') := fun W a1 a2 a3 a4 => by
         have := IH.out (setB S1 k) O1 j W hun hj1 hX.out.2 a1 a2 a3 a4
         rw [hrr] at this
         exact this
        have hlow := findF_low (fits := fitsF F) (fixed := fixed) (m := m) (N := 1000000) d (setB S1 k) O1 j hX.out.2 hj1
        rw [hrr] at hlow
        have HMO : Hid (∀ x, setB S1 k x = true → S2 x = true) := hlow.1
        have HO2 : Hid (∀ k j, O2 k = some j → j ≤ 1000000) := hlow.2
        clear hlow
        clear hun hrr
        obtain ⟨f, hf1, hf2⟩ := hS1.out
        have HF1 := Lib.hid hf1
        have HF2 := Lib.hid hf2
        have tok1 : True := trivial
        clear hf1 hf2
        go_wp2_with (
         have _t := tok1
         refine wpList_update_imap _ rfl _ _ _ 171 (.inl rfl) 3 4 Tryz.underlying171 Tryz.underlying3 sb f rfl HF1.out (k : Int) (.bool true) rfl rfl ?_
         intro w5 hm5 hg5
         have HS5 := Lib.hid (bmap_upd (n := k) HF2.out hm5)
         have HC5 : Hid (Ch (fun k => k = sb ∨ k = ob) w w5) := hC1.out.trans (Ch.of_grown hg5 (fun q e => by cases e; exact Or.inl rfl))
         have HM5 := Lib.hid (hM1.out.of_block (hg5.block ob hM1.out.lt (fun e => hso (by cases e; rfl))))
         have hlo := run_lookup_omap HM5.out k
         rw [HOK.out] at hlo
         simp only [Option.getD_none, Option.getD_some, Option.isSome_none, Option.isSome_some] at hlo
         have HC6 := Lib.hid (HC.out.of HC5.out HNE.out)
         have HN6 := Lib.hid (HN.out.ch HLO.out HC5.out (fun k hk => by rcases hk with rfl | rfl <;> assumption))
         clear tok1 hm5 hg5 k1 k2 k3 k4 k5 n1 hls hlf
         have k1 := HC6.out.r1.cell 0 rfl
         have k2 := HC6.out.r2.cell 0 rfl
         have k3 := HC6.out.r3.cell 0 rfl
         have k4 := HC6.out.r4.cell 0 rfl
         have k5 := HC6.out.r5.cell 0 rfl)
        refine (HIH.out w5 HN6.out HC6.out HS5.out HM5.out).mono ?_
        rintro e w6 ⟨rfl, hs6, hm6, hc6⟩
        have HS6 := Lib.hid hs6
        have HM6 := Lib.hid hm6
        have HCC : Hid (Ch (fun k => k = sb ∨ k = ob) w w6) := HC5.out.trans hc6
        have HC7 := Lib.hid (HC.out.of HCC.out HNE.out)
        clear hs6 hm6 hc6 k1 k2 k3 k4 k5 HC6
        have k1 := HC7.out.r1.cell 0 rfl
        have k2 := HC7.out.r2.cell 0 rfl
        have k3 := HC7.out.r3.cell 0 rfl
        have k4 := HC7.out.r4.cell 0 rfl
        have k5 := HC7.out.r5.cell 0 rfl
        cases b with
        | true =>
         have HT2 : Hid (fin = (true, S2, setO O2 k i)) := HT1.out
         obtain ⟨g, hg1, hg2⟩ := HM6.out
         have HG1 := Lib.hid hg1
         have HG2 := Lib.hid hg2
         have tok2 : True := trivial
         clear hg1 hg2
         go_wp2_with (
          have _t := tok2
          refine wpList_update_imap _ rfl _ _ _ 140 (.inl rfl) 3 3 Tryz.underlying140 Tryz.underlying3 ob g rfl HG1.out (k : Int) (.int .i64 (i : Int)) rfl rfl ?_
          intro w7 hm7 hg7
          have HM7 := Lib.hid (omap_upd (n := k) (i := i) HG2.out hm7)
          have HC7 : Hid (Ch (fun k => k = sb ∨ k = ob) w w7) := HCC.out.trans (Ch.of_grown hg7 (fun q e => by cases e; exact Or.inr rfl))
          have HS7 := Lib.hid (HS6.out.of_block (hg7.block sb HS6.out.lt (fun e => hso (by cases e; rfl))))
          clear tok2 hm7 hg7)
         rw [Exit.noGoto_ret]
         go_ret
         rw [HT2.out]
         exact ⟨rfl, HS7.out, HM7.out, HC7.out⟩
        | false =>
         go_wp2_with fail
         exact ⟨⟨k + 1, S2, O2, by omega, by go_num, HT1.out, HS6.out, HM6.out, HCC.out, fun x hx => HMO.out x (setB_sub (hX.out.1 x hx)), HO2.out⟩, by simp [intOf]; omega⟩
   ·
    obtain rfl : k = m := by omega
    have HT2 : Hid (fin = (false, S1, O1)) := by
     show _ = _
     rw [hT.out, List.drop_of_length_le (by simp)]
     rfl
    go_wp2_with fail
    rw [Exit.noGoto_ret]
    go_ret
    rw [HT2.out]
    exact ⟨rfl, hS1.out, hM1.out, hC1.out⟩
end Go.Proofs.YtlmajlfhjbhdpaaGreat
