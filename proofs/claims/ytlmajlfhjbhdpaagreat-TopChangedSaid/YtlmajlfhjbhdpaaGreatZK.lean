/-
 The walks of package span: pieces, the iterator's contract.
-/
import Derived.Test.YtlmajlfhjbhdpaaGreatZJ
namespace Go.Proofs.YtlmajlfhjbhdpaaGreat
set_option linter.unusedSimpArgs false
set_option linter.unusedVariables false
open Go.RowKit Go.Shelf
attribute [local go_sem] Oper.semAt_some
set_option maxRecDepth 100000 in
set_option maxHeartbeats 6400000 in
theorem pieces_stops (own : World → Nat → Prop) (m : Nat) (hm : 1 ≤ m) (A1 A2 : Nat) (a b : Option Addr) (n1 n2 c1 c2 : Nat) (la lb : List (Int × Int)) (w : World)
  (hr1 : Row w A1 [.slice a n1 c1]) (hr2 : Row w A2 [.slice b n2 c2]) (hs1 : SlG spE w a n1 la) (hs2 : SlG spE w b n2 lb) (hn1 : n1 ≤ 1000) (hn2 : n2 ≤ 1000) (h0 : 0 < n2)
  (hown : ∀ A g cs fr T, A.heap[g]? = some (.cells cs T fr) → w.heap.size ≤ g → (T = 87 ∨ T = 130) → ¬ own A g) :
  SeqT 83 Fence.wide m Tryz.prog 128 #[.pointer (some ⟨A1, 0, none⟩), .pointer (some ⟨A2, 0, none⟩)] encP (KeepsO own) (fun xs => xs = pcL la lb) (fun pre => pre <+: pcL la lb) 4000 w := fun y J Jx W hW hJ hY h0J => by
 have hHS := hW.size
 have HR1 := Lib.hid (hr1.step hW)
 have HR2 := Lib.hid (hr2.step hW)
 have HS1 := Lib.hid (hs1.step hW)
 have HS2 := Lib.hid (hs2.step hW)
 have HL1 := Lib.hid hs1.1
 have HL2 := Lib.hid hs2.1
 have HO : Hid (∀ A g cs fr T, A.heap[g]? = some (.cells cs T fr) → W.heap.size ≤ g → (T = 87 ∨ T = 130) → ¬ own A g) := fun A g cs fr T h1 h2 h3 => hown A g cs fr T h1 (by omega) h3
 have HY := Lib.hid hY
 have HJA := Lib.hid hJ
 have H0 := Lib.hid h0J
 have e1 := HR1.out.cell 0 rfl
 have e2 := HR2.out.cell 0 rfl
 clear hr1 hr2 hs1 hs2 hown hY hJ h0J hW
 refine callsIn_of_wp Tryz.func128 rfl trivial ?_ rfl
 simp only [Tryz.ntmps128, List.size_toArray, List.length_cons, List.length_nil, Nat.reduceAdd, Nat.reduceSub, Array.replicate_succ, Array.replicate_zero, List.push_toArray, List.append_toArray, List.nil_append, List.cons_append]
 gi_wp2_with fail
 refine wpIn_wide.2 ?_
 refine AnyJ.beginP (fun w' : World => w'.cell? ⟨A1, 0, none⟩ = some (.slice a n1 c1) ∧ w'.cell? ⟨A2, 0, none⟩ = some (.slice b n2 c2)) (fun _ => true) (by kernel_rfl) ⟨e1, e2⟩ (fun hS => ?_)
 refine AnyJ.takeD (i := 0) (d := some 9) (v := ?_) rfl (by kernel_rfl) (by kernel_rfl) (by kernel_rfl) (by kernel_rfl) (by kernel_rfl) (fun _ _ _ h => h) (Or.inl ⟨by kernel_rfl, ?_⟩) hS ?_
 rotate_left
 ·
  intro w' hS
  obtain ⟨f0, f1⟩ := hS
  go_simp
  try with_reducible rfl
 refine AnyJ.takeD (i := 2) (d := some 11) (v := ?_) rfl (by kernel_rfl) (by kernel_rfl) (by kernel_rfl) (by kernel_rfl) (by kernel_rfl) (fun _ _ _ h => h) (Or.inl ⟨by kernel_rfl, ?_⟩) hS ?_
 rotate_left
 ·
  intro w' hS
  obtain ⟨f0, f1⟩ := hS
  go_simp
  try with_reducible rfl
 clear hS
 refine AnyJ.one (i := 1) (by kernel_rfl) rfl (fun Kz hKz => ?_)
 go_simp
 refine (ends_any a n1 c1 la 0 _ (by omega) (show SlG spE W.drew a n1 la from HS1.out)).mono ?_
 rintro e w1 ⟨ad1, cp1, rfl, ho1, hb1⟩
 have hB1 : Below W.heap.size W w1 := (Below.refl _ W).drew.trans hb1
 have hO1 : OwnG trE 87 w1 W.heap.size (.slice ad1 (2 * n1) cp1) (endsL 0 la) := ho1
 refine hKz _ _ (fun _ => ⟨(HR1.out.step hB1).cell 0 rfl, (HR2.out.step hB1).cell 0 rfl⟩) ?_
 clear hKz Kz ho1 hb1 e1 e2
 refine AnyJ.one (i := 3) (by kernel_rfl) rfl (fun Kz hKz => ?_)
 go_simp
 refine (ends_any b n2 c2 lb 1 _ (by omega) (HS2.out.step hB1)).mono ?_
 rintro e w2 ⟨ad2, cp2, rfl, ho2, hb2⟩
 have hB2 : Below W.heap.size W w2 := hB1.trans (hb2.mono hB1.size)
 have hO2 := hO1.step hb2
 have hS2 := ho2.sl
 refine hKz _ _ (fun _ => ⟨(HR1.out.step hB2).cell 0 rfl, (HR2.out.step hB2).cell 0 rfl⟩) ?_
 clear hKz Kz ho2 hb2 hB1 hO1
 have hle1 : (endsL 0 la).length = 2 * n1 := by rw [endsL_len, HL1.out]
 refine AnyJ.one (i := 4) (by kernel_rfl) rfl (fun Kz hKz => ?_)
 refine step_append_G trI rfl (.tmp 10) (.tmp 12) 177 rfl Tryz.underlying177 W.heap.size (l := endsL 0 la) (v := .slice ad1 (2 * n1) cp1) (by simp [Act.eval, Act.put]) hO2 (xa := ad2) (m := 2 * n2) (c := cp2) (ys := endsL 1 lb) (by simp [Act.eval, Act.put]) hS2 (by rw [hle1]; omega) (by rw [hle1]; omega) hB2.size ?_
 intro v3 w3 hO3 _ _ hbl3
 have hB3 := hbl3 _ hB2
 obtain ⟨N, hN⟩ : ∃ N, 2 * n1 + 2 * n2 = N := ⟨_, rfl⟩
 obtain ⟨ad3, cp3, rfl, hO3', _⟩ := hO3.shape (n := N) (by rw [List.length_append, hle1, endsL_len, HL2.out]; exact hN)
 obtain ⟨g3, rfl, hg3, _⟩ := hO3'.ad (by omega)
 have HLN : Hid ((allE la lb).length = N) := by show _ = _; rw [allE_len, HL1.out, HL2.out]; exact hN
 have hN4 : N ≤ 4000 ∧ 0 < N := by omega
 refine hKz _ _ (fun _ => ⟨(HR1.out.step hB3).cell 0 rfl, (HR2.out.step hB3).cell 0 rfl⟩) ?_
 clear hKz Kz hO3 hbl3 hB2 hO2 hS2 hN
 refine AnyJ.one (i := 5) (by kernel_rfl) rfl (fun Kz hKz => ?_)
 go_simp
 refine hKz _ _ (fun _ => ⟨(HR1.out.step hB3).cell 0 rfl, (HR2.out.step hB3).cell 0 rfl⟩) ?_
 clear hKz Kz
 refine AnyJ.done (by kernel_rfl) ?_ _
 try simp only [Act.put, List.setIfInBounds_toArray, List.set_cons_zero, List.set_cons_succ]
 gi_wp2_with fail
 refine ⟨trivial, ?_⟩
 refine (callsIn_wide.2 (sortE_any W.heap.size g3 N cp3 _ w3 hO3' (by rw [hO3'.sizes.1]; exact hN4.2) (by omega))).mono ?_
 rintro e w4 ⟨rfl, hO4, hC4⟩
 have hB4 : Below W.heap.size W w4 := hC4.below hB3 (fun k hk => by omega) hB3.size
 have HO4 : Hid (OwnG trE 87 w4 W.heap.size (.slice (some ⟨g3, 0, none⟩) N cp3) (allE la lb)) := hO4
 have hg34 := (HO4.out.lt (g := g3) rfl).2
 have HB4 := Lib.hid hB4
 have hs4 := hB4.size
 clear hO3' hO4 hC4 hB4 hB3 hle1
 have HB5 : Hid (Below W.heap.size W (w4.alloc (.cells #[.bool false, .bool false] 130))) := HB4.out.alloc hs4 _
 gi_wp2_with fail
 gi_loopw [6, 8, 18] (fun va _ i wr => ∃ (k : Nat) (t : PcV), k ≤ N ∧ i = .int .i64 k ∧ va = .int .i64 t.at' ∧ Hid (pP (allE la lb) k = t) ∧ Hid (OwnG trE 87 wr W.heap.size (.slice (some ⟨g3, 0, none⟩) N cp3) (allE la lb)) ∧ Hid (RowT wr w4.heap.size 130 [.bool t.i0, .bool t.i1]) ∧ Hid (J t.pcs wr) ∧ Hid (w4.heap.size < wr.heap.size)) (fun _ _ i _ => N - (intOf i).toNat)
 case atStart => exact ⟨0, ⟨[], 0, false, false⟩, Nat.zero_le _, rfl, rfl, rfl, HO4.out.alloc _, RowT.new _ _ _, HJA.out _ _ _ H0.out HB5.out (KeepT.of_below HB5.out), by show _ < _; simp⟩
 case round =>
  obtain ⟨k, t, hk, rfl, rfl, hT, hO, hQ, hJr, hsz⟩ := hrel
  have hsz' := hsz.out
  by_cases hkn : k < N
  ·
   obtain ⟨x, mk, d, b0, off, hx, hba, hlb, x0, x1, x2⟩ := slE_get hO.out.sl hkn
   cases hba
   rw [Nat.zero_add] at x0 x1 x2
   have hmk := allE_mark (List.mem_of_getElem? hx.out)
   have HST := Lib.hid (pP_succ hx.out)
   have HPX := Lib.hid (pP_prefix (allE la lb) (k + 1) N (by omega))
   have HPL := Lib.hid (pP_length (allE la lb) k (by rw [HLN.out]; omega))
   have i1 : (0 : Int) ≤ (k : Int) := by omega
   have i2 : (k : Int) < (N : Int) := by omega
   clear hx
   simp only at hmk
   obtain ⟨bx, hbx⟩ : ∃ bx, wr.heap.size = bx := ⟨_, rfl⟩
   obtain ⟨w6, hw6⟩ : ∃ w6, wr.alloc (.cells #[.int .i64 x, .int .i64 mk, .int .i64 d] 87) = w6 := ⟨_, rfl⟩
   have hal : Below wr.heap.size wr w6 := by rw [← hw6]; exact (Below.refl _ _).alloc (Nat.le_refl _) _
   have HB6 : Hid (RowT w6 bx 87 [.int .i64 x, .int .i64 mk, .int .i64 d]) := by rw [← hw6, ← hbx]; exact RowT.new _ _ _
   have HQ6 := Lib.hid (hQ.out.step hal)
   have HO6 := Lib.hid (hO.out.step hal)
   have HJ5 := Lib.hid (HJA.out _ _ _ hJr.out (hal.mono (by omega)) (KeepT.of_below hal))
   have hs5 : w4.heap.size < w6.heap.size := Nat.lt_of_lt_of_le hsz' hal.size
   have hbq : w4.heap.size < bx := by omega
   clear hal hO hQ hJr
   rcases hmk with rfl | rfl
   ·
    by_cases hxa : t.at' < x
    ·
     have hpe : (stepP t (x, 0, d)).pcs = t.pcs ++ [(t.at', x, t.i0, t.i1)] := by unfold stepP; simp only; rw [if_pos hxa]
     have hpf : t.pcs ++ [(t.at', x, t.i0, t.i1)] <+: pcL la lb := by
      rw [← hpe]
      have := HPX.out
      rw [HST.out, hT.out] at this
      unfold pcL
      rw [HLN.out]
      exact this
     have hlen : t.pcs.length < 4000 := by have := HPL.out; rw [hT.out] at this; omega
     obtain ⟨fn, tmps, assign, body, hy, hR⟩ := HY.out t.pcs (t.at', x, t.i0, t.i1) w6 HJ5.out hpf hlen
     dsimp only [encP] at hy
     have HPE := Lib.hid hpe
     have HPF := Lib.hid hpf
     clear hpe hpf hlen
     have hb0 := HB6.out.row.cell 0 rfl
     have hb1 := HB6.out.row.cell 1 rfl
     have hb2 := HB6.out.row.cell 2 rfl
     have hq0 := HQ6.out.row.cell 0 rfl
     have hq1 := HQ6.out.row.cell 1 rfl
     gi_wp2_with fail
     refine hR.mono ?_
     have n1 := HO.out w6 bx _ _ _ HB6.out (by omega) (Or.inl rfl)
     have n2 := HO.out w6 w4.heap.size _ _ _ HQ6.out (by omega) (Or.inr rfl)
     have n3 := fun g cs fr (e : (Value.slice (some ⟨g3, 0, none⟩) N cp3).ownBlock = some g) (h : w6.heap[g]? = some (.cells cs 87 fr)) => HO.out w6 g _ _ _ h (by cases e; omega) (Or.inl rfl)
     rintro e W3 (⟨rfl, hJ3, hk3⟩ | ⟨rfl, hJx3⟩)
     ·
      rw [← HPE.out] at hJ3
      have HBN := Lib.hid (HB6.out.keepsO hk3 n1)
      have HQN := Lib.hid (HQ6.out.keepsO hk3 n2)
      have HON := Lib.hid (HO6.out.keepsO hk3 n3)
      have HJ6 := Lib.hid hJ3
      have hs6 : w4.heap.size < W3.heap.size := Nat.lt_of_lt_of_le hs5 hk3.1
      clear hb0 hb1 hb2 hq0 hq1 hJ3 hk3 n1 n2 n3 hy hR HB6 HQ6 HO6 HJ5 hs5
      have HB6 := HBN
      have HQ6 := HQN
      have HO6 := HON
      clear HBN HQN HON
      have hb0 := HB6.out.row.cell 0 rfl
      have hb1 := HB6.out.row.cell 1 rfl
      have hb2 := HB6.out.row.cell 2 rfl
      have hq0 := HQ6.out.row.cell 0 rfl
      have hq1 := HQ6.out.row.cell 1 rfl
      have hqf0 := HQ6.out.row.frozen 0
      have hqf1 := HQ6.out.row.frozen 1
      gi_wp2_with fail
      refine wpIn_wide.2 ?_
      refine AnyJ.beginP (fun w' : World => w'.cell? ⟨bx, 0, none⟩ = some (.int .i64 x) ∧ w'.cell? ⟨bx, 1, none⟩ = some (.int .i64 0) ∧ w'.cell? ⟨bx, 2, none⟩ = some (.int .i64 d)) (fun j => decide (j ≤ 8)) (by kernel_rfl) ⟨hb0, hb1, hb2⟩ (fun hS => ?_)
      refine AnyJ.takeD (i := 0) (d := some 36) (v := ?_) rfl (by kernel_rfl) (by kernel_rfl) (by kernel_rfl) (by kernel_rfl) (by kernel_rfl) (fun _ _ _ h => h) (Or.inl ⟨by kernel_rfl, ?_⟩) hS ?_
      rotate_left
      ·
       intro w' hS
       obtain ⟨f0, f1, f2⟩ := hS
       go_simp
       try with_reducible rfl
      refine AnyJ.takeD (i := 1) (d := some 37) (v := ?_) rfl (by kernel_rfl) (by kernel_rfl) (by kernel_rfl) (by kernel_rfl) (by kernel_rfl) (fun _ _ _ h => h) (Or.inl ⟨by kernel_rfl, ?_⟩) hS ?_
      rotate_left
      ·
       intro w' hS
       obtain ⟨f0, f1, f2⟩ := hS
       go_simp
       try with_reducible rfl
      refine AnyJ.takeD (i := 2) (d := some 38) (v := ?_) rfl (by kernel_rfl) (by kernel_rfl) (by kernel_rfl) (by kernel_rfl) (by kernel_rfl) (fun _ _ _ h => h) (Or.inl ⟨by kernel_rfl, ?_⟩) hS ?_
      rotate_left
      ·
       intro w' hS
       obtain ⟨f0, f1, f2⟩ := hS
       go_simp
       try with_reducible rfl
      refine AnyJ.takeD (i := 3) (d := some 39) (v := ?_) rfl (by kernel_rfl) (by kernel_rfl) (by kernel_rfl) (by kernel_rfl) (by kernel_rfl) (fun _ _ _ h => h) (Or.inl ⟨by kernel_rfl, ?_⟩) hS ?_
      rotate_left
      ·
       intro w' hS
       obtain ⟨f0, f1, f2⟩ := hS
       go_simp
       try with_reducible rfl
      refine AnyJ.takeD (i := 4) (d := some 40) (v := ?_) rfl (by kernel_rfl) (by kernel_rfl) (by kernel_rfl) (by kernel_rfl) (by kernel_rfl) (fun _ _ _ h => h) (Or.inl ⟨by kernel_rfl, ?_⟩) hS ?_
      rotate_left
      ·
       intro w' hS
       obtain ⟨f0, f1, f2⟩ := hS
       go_simp
       try with_reducible rfl
      refine AnyJ.takeD (i := 5) (d := some 41) (v := ?_) rfl (by kernel_rfl) (by kernel_rfl) (by kernel_rfl) (by kernel_rfl) (by kernel_rfl) (fun _ _ _ h => h) (Or.inl ⟨by kernel_rfl, ?_⟩) hS ?_
      rotate_left
      ·
       intro w' hS
       obtain ⟨f0, f1, f2⟩ := hS
       go_simp
       try with_reducible rfl
      refine AnyJ.takeD (i := 6) (d := some 42) (v := ?_) rfl (by kernel_rfl) (by kernel_rfl) (by kernel_rfl) (by kernel_rfl) (by kernel_rfl) (fun _ _ _ h => h) (Or.inl ⟨by kernel_rfl, ?_⟩) hS ?_
      rotate_left
      ·
       intro w' hS
       obtain ⟨f0, f1, f2⟩ := hS
       go_simp
       try with_reducible rfl
      refine AnyJ.takeD (i := 7) (d := some 6) (v := ?_) rfl (by kernel_rfl) (by kernel_rfl) (by kernel_rfl) (by kernel_rfl) (by kernel_rfl) (fun _ _ _ h => h) (Or.inl ⟨by kernel_rfl, ?_⟩) hS ?_
      rotate_left
      ·
       intro w' hS
       obtain ⟨f0, f1, f2⟩ := hS
       go_simp
       try with_reducible rfl
      refine AnyJ.takeD (i := 8) (d := some 43) (v := ?_) rfl (by kernel_rfl) (by kernel_rfl) (by kernel_rfl) (by kernel_rfl) (by kernel_rfl) (fun _ _ _ h => h) (Or.inl ⟨by kernel_rfl, ?_⟩) hS ?_
      rotate_left
      ·
       intro w' hS
       obtain ⟨f0, f1, f2⟩ := hS
       go_simp
       try with_reducible rfl
      clear hS
      refine AnyJ.one (i := 9) (by kernel_rfl) rfl (fun Kz hKz => ?_)
      go_simp
      refine hKz _ _ (fun h => by simp at h) ?_
      clear hKz Kz
      refine AnyJ.done (by kernel_rfl) ?_ _
      try simp only [Act.put, List.setIfInBounds_toArray, List.set_cons_zero, List.set_cons_succ]
      have hg3n : ¬ g3 = w4.heap.size := by omega
      have hO7 : OwnG trE 87 (W3.drew.setCell ⟨w4.heap.size, 0, none⟩ (.bool (decide (0 < d)))) W.heap.size (.slice (some ⟨g3, 0, none⟩) N cp3) (allE la lb) := HO6.out.ch (o := fun k => k = w4.heap.size) (Ch.setCell (o := fun k => k = w4.heap.size) (Ch.drew (Ch.refl _ W3)) (p := ⟨w4.heap.size, 0, none⟩) rfl _) (fun g e h => hg3n (by cases e; exact h))
      have hJ7 := HJA.out _ _ _ HJ6.out (show Below W.heap.size W3 (W3.drew.setCell ⟨w4.heap.size, 0, none⟩ (.bool (decide (0 < d)))) from ((Below.refl _ _).drew).setCell (by show W.heap.size ≤ w4.heap.size; exact hs4) _) (KeepT.of_ch (Ch.setCell (o := fun k => k = w4.heap.size) (Ch.drew (Ch.refl _ W3)) (p := ⟨w4.heap.size, 0, none⟩) rfl _) (fun k cs fr hk e => by subst hk; have h := HQ6.out; unfold RowT at h; rw [h] at e; simp at e))
      have hQ7 : RowT (W3.drew.setCell ⟨w4.heap.size, 0, none⟩ (.bool (decide (0 < d)))) w4.heap.size 130 [.bool (stepP t (x, 0, d)).i0, .bool (stepP t (x, 0, d)).i1] := RowT.set (w := W3.drew) HQ6.out 0 (.bool (decide (0 < d)))
      have hP7 : pP (allE la lb) (k + 1) = stepP t (x, 0, d) := by rw [HST.out, hT.out]
      clear hb0 hb1 hb2 hq0 hq1 hqf0 hqf1
      gi_wp2_with fail
      refine ⟨⟨k + 1, stepP t (x, 0, d), by omega, by go_num, rfl, hP7, hO7, hQ7, hJ7, ?_⟩, ?_⟩
      ·
       show _ < _
       simp [World.setCell]
       exact hs6
      ·
       simp [intOf]; omega
     ·
      have H3 := Lib.hid hJx3
      clear hb0 hb1 hb2 hq0 hq1 hJx3
      gi_wp2_with fail
      refine bodyPost_ret (results_none rfl _ _ _) rfl ?_
      exact ⟨⟨_, rfl⟩, .inr ⟨_, HPF.out, H3.out⟩⟩
    ·
     have HJ6 : Hid (J (stepP t (x, 0, d)).pcs w6) := by
      show J _ _
      rw [show (stepP t (x, 0, d)).pcs = t.pcs by unfold stepP; simp only; rw [if_neg hxa]]
      exact HJ5.out
     have hb0 := HB6.out.row.cell 0 rfl
     have hb1 := HB6.out.row.cell 1 rfl
     have hb2 := HB6.out.row.cell 2 rfl
     have hs6 := hs5
     gi_wp2_with fail
     refine ⟨fun _ h => (by cases h), ?_⟩
     clear hb0 hb1 hb2
     have hb0 := HB6.out.row.cell 0 rfl
     have hb1 := HB6.out.row.cell 1 rfl
     have hb2 := HB6.out.row.cell 2 rfl
     have hq0 := HQ6.out.row.cell 0 rfl
     have hq1 := HQ6.out.row.cell 1 rfl
     have hqf0 := HQ6.out.row.frozen 0
     have hqf1 := HQ6.out.row.frozen 1
     gi_wp2_with fail
     refine wpIn_wide.2 ?_
     refine AnyJ.beginP (fun w' : World => w'.cell? ⟨bx, 0, none⟩ = some (.int .i64 x) ∧ w'.cell? ⟨bx, 1, none⟩ = some (.int .i64 0) ∧ w'.cell? ⟨bx, 2, none⟩ = some (.int .i64 d)) (fun j => decide (j ≤ 8)) (by kernel_rfl) ⟨hb0, hb1, hb2⟩ (fun hS => ?_)
     refine AnyJ.takeD (i := 0) (d := some 36) (v := ?_) rfl (by kernel_rfl) (by kernel_rfl) (by kernel_rfl) (by kernel_rfl) (by kernel_rfl) (fun _ _ _ h => h) (Or.inl ⟨by kernel_rfl, ?_⟩) hS ?_
     rotate_left
     ·
      intro w' hS
      obtain ⟨f0, f1, f2⟩ := hS
      go_simp
      try with_reducible rfl
     refine AnyJ.takeD (i := 1) (d := some 37) (v := ?_) rfl (by kernel_rfl) (by kernel_rfl) (by kernel_rfl) (by kernel_rfl) (by kernel_rfl) (fun _ _ _ h => h) (Or.inl ⟨by kernel_rfl, ?_⟩) hS ?_
     rotate_left
     ·
      intro w' hS
      obtain ⟨f0, f1, f2⟩ := hS
      go_simp
      try with_reducible rfl
     refine AnyJ.takeD (i := 2) (d := some 38) (v := ?_) rfl (by kernel_rfl) (by kernel_rfl) (by kernel_rfl) (by kernel_rfl) (by kernel_rfl) (fun _ _ _ h => h) (Or.inl ⟨by kernel_rfl, ?_⟩) hS ?_
     rotate_left
     ·
      intro w' hS
      obtain ⟨f0, f1, f2⟩ := hS
      go_simp
      try with_reducible rfl
     refine AnyJ.takeD (i := 3) (d := some 39) (v := ?_) rfl (by kernel_rfl) (by kernel_rfl) (by kernel_rfl) (by kernel_rfl) (by kernel_rfl) (fun _ _ _ h => h) (Or.inl ⟨by kernel_rfl, ?_⟩) hS ?_
     rotate_left
     ·
      intro w' hS
      obtain ⟨f0, f1, f2⟩ := hS
      go_simp
      try with_reducible rfl
     refine AnyJ.takeD (i := 4) (d := some 40) (v := ?_) rfl (by kernel_rfl) (by kernel_rfl) (by kernel_rfl) (by kernel_rfl) (by kernel_rfl) (fun _ _ _ h => h) (Or.inl ⟨by kernel_rfl, ?_⟩) hS ?_
     rotate_left
     ·
      intro w' hS
      obtain ⟨f0, f1, f2⟩ := hS
      go_simp
      try with_reducible rfl
     refine AnyJ.takeD (i := 5) (d := some 41) (v := ?_) rfl (by kernel_rfl) (by kernel_rfl) (by kernel_rfl) (by kernel_rfl) (by kernel_rfl) (fun _ _ _ h => h) (Or.inl ⟨by kernel_rfl, ?_⟩) hS ?_
     rotate_left
     ·
      intro w' hS
      obtain ⟨f0, f1, f2⟩ := hS
      go_simp
      try with_reducible rfl
     refine AnyJ.takeD (i := 6) (d := some 42) (v := ?_) rfl (by kernel_rfl) (by kernel_rfl) (by kernel_rfl) (by kernel_rfl) (by kernel_rfl) (fun _ _ _ h => h) (Or.inl ⟨by kernel_rfl, ?_⟩) hS ?_
     rotate_left
     ·
      intro w' hS
      obtain ⟨f0, f1, f2⟩ := hS
      go_simp
      try with_reducible rfl
     refine AnyJ.takeD (i := 7) (d := some 6) (v := ?_) rfl (by kernel_rfl) (by kernel_rfl) (by kernel_rfl) (by kernel_rfl) (by kernel_rfl) (fun _ _ _ h => h) (Or.inl ⟨by kernel_rfl, ?_⟩) hS ?_
     rotate_left
     ·
      intro w' hS
      obtain ⟨f0, f1, f2⟩ := hS
      go_simp
      try with_reducible rfl
     refine AnyJ.takeD (i := 8) (d := some 43) (v := ?_) rfl (by kernel_rfl) (by kernel_rfl) (by kernel_rfl) (by kernel_rfl) (by kernel_rfl) (fun _ _ _ h => h) (Or.inl ⟨by kernel_rfl, ?_⟩) hS ?_
     rotate_left
     ·
      intro w' hS
      obtain ⟨f0, f1, f2⟩ := hS
      go_simp
      try with_reducible rfl
     clear hS
     refine AnyJ.one (i := 9) (by kernel_rfl) rfl (fun Kz hKz => ?_)
     go_simp
     refine hKz _ _ (fun h => by simp at h) ?_
     clear hKz Kz
     refine AnyJ.done (by kernel_rfl) ?_ _
     try simp only [Act.put, List.setIfInBounds_toArray, List.set_cons_zero, List.set_cons_succ]
     have hg3n : ¬ g3 = w4.heap.size := by omega
     have hO7 : OwnG trE 87 (w6.drew.setCell ⟨w4.heap.size, 0, none⟩ (.bool (decide (0 < d)))) W.heap.size (.slice (some ⟨g3, 0, none⟩) N cp3) (allE la lb) := HO6.out.ch (o := fun k => k = w4.heap.size) (Ch.setCell (o := fun k => k = w4.heap.size) (Ch.drew (Ch.refl _ w6)) (p := ⟨w4.heap.size, 0, none⟩) rfl _) (fun g e h => hg3n (by cases e; exact h))
     have hJ7 := HJA.out _ _ _ HJ6.out (show Below W.heap.size w6 (w6.drew.setCell ⟨w4.heap.size, 0, none⟩ (.bool (decide (0 < d)))) from ((Below.refl _ _).drew).setCell (by show W.heap.size ≤ w4.heap.size; exact hs4) _) (KeepT.of_ch (Ch.setCell (o := fun k => k = w4.heap.size) (Ch.drew (Ch.refl _ w6)) (p := ⟨w4.heap.size, 0, none⟩) rfl _) (fun k cs fr hk e => by subst hk; have h := HQ6.out; unfold RowT at h; rw [h] at e; simp at e))
     have hQ7 : RowT (w6.drew.setCell ⟨w4.heap.size, 0, none⟩ (.bool (decide (0 < d)))) w4.heap.size 130 [.bool (stepP t (x, 0, d)).i0, .bool (stepP t (x, 0, d)).i1] := RowT.set (w := w6.drew) HQ6.out 0 (.bool (decide (0 < d)))
     have hP7 : pP (allE la lb) (k + 1) = stepP t (x, 0, d) := by rw [HST.out, hT.out]
     clear hb0 hb1 hb2 hq0 hq1 hqf0 hqf1
     gi_wp2_with fail
     refine ⟨⟨k + 1, stepP t (x, 0, d), by omega, by go_num, rfl, hP7, hO7, hQ7, hJ7, ?_⟩, ?_⟩
     ·
      show _ < _
      simp [World.setCell]
      exact hs6
     ·
      simp [intOf]; omega
   ·
    by_cases hxa : t.at' < x
    ·
     have hpe : (stepP t (x, 1, d)).pcs = t.pcs ++ [(t.at', x, t.i0, t.i1)] := by unfold stepP; simp only; rw [if_pos hxa]
     have hpf : t.pcs ++ [(t.at', x, t.i0, t.i1)] <+: pcL la lb := by
      rw [← hpe]
      have := HPX.out
      rw [HST.out, hT.out] at this
      unfold pcL
      rw [HLN.out]
      exact this
     have hlen : t.pcs.length < 4000 := by have := HPL.out; rw [hT.out] at this; omega
     obtain ⟨fn, tmps, assign, body, hy, hR⟩ := HY.out t.pcs (t.at', x, t.i0, t.i1) w6 HJ5.out hpf hlen
     dsimp only [encP] at hy
     have HPE := Lib.hid hpe
     have HPF := Lib.hid hpf
     clear hpe hpf hlen
     have hb0 := HB6.out.row.cell 0 rfl
     have hb1 := HB6.out.row.cell 1 rfl
     have hb2 := HB6.out.row.cell 2 rfl
     have hq0 := HQ6.out.row.cell 0 rfl
     have hq1 := HQ6.out.row.cell 1 rfl
     gi_wp2_with fail
     refine hR.mono ?_
     have n1 := HO.out w6 bx _ _ _ HB6.out (by omega) (Or.inl rfl)
     have n2 := HO.out w6 w4.heap.size _ _ _ HQ6.out (by omega) (Or.inr rfl)
     have n3 := fun g cs fr (e : (Value.slice (some ⟨g3, 0, none⟩) N cp3).ownBlock = some g) (h : w6.heap[g]? = some (.cells cs 87 fr)) => HO.out w6 g _ _ _ h (by cases e; omega) (Or.inl rfl)
     rintro e W3 (⟨rfl, hJ3, hk3⟩ | ⟨rfl, hJx3⟩)
     ·
      rw [← HPE.out] at hJ3
      have HBN := Lib.hid (HB6.out.keepsO hk3 n1)
      have HQN := Lib.hid (HQ6.out.keepsO hk3 n2)
      have HON := Lib.hid (HO6.out.keepsO hk3 n3)
      have HJ6 := Lib.hid hJ3
      have hs6 : w4.heap.size < W3.heap.size := Nat.lt_of_lt_of_le hs5 hk3.1
      clear hb0 hb1 hb2 hq0 hq1 hJ3 hk3 n1 n2 n3 hy hR HB6 HQ6 HO6 HJ5 hs5
      have HB6 := HBN
      have HQ6 := HQN
      have HO6 := HON
      clear HBN HQN HON
      have hb0 := HB6.out.row.cell 0 rfl
      have hb1 := HB6.out.row.cell 1 rfl
      have hb2 := HB6.out.row.cell 2 rfl
      have hq0 := HQ6.out.row.cell 0 rfl
      have hq1 := HQ6.out.row.cell 1 rfl
      have hqf0 := HQ6.out.row.frozen 0
      have hqf1 := HQ6.out.row.frozen 1
      gi_wp2_with fail
      refine wpIn_wide.2 ?_
      refine AnyJ.beginP (fun w' : World => w'.cell? ⟨bx, 0, none⟩ = some (.int .i64 x) ∧ w'.cell? ⟨bx, 1, none⟩ = some (.int .i64 1) ∧ w'.cell? ⟨bx, 2, none⟩ = some (.int .i64 d)) (fun j => decide (j ≤ 8)) (by kernel_rfl) ⟨hb0, hb1, hb2⟩ (fun hS => ?_)
      refine AnyJ.takeD (i := 0) (d := some 36) (v := ?_) rfl (by kernel_rfl) (by kernel_rfl) (by kernel_rfl) (by kernel_rfl) (by kernel_rfl) (fun _ _ _ h => h) (Or.inl ⟨by kernel_rfl, ?_⟩) hS ?_
      rotate_left
      ·
       intro w' hS
       obtain ⟨f0, f1, f2⟩ := hS
       go_simp
       try with_reducible rfl
      refine AnyJ.takeD (i := 1) (d := some 37) (v := ?_) rfl (by kernel_rfl) (by kernel_rfl) (by kernel_rfl) (by kernel_rfl) (by kernel_rfl) (fun _ _ _ h => h) (Or.inl ⟨by kernel_rfl, ?_⟩) hS ?_
      rotate_left
      ·
       intro w' hS
       obtain ⟨f0, f1, f2⟩ := hS
       go_simp
       try with_reducible rfl
      refine AnyJ.takeD (i := 2) (d := some 38) (v := ?_) rfl (by kernel_rfl) (by kernel_rfl) (by kernel_rfl) (by kernel_rfl) (by kernel_rfl) (fun _ _ _ h => h) (Or.inl ⟨by kernel_rfl, ?_⟩) hS ?_
      rotate_left
      ·
       intro w' hS
       obtain ⟨f0, f1, f2⟩ := hS
       go_simp
       try with_reducible rfl
      refine AnyJ.takeD (i := 3) (d := some 39) (v := ?_) rfl (by kernel_rfl) (by kernel_rfl) (by kernel_rfl) (by kernel_rfl) (by kernel_rfl) (fun _ _ _ h => h) (Or.inl ⟨by kernel_rfl, ?_⟩) hS ?_
      rotate_left
      ·
       intro w' hS
       obtain ⟨f0, f1, f2⟩ := hS
       go_simp
       try with_reducible rfl
      refine AnyJ.takeD (i := 4) (d := some 40) (v := ?_) rfl (by kernel_rfl) (by kernel_rfl) (by kernel_rfl) (by kernel_rfl) (by kernel_rfl) (fun _ _ _ h => h) (Or.inl ⟨by kernel_rfl, ?_⟩) hS ?_
      rotate_left
      ·
       intro w' hS
       obtain ⟨f0, f1, f2⟩ := hS
       go_simp
       try with_reducible rfl
      refine AnyJ.takeD (i := 5) (d := some 41) (v := ?_) rfl (by kernel_rfl) (by kernel_rfl) (by kernel_rfl) (by kernel_rfl) (by kernel_rfl) (fun _ _ _ h => h) (Or.inl ⟨by kernel_rfl, ?_⟩) hS ?_
      rotate_left
      ·
       intro w' hS
       obtain ⟨f0, f1, f2⟩ := hS
       go_simp
       try with_reducible rfl
      refine AnyJ.takeD (i := 6) (d := some 42) (v := ?_) rfl (by kernel_rfl) (by kernel_rfl) (by kernel_rfl) (by kernel_rfl) (by kernel_rfl) (fun _ _ _ h => h) (Or.inl ⟨by kernel_rfl, ?_⟩) hS ?_
      rotate_left
      ·
       intro w' hS
       obtain ⟨f0, f1, f2⟩ := hS
       go_simp
       try with_reducible rfl
      refine AnyJ.takeD (i := 7) (d := some 6) (v := ?_) rfl (by kernel_rfl) (by kernel_rfl) (by kernel_rfl) (by kernel_rfl) (by kernel_rfl) (fun _ _ _ h => h) (Or.inl ⟨by kernel_rfl, ?_⟩) hS ?_
      rotate_left
      ·
       intro w' hS
       obtain ⟨f0, f1, f2⟩ := hS
       go_simp
       try with_reducible rfl
      refine AnyJ.takeD (i := 8) (d := some 43) (v := ?_) rfl (by kernel_rfl) (by kernel_rfl) (by kernel_rfl) (by kernel_rfl) (by kernel_rfl) (fun _ _ _ h => h) (Or.inl ⟨by kernel_rfl, ?_⟩) hS ?_
      rotate_left
      ·
       intro w' hS
       obtain ⟨f0, f1, f2⟩ := hS
       go_simp
       try with_reducible rfl
      clear hS
      refine AnyJ.one (i := 9) (by kernel_rfl) rfl (fun Kz hKz => ?_)
      go_simp
      refine hKz _ _ (fun h => by simp at h) ?_
      clear hKz Kz
      refine AnyJ.done (by kernel_rfl) ?_ _
      try simp only [Act.put, List.setIfInBounds_toArray, List.set_cons_zero, List.set_cons_succ]
      have hg3n : ¬ g3 = w4.heap.size := by omega
      have hO7 : OwnG trE 87 (W3.drew.setCell ⟨w4.heap.size, 1, none⟩ (.bool (decide (0 < d)))) W.heap.size (.slice (some ⟨g3, 0, none⟩) N cp3) (allE la lb) := HO6.out.ch (o := fun k => k = w4.heap.size) (Ch.setCell (o := fun k => k = w4.heap.size) (Ch.drew (Ch.refl _ W3)) (p := ⟨w4.heap.size, 1, none⟩) rfl _) (fun g e h => hg3n (by cases e; exact h))
      have hJ7 := HJA.out _ _ _ HJ6.out (show Below W.heap.size W3 (W3.drew.setCell ⟨w4.heap.size, 1, none⟩ (.bool (decide (0 < d)))) from ((Below.refl _ _).drew).setCell (by show W.heap.size ≤ w4.heap.size; exact hs4) _) (KeepT.of_ch (Ch.setCell (o := fun k => k = w4.heap.size) (Ch.drew (Ch.refl _ W3)) (p := ⟨w4.heap.size, 1, none⟩) rfl _) (fun k cs fr hk e => by subst hk; have h := HQ6.out; unfold RowT at h; rw [h] at e; simp at e))
      have hQ7 : RowT (W3.drew.setCell ⟨w4.heap.size, 1, none⟩ (.bool (decide (0 < d)))) w4.heap.size 130 [.bool (stepP t (x, 1, d)).i0, .bool (stepP t (x, 1, d)).i1] := RowT.set (w := W3.drew) HQ6.out 1 (.bool (decide (0 < d)))
      have hP7 : pP (allE la lb) (k + 1) = stepP t (x, 1, d) := by rw [HST.out, hT.out]
      clear hb0 hb1 hb2 hq0 hq1 hqf0 hqf1
      gi_wp2_with fail
      refine ⟨⟨k + 1, stepP t (x, 1, d), by omega, by go_num, rfl, hP7, hO7, hQ7, hJ7, ?_⟩, ?_⟩
      ·
       show _ < _
       simp [World.setCell]
       exact hs6
      ·
       simp [intOf]; omega
     ·
      have H3 := Lib.hid hJx3
      clear hb0 hb1 hb2 hq0 hq1 hJx3
      gi_wp2_with fail
      refine bodyPost_ret (results_none rfl _ _ _) rfl ?_
      exact ⟨⟨_, rfl⟩, .inr ⟨_, HPF.out, H3.out⟩⟩
    ·
     have HJ6 : Hid (J (stepP t (x, 1, d)).pcs w6) := by
      show J _ _
      rw [show (stepP t (x, 1, d)).pcs = t.pcs by unfold stepP; simp only; rw [if_neg hxa]]
      exact HJ5.out
     have hb0 := HB6.out.row.cell 0 rfl
     have hb1 := HB6.out.row.cell 1 rfl
     have hb2 := HB6.out.row.cell 2 rfl
     have hs6 := hs5
     gi_wp2_with fail
     refine ⟨fun _ h => (by cases h), ?_⟩
     clear hb0 hb1 hb2
     have hb0 := HB6.out.row.cell 0 rfl
     have hb1 := HB6.out.row.cell 1 rfl
     have hb2 := HB6.out.row.cell 2 rfl
     have hq0 := HQ6.out.row.cell 0 rfl
     have hq1 := HQ6.out.row.cell 1 rfl
     have hqf0 := HQ6.out.row.frozen 0
     have hqf1 := HQ6.out.row.frozen 1
     gi_wp2_with fail
     refine wpIn_wide.2 ?_
     refine AnyJ.beginP (fun w' : World => w'.cell? ⟨bx, 0, none⟩ = some (.int .i64 x) ∧ w'.cell? ⟨bx, 1, none⟩ = some (.int .i64 1) ∧ w'.cell? ⟨bx, 2, none⟩ = some (.int .i64 d)) (fun j => decide (j ≤ 8)) (by kernel_rfl) ⟨hb0, hb1, hb2⟩ (fun hS => ?_)
     refine AnyJ.takeD (i := 0) (d := some 36) (v := ?_) rfl (by kernel_rfl) (by kernel_rfl) (by kernel_rfl) (by kernel_rfl) (by kernel_rfl) (fun _ _ _ h => h) (Or.inl ⟨by kernel_rfl, ?_⟩) hS ?_
     rotate_left
     ·
      intro w' hS
      obtain ⟨f0, f1, f2⟩ := hS
      go_simp
      try with_reducible rfl
     refine AnyJ.takeD (i := 1) (d := some 37) (v := ?_) rfl (by kernel_rfl) (by kernel_rfl) (by kernel_rfl) (by kernel_rfl) (by kernel_rfl) (fun _ _ _ h => h) (Or.inl ⟨by kernel_rfl, ?_⟩) hS ?_
     rotate_left
     ·
      intro w' hS
      obtain ⟨f0, f1, f2⟩ := hS
      go_simp
      try with_reducible rfl
     refine AnyJ.takeD (i := 2) (d := some 38) (v := ?_) rfl (by kernel_rfl) (by kernel_rfl) (by kernel_rfl) (by kernel_rfl) (by kernel_rfl) (fun _ _ _ h => h) (Or.inl ⟨by kernel_rfl, ?_⟩) hS ?_
     rotate_left
     ·
      intro w' hS
      obtain ⟨f0, f1, f2⟩ := hS
      go_simp
      try with_reducible rfl
     refine AnyJ.takeD (i := 3) (d := some 39) (v := ?_) rfl (by kernel_rfl) (by kernel_rfl) (by kernel_rfl) (by kernel_rfl) (by kernel_rfl) (fun _ _ _ h => h) (Or.inl ⟨by kernel_rfl, ?_⟩) hS ?_
     rotate_left
     ·
      intro w' hS
      obtain ⟨f0, f1, f2⟩ := hS
      go_simp
      try with_reducible rfl
     refine AnyJ.takeD (i := 4) (d := some 40) (v := ?_) rfl (by kernel_rfl) (by kernel_rfl) (by kernel_rfl) (by kernel_rfl) (by kernel_rfl) (fun _ _ _ h => h) (Or.inl ⟨by kernel_rfl, ?_⟩) hS ?_
     rotate_left
     ·
      intro w' hS
      obtain ⟨f0, f1, f2⟩ := hS
      go_simp
      try with_reducible rfl
     refine AnyJ.takeD (i := 5) (d := some 41) (v := ?_) rfl (by kernel_rfl) (by kernel_rfl) (by kernel_rfl) (by kernel_rfl) (by kernel_rfl) (fun _ _ _ h => h) (Or.inl ⟨by kernel_rfl, ?_⟩) hS ?_
     rotate_left
     ·
      intro w' hS
      obtain ⟨f0, f1, f2⟩ := hS
      go_simp
      try with_reducible rfl
     refine AnyJ.takeD (i := 6) (d := some 42) (v := ?_) rfl (by kernel_rfl) (by kernel_rfl) (by kernel_rfl) (by kernel_rfl) (by kernel_rfl) (fun _ _ _ h => h) (Or.inl ⟨by kernel_rfl, ?_⟩) hS ?_
     rotate_left
     ·
      intro w' hS
      obtain ⟨f0, f1, f2⟩ := hS
      go_simp
      try with_reducible rfl
     refine AnyJ.takeD (i := 7) (d := some 6) (v := ?_) rfl (by kernel_rfl) (by kernel_rfl) (by kernel_rfl) (by kernel_rfl) (by kernel_rfl) (fun _ _ _ h => h) (Or.inl ⟨by kernel_rfl, ?_⟩) hS ?_
     rotate_left
     ·
      intro w' hS
      obtain ⟨f0, f1, f2⟩ := hS
      go_simp
      try with_reducible rfl
     refine AnyJ.takeD (i := 8) (d := some 43) (v := ?_) rfl (by kernel_rfl) (by kernel_rfl) (by kernel_rfl) (by kernel_rfl) (by kernel_rfl) (fun _ _ _ h => h) (Or.inl ⟨by kernel_rfl, ?_⟩) hS ?_
     rotate_left
     ·
      intro w' hS
      obtain ⟨f0, f1, f2⟩ := hS
      go_simp
      try with_reducible rfl
     clear hS
     refine AnyJ.one (i := 9) (by kernel_rfl) rfl (fun Kz hKz => ?_)
     go_simp
     refine hKz _ _ (fun h => by simp at h) ?_
     clear hKz Kz
     refine AnyJ.done (by kernel_rfl) ?_ _
     try simp only [Act.put, List.setIfInBounds_toArray, List.set_cons_zero, List.set_cons_succ]
     have hg3n : ¬ g3 = w4.heap.size := by omega
     have hO7 : OwnG trE 87 (w6.drew.setCell ⟨w4.heap.size, 1, none⟩ (.bool (decide (0 < d)))) W.heap.size (.slice (some ⟨g3, 0, none⟩) N cp3) (allE la lb) := HO6.out.ch (o := fun k => k = w4.heap.size) (Ch.setCell (o := fun k => k = w4.heap.size) (Ch.drew (Ch.refl _ w6)) (p := ⟨w4.heap.size, 1, none⟩) rfl _) (fun g e h => hg3n (by cases e; exact h))
     have hJ7 := HJA.out _ _ _ HJ6.out (show Below W.heap.size w6 (w6.drew.setCell ⟨w4.heap.size, 1, none⟩ (.bool (decide (0 < d)))) from ((Below.refl _ _).drew).setCell (by show W.heap.size ≤ w4.heap.size; exact hs4) _) (KeepT.of_ch (Ch.setCell (o := fun k => k = w4.heap.size) (Ch.drew (Ch.refl _ w6)) (p := ⟨w4.heap.size, 1, none⟩) rfl _) (fun k cs fr hk e => by subst hk; have h := HQ6.out; unfold RowT at h; rw [h] at e; simp at e))
     have hQ7 : RowT (w6.drew.setCell ⟨w4.heap.size, 1, none⟩ (.bool (decide (0 < d)))) w4.heap.size 130 [.bool (stepP t (x, 1, d)).i0, .bool (stepP t (x, 1, d)).i1] := RowT.set (w := w6.drew) HQ6.out 1 (.bool (decide (0 < d)))
     have hP7 : pP (allE la lb) (k + 1) = stepP t (x, 1, d) := by rw [HST.out, hT.out]
     clear hb0 hb1 hb2 hq0 hq1 hqf0 hqf1
     gi_wp2_with fail
     refine ⟨⟨k + 1, stepP t (x, 1, d), by omega, by go_num, rfl, hP7, hO7, hQ7, hJ7, ?_⟩, ?_⟩
     ·
      show _ < _
      simp [World.setCell]
      exact hs6
     ·
      simp [intOf]; omega
  ·
   obtain rfl : k = N := by omega
   gi_wp2_with fail
   go_end0
   refine ⟨⟨_, rfl⟩, .inl ⟨_, rfl, ?_⟩⟩
   unfold pcL
   rw [HLN.out, hT.out]
   exact hJr.out
end Go.Proofs.YtlmajlfhjbhdpaaGreat
