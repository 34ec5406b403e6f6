/-
  Package colour's heights: the iterator's contract.
-/
import Derived.Test.YtbafhmlmibjgpaaColF
import Derived.Test.YtbafhmlmibjgpaaRngB
import Derived.Test.YtbafhmlmibjgpaaCh
import Derived.BigQuiet
namespace Go.Proofs.Ytbafhmlmibjgpaa
set_option linter.unusedSimpArgs false
set_option linter.unusedVariables false
open Go.RowKit Go.Shelf

attribute [local go_sem] Oper.semAt_some

abbrev encH (p : Int × Int) : Array Value := #[.int .i64 p.1, .int .i64 p.2]
/-- What lies between two rounds: where the open spans end; what was told. -/
def htS (l : List SpV) (E : List Int) (i : Int) : List Int := E.filter (beyP (frP l i)) ++ [unP l i]
def htE (l : List SpV) (k : Nat) : List Int := ((ordL l).take k).foldl (htS l) []
def htN (l : List SpV) (k : Nat) : Bool := decide (k + 1 < l.length) && (frP l ((ordL l).getD (k + 1) 0) == frP l ((ordL l).getD k 0))
def htX (l : List SpV) (k : Nat) : Int × Int := (frP l ((ordL l).getD k 0), ((htE l (k + 1)).length : Int))
def htY (l : List SpV) : Nat → List (Int × Int)
  | 0 => []
  | k + 1 => htY l k ++ (if htN l k then [] else [htX l k])
theorem htE_succ {l : List SpV} {k : Nat} (hk : k < l.length) : htE l (k + 1) = htS l (htE l k) ((ordL l).getD k 0) := by
  have h : k < (ordL l).length := by rw [ordL_length]; exact hk
  unfold htE
  rw [List.take_succ_eq_append_getElem h, List.foldl_append]
  simp [List.getD, h]
theorem htE_length (l : List SpV) : ∀ k, k ≤ l.length → (htE l k).length ≤ k
  | 0, _ => by simp [htE]
  | k + 1, hk => by
    have ih := htE_length l k (by omega)
    rw [htE_succ (by omega)]
    unfold htS
    simp only [List.length_append, List.length_singleton]
    have := List.length_filter_le (beyP (frP l ((ordL l).getD k 0))) (htE l k)
    omega
theorem htY_prefix (l : List SpV) (k j : Nat) : htY l k <+: htY l (k + j) := by
  induction j with
  | zero => exact List.prefix_refl _
  | succ j ih => exact ih.trans (List.prefix_append _ _)
theorem htY_length (l : List SpV) : ∀ k, (htY l k).length ≤ k
  | 0 => by simp [htY]
  | k + 1 => by
    have := htY_length l k
    unfold htY
    split <;> simp <;> omega

theorem OwnV.ownB {w : World} {base n cap g : Nat} {ae : Option Addr} {zs : List Int} (h : OwnV w base (.slice ae n cap) zs) (e : some g = (Value.slice ae n cap).ownBlock) : ae = some ⟨g, 0, none⟩ := by
  rcases h.shape.2 with ⟨rfl, _⟩ | ⟨g', rfl, _, _⟩
  · simp [Value.ownBlock] at e
  · simp [Value.ownBlock] at e; rw [e]
theorem OwnV.keepsO {own : World → Nat → Prop} {A B : World} {base : Nat} {v : Value} {zs : List Int} (h : OwnV A base v zs) (k : KeepsO own A B) (hn : ∀ g, base ≤ g → ¬ own A g) : OwnV B base v zs := by
  refine ⟨h.1, ?_⟩
  rcases h.2 with h2 | ⟨g, cap, cur, rfl, e2, e3, e4⟩
  · exact Or.inl h2
  · exact Or.inr ⟨g, cap, cur, rfl, e2, (k.2.1 g _ _ _ e3 (hn g e2)).trans e3, e4⟩
theorem OwnI.keepsO {own : World → Nat → Prop} {A B : World} {b : Nat} {zs : List Int} (h : OwnI A b zs) (k : KeepsO own A B) (hn : ¬ own A b) : OwnI B b zs := by
  obtain ⟨r, h⟩ := h
  exact ⟨r, Row.keepsO h k hn⟩
theorem SlP.keepsO {own : World → Nat → Prop} {A B : World} {a : Option Addr} {n : Nat} {l : List SpV} (h : SlP A a n l) (k : KeepsO own A B) (hn : ∀ b o, a = some ⟨b, o, none⟩ → 0 < n → ¬ own A b) : SlP B a n l := by
  refine ⟨h.1, fun i x hx => ?_⟩
  obtain ⟨b, off, ha, h1, h2⟩ := h.2 i x hx
  have hi : i < n := by rw [← h.1]; exact (List.getElem?_eq_some_iff.1 hx).1
  have hb := hn b off ha (by omega)
  cases hbk : A.heap[b]? with
  | none => simp [World.cell?, hbk] at h1
  | some o =>
    cases o with
    | cells cs T fr =>
      have e := k.2.1 b cs T fr hbk hb
      exact ⟨b, off, ha, (World.cell?_of_block e).trans h1, (World.cell?_of_block e).trans h2⟩
    | _ => simp [World.cell?, hbk] at h1

theorem SlP.under {w w1 : World} {a : Option Addr} {n B : Nat} {l : List SpV} (h : SlP w a n l) (hb : Below B w w1) (ha : ∀ b o, a = some ⟨b, o, none⟩ → b < B) : SlP w1 a n l := by
  refine ⟨h.1, fun i x hx => ?_⟩
  obtain ⟨b, off, e, h1, h2⟩ := h.2 i x hx
  have hlt := ha b off e
  exact ⟨b, off, e, (hb.cell (p := ⟨b, off + i * 2, none⟩) hlt).trans h1, (hb.cell (p := ⟨b, off + i * 2 + 1, none⟩) hlt).trans h2⟩
set_option maxRecDepth 100000 in
set_option maxHeartbeats 6400000 in
theorem heights_stops (own : Nat → Prop) (m : Nat) (hm : 1 ≤ m) (B : Nat) (a : Option Addr) (n cap : Nat) (l : List SpV) (w : World) (hr : Row w B [.slice a n cap]) (hs : SlP w a n l) (hn : n ≤ 3000)
    (hown : ∀ k, own k → k < w.heap.size ∧ k ≠ B ∧ ∀ b o, a = some ⟨b, o, none⟩ → 0 < n → k ≠ b) :
    SeqB Fence.wide m Try.prog 37 #[.pointer (some ⟨B, 0, none⟩)] encH (KeepsO (fun _ => own)) (fun xs => xs = htY l n) (fun pre => pre <+: htY l n) n w := fun y J Jx W hW hJ hY h0 => by
  have hHS := hW.size
  have hBw := hr.lt
  have HRW := Lib.hid (hr.of_block (hW.block B hr.lt))
  have HSW := Lib.hid (hs.below hW)
  have HL := Lib.hid hs.1
  have HO : Hid (∀ k, own k → k < W.heap.size ∧ k ≠ B ∧ ∀ b o, a = some ⟨b, o, none⟩ → 0 < n → k ≠ b) := fun k hk => by
    have := hown k hk
    exact ⟨by omega, this.2⟩
  have HY := Lib.hid hY
  have HJA := Lib.hid hJ
  have H0 := Lib.hid h0
  have cW := HRW.out.cell 0 rfl
  clear hown hY hJ h0 hr hs hW
  refine callsIn_of_wp Try.func37 rfl trivial ?_ rfl
  simp only [Try.ntmps37, List.size_toArray, List.length_cons, List.length_nil, Nat.reduceAdd, Nat.reduceSub, Array.replicate_succ, Array.replicate_zero, List.push_toArray, List.append_toArray, List.nil_append, List.cons_append]
  gi_wp2_with fail
  refine ⟨trivial, ?_⟩
  refine (callsIn_wide.2 (order_any a n cap l _ (by omega) HSW.out)).mono ?_
  rintro e W1 ⟨gb, rfl, hgb, hOB, hb1⟩
  have hs1 := hb1.size
  have hgb1 := hOB.lt
  have HR1 := Lib.hid (HRW.out.step hb1)
  have HS1 := Lib.hid (HSW.out.step hb1)
  have HJ1 : Hid (J (htY l 0) W1) := HJA.out _ _ _ H0.out hb1
  have HOB1 := Lib.hid hOB
  clear hOB hb1 cW
  gi_wp2_with fail
  gi_loopw [3, 12] (fun ve i wr => ∃ (k : Nat) (v : Value), k ≤ n ∧ i = .int .i64 k ∧ v = ve ∧ Hid (OwnV wr W1.heap.size v (htE l k)) ∧ Hid (OwnI wr gb (ordL l)) ∧ Hid (Row wr B [.slice a n cap]) ∧ Hid (SlP wr a n l) ∧ Hid (J (htY l k) wr) ∧ Hid (W1.heap.size ≤ wr.heap.size)) (fun _ i _ => n - (intOf i).toNat)
  case atStart => exact ⟨0, .slice none 0 0, Nat.zero_le _, rfl, rfl, OwnV.nil _ _, HOB1.out, HR1.out, HS1.out, HJ1.out, Nat.le_refl _⟩
  case round =>
    obtain ⟨k, v, hk, rfl, rfl, hE1, hOB, hR, hS, hJ, hsz⟩ := hrel
    by_cases hlt : k < n
    · obtain ⟨E, hEd⟩ : ∃ E, htE l k = E := ⟨_, rfl⟩
      have hlen := htE_length l k (by have := HL.out; omega)
      rw [hEd] at hE1 hlen
      have hke : k < (ordL l).length := by rw [ordL_length, HL.out]; exact hlt
      obtain ⟨i, hi0⟩ := Int.eq_ofNat_of_zero_le (ordL_mem.1 (show (ordL l).getD k 0 ∈ ordL l by simp [List.getD, hke])).1
      have hin : i < n := by have := (ordL_mem.1 (show (ordL l).getD k 0 ∈ ordL l by simp [List.getD, hke])).2; have := HL.out; omega
      obtain ⟨fi, ui, bl, ol, hx, _, _, ha, hbl2, cf, cu⟩ := hS.out.get hin
      subst ha
      have HFR : Hid (frP l i = fi) := by show _ = _; unfold frP; rw [Int.toNat_natCast, hx.out]
      have HUN : Hid (unP l i = ui) := by show _ = _; unfold unP; rw [Int.toNat_natCast, hx.out]
      have HKS : Hid (htE l (k + 1) = E.filter (beyP fi) ++ [ui]) := by
        show _ = _
        rw [htE_succ (by have := HL.out; omega), hi0, hEd]
        unfold htS
        rw [HFR.out, HUN.out]
      have cby := hOB.out.cell hke
      rw [hi0] at cby
      obtain ⟨ae, ce, rfl, hE3⟩ := hE1.out.form2
      obtain ⟨me, hm1⟩ : ∃ m, E.length = m := ⟨_, rfl⟩
      rw [hm1] at hE3 hlen
      try rw [hm1] at hE1
      try rw [hm1]
      have cR := hR.out.cell 0 rfl
      have i1 : (0 : Int) ≤ (k : Int) := by omega
      have i2 : (k : Int) < (n : Int) := by omega
      have hii : (0 : Int) ≤ (i : Int) := by omega
      have hii2 : (i : Int) < (n : Int) := by omega
      have hq1 : W1.heap.size ≤ wr.heap.size := hsz.out
      have hbl3 : bl < W1.heap.size := by
        obtain ⟨_, _, b9, o9, _, _, _, e9, h9, _, _⟩ := HS1.out.get hin
        cases e9
        exact h9
      have HNQ : Hid (∀ g, ae = some ⟨g, 0, none⟩ → wr.heap.size ≠ g) := fun g e => by
        rcases hE3.shape.2 with ⟨h, _⟩ | ⟨g', h, _, h2⟩
        · rw [h] at e; cases e
        · rw [h] at e; cases e; omega
      have HE1 := Lib.hid hE3
      have HM1 := Lib.hid hm1
      clear hx hE3 hm1
      gi_wp2_with fail
      obtain ⟨w4, hw4⟩ : ∃ W, wr.alloc (.cells #[.int .i64 fi] 3) = W := ⟨_, rfl⟩
      have hb4 : Below wr.heap.size wr w4 := by rw [← hw4]; exact (Below.refl _ wr).alloc (Nat.le_refl _) _
      have cQ4 : w4.cell? ⟨wr.heap.size, 0, none⟩ = some (.int .i64 fi) := by rw [← hw4]; exact (Row.new' wr [_] _ rfl).cell 0 rfl
      have hs4 : w4.heap.size = wr.heap.size + 1 := by rw [← hw4]; simp
      rw [hw4]
      clear hw4
      obtain ⟨q, hq⟩ : ∃ q, wr.heap.size = q := ⟨_, rfl⟩
      have HE4 := Lib.hid (HE1.out.step hb4)
      have hB4 : Below W1.heap.size wr w4 := hb4.mono hq1
      rw [hq] at HNQ cQ4 hs4 hq1
      try rw [hq]
      have hS4 : w4.cell? ⟨B, 0, none⟩ = some (.slice (some ⟨bl, ol, none⟩) n cap) ∧ w4.cell? ⟨bl, ol + i * 2 + 1, none⟩ = some (.int .i64 ui) := ⟨(hB4.cell (p := ⟨B, 0, none⟩) (show B < W1.heap.size by omega)).trans cR, (hB4.cell (p := ⟨bl, ol + i * 2 + 1, none⟩) hbl3).trans cu⟩
      have HB4 := Lib.hid hB4
      have hHb : Hid (B < W1.heap.size ∧ bl < W1.heap.size) := ⟨by omega, hbl3⟩
      obtain ⟨F, hF⟩ : ∃ F, E.filter (beyP fi) = F := ⟨_, rfl⟩
      rw [hF] at HKS
      have hmr : wr.heap.size = q := hq
      clear hb4 hq cf cu cby cR hB4
      refine wpIn_wide.2 ?_
      refine AnyJ.beginP (fun w' : World => w'.cell? ⟨B, 0, none⟩ = some (.slice (some ⟨bl, ol, none⟩) n cap) ∧ w'.cell? ⟨bl, ol + i * 2 + 1, none⟩ = some (.int .i64 ui)) (fun j => decide (j ≤ 9)) (by kernel_rfl) hS4 (fun hS => ?_)
      refine AnyJ.takeD (i := 0) (d := some 22) (v := ?_) rfl (by kernel_rfl) (by kernel_rfl) (by kernel_rfl) (by kernel_rfl) (by kernel_rfl) (fun _ _ _ h => h) (Or.inl ⟨by kernel_rfl, ?_⟩) hS ?_
      rotate_left
      · intro w' hS
        obtain ⟨sF0, sF1⟩ := hS
        go_simp
        try with_reducible rfl
      refine AnyJ.takeD (i := 1) (d := some 23) (v := ?_) rfl (by kernel_rfl) (by kernel_rfl) (by kernel_rfl) (by kernel_rfl) (by kernel_rfl) (fun _ _ _ h => h) (Or.inl ⟨by kernel_rfl, ?_⟩) hS ?_
      rotate_left
      · intro w' hS
        obtain ⟨sF0, sF1⟩ := hS
        go_simp
        try with_reducible rfl
      refine AnyJ.takeD (i := 3) (d := some 25) (v := ?_) rfl (by kernel_rfl) (by kernel_rfl) (by kernel_rfl) (by kernel_rfl) (by kernel_rfl) (fun _ _ _ h => h) (Or.inl ⟨by kernel_rfl, ?_⟩) hS ?_
      rotate_left
      · intro w' hS
        obtain ⟨sF0, sF1⟩ := hS
        go_simp
        try with_reducible rfl
      refine AnyJ.takeD (i := 4) (d := some 26) (v := ?_) rfl (by kernel_rfl) (by kernel_rfl) (by kernel_rfl) (by kernel_rfl) (by kernel_rfl) (fun _ _ _ h => h) (Or.inl ⟨by kernel_rfl, ?_⟩) hS ?_
      rotate_left
      · intro w' hS
        obtain ⟨sF0, sF1⟩ := hS
        go_simp
        try with_reducible rfl
      refine AnyJ.takeD (i := 5) (d := some 27) (v := ?_) rfl (by kernel_rfl) (by kernel_rfl) (by kernel_rfl) (by kernel_rfl) (by kernel_rfl) (fun _ _ _ h => h) (Or.inl ⟨by kernel_rfl, ?_⟩) hS ?_
      rotate_left
      · intro w' hS
        obtain ⟨sF0, sF1⟩ := hS
        go_simp
        try with_reducible rfl
      refine AnyJ.takeD (i := 6) (d := some 28) (v := ?_) rfl (by kernel_rfl) (by kernel_rfl) (by kernel_rfl) (by kernel_rfl) (by kernel_rfl) (fun _ _ _ h => h) (Or.inl ⟨by kernel_rfl, ?_⟩) hS ?_
      rotate_left
      · intro w' hS
        obtain ⟨sF0, sF1⟩ := hS
        go_simp
        try with_reducible rfl
      refine AnyJ.takeD (i := 7) (d := some 29) (v := ?_) rfl (by kernel_rfl) (by kernel_rfl) (by kernel_rfl) (by kernel_rfl) (by kernel_rfl) (fun _ _ _ h => h) (Or.inl ⟨by kernel_rfl, ?_⟩) hS ?_
      rotate_left
      · intro w' hS
        obtain ⟨sF0, sF1⟩ := hS
        go_simp
        try with_reducible rfl
      clear hS
      have hS5 : ∀ v : World, Below W1.heap.size wr v → v.cell? ⟨B, 0, none⟩ = some (.slice (some ⟨bl, ol, none⟩) n cap) ∧ v.cell? ⟨bl, ol + i * 2 + 1, none⟩ = some (.int .i64 ui) := fun v hv => by
        have h1 := HB4.out
        exact ⟨((hv.cell (p := ⟨B, 0, none⟩) hHb.out.1).trans (h1.cell (p := ⟨B, 0, none⟩) hHb.out.1).symm).trans hS4.1, ((hv.cell (p := ⟨bl, ol + i * 2 + 1, none⟩) hHb.out.2).trans (h1.cell (p := ⟨bl, ol + i * 2 + 1, none⟩) hHb.out.2).symm).trans hS4.2⟩
      have HS5 := Lib.hid hS5
      clear hS4 hS5
      obtain ⟨wd, hwd⟩ : ∃ W, w4.drew = W := ⟨_, rfl⟩
      have HEd : Hid (OwnV wd W1.heap.size (.slice ae me ce) E) := by rw [← hwd]; exact HE4.out
      have cQd : wd.cell? ⟨q, 0, none⟩ = some (.int .i64 fi) := by rw [← hwd]; exact cQ4
      have HBd : Hid (Below W1.heap.size wr wd) := by rw [← hwd]; exact HB4.out.drew
      have hsd : wd.heap.size = q + 1 := by rw [← hwd]; exact hs4
      rw [hwd]
      clear hwd HE4 cQ4 HB4 hs4
      refine AnyJ.two (i := 2) (j := 8) (by kernel_rfl) rfl rfl (fun Kz hKz => ?_) (fun Kz hKz => ?_)
      · go_simp
        refine (delete_any W1.heap.size ae me ce E fi q _ (by omega) HEd.out HM1.out cQd HNQ.out).mono ?_
        rintro e w5 ⟨m', rfl, hFm, hD5, hg5⟩
        rw [hF] at hFm hD5
        have hB5 : Below W1.heap.size wr w5 := HBd.out.grown hg5 (by omega) (fun g hg => (HEd.out.lt hg).1)
        have cQ5 : w5.cell? ⟨q, 0, none⟩ = some (.int .i64 fi) := (World.cell?_of_block (hg5.block q (by omega) (fun e => HNQ.out q (HEd.out.ownB e) rfl))).trans cQd
        have HD5 := Lib.hid hD5
        have HB5 := Lib.hid hB5
        have HFm := Lib.hid hFm
        refine hKz _ _ (fun _ => HS5.out _ hB5) ?_
        clear hKz Kz hD5 hB5 hFm hg5 HEd cQd HBd
        refine AnyJ.one (i := 8) (by kernel_rfl) rfl (fun Kz hKz => ?_)
        go_simp
        obtain ⟨w6, hw6⟩ : ∃ W, w5.alloc (.cells #[.int .i64 ui] 3) = W := ⟨_, rfl⟩
        rw [hw6]
        have hb6 : Below w5.heap.size w5 w6 := by rw [← hw6]; exact (Below.refl _ w5).alloc (Nat.le_refl _) _
        have cs6 : w6.cell? ⟨w5.heap.size, 0, none⟩ = some (.int .i64 ui) := by rw [← hw6]; exact (Row.new' w5 [_] _ rfl).cell 0 rfl
        have hB6 : Below W1.heap.size wr w6 := HB5.out.trans (hb6.mono (by have := HB5.out.size; omega))
        have cQ6 : w6.cell? ⟨q, 0, none⟩ = some (.int .i64 fi) := (hb6.cell (p := ⟨q, 0, none⟩) (World.block_lt_of_cell? w5 _ cQ5)).trans cQ5
        have HD6 := Lib.hid (HD5.out.step hb6)
        have HB6 := Lib.hid hB6
        refine hKz _ _ (fun _ => HS5.out _ hB6) ?_
        clear hKz Kz hw6 hb6 hB6 HD5 HB5 cQ5 
        have hfl : F.length ≤ 3000 := by rw [← hF]; have := List.length_filter_le (beyP fi) E; have := HM1.out; omega
        refine AnyJ.one (i := 9) (by kernel_rfl) rfl (fun Kz hKz => ?_)
        refine step_app_int rfl (.tmp 24) (.tmp 30) 24 rfl Try.underlying24 W1.heap.size (.slice ae m' ce) F (by simp [Act.eval, Act.put]) HD6.out w5.heap.size 1 ui (by simp [Act.eval, Act.put]) cs6 (by omega) (by have := HB6.out.size; omega) ?_
        intro gg cp w7 hO7 hg7 _
        have hB7 : Below W1.heap.size wr w7 := HB6.out.grown hg7 (by have := HB6.out.size; omega) (fun g hg => (HD6.out.lt hg).1)
        have cQ7 : w7.cell? ⟨q, 0, none⟩ = some (.int .i64 fi) := (World.cell?_of_block (hg7.block q (World.block_lt_of_cell? w6 _ cQ6) (fun e => HNQ.out q (HD6.out.ownB e) rfl))).trans cQ6
        have HO7 := Lib.hid hO7
        have HB7 := Lib.hid hB7
        refine hKz _ _ (fun _ => HS5.out _ hB7) ?_
        clear hKz Kz hO7 hg7 hB7 cs6 cQ6 HD6 HB6
        refine AnyJ.one (i := 10) (by kernel_rfl) rfl (fun Kz hKz => ?_)
        go_simp
        refine hKz _ _ (fun h => by simp at h) ?_
        clear hKz Kz
        refine AnyJ.done (by kernel_rfl) ?_ _
        try simp only [Act.put, List.setIfInBounds_toArray, List.set_cons_zero, List.set_cons_succ]
        have hFl : Hid ((htE l (k + 1)).length = F.length + 1) := by show _ = _; rw [HKS.out]; simp
        have HO8 : Hid (OwnV w7 W1.heap.size (.slice (some ⟨gg, 0, none⟩) (F.length + 1) cp) (htE l (k + 1))) := by show OwnV _ _ _ _; rw [HKS.out]; exact HO7.out
        have HR7 : Hid (Row w7 B [.slice (some ⟨bl, ol, none⟩) n cap]) := hR.out.of_block (HB7.out.block B hHb.out.1)
        have HS7 : Hid (SlP w7 (some ⟨bl, ol, none⟩) n l) := SlP.under hS.out HB7.out (fun b o e => by cases e; exact hHb.out.2)
        have HOB7 : Hid (OwnI w7 gb (ordL l)) := hOB.out.of_block (HB7.out.block gb hgb1)
        have HJ7 : Hid (J (htY l k) w7) := HJA.out _ _ _ hJ.out (HB7.out.mono hs1)
        have hz7 : W1.heap.size ≤ w7.heap.size := by have := HB7.out.size; omega
        clear HO7 HB7 hJ hR hS hOB hE1
        have c1 := HR7.out.cell 0 rfl
        by_cases hk1 : k + 1 < n
        · have hke1 : k + 1 < (ordL l).length := by rw [ordL_length, HL.out]; exact hk1
          obtain ⟨j, hj0⟩ := Int.eq_ofNat_of_zero_le (ordL_mem.1 (show (ordL l).getD (k + 1) 0 ∈ ordL l by simp [List.getD, hke1])).1
          have hjn : j < n := by have := (ordL_mem.1 (show (ordL l).getD (k + 1) 0 ∈ ordL l by simp [List.getD, hke1])).2; have := HL.out; omega
          obtain ⟨fj, uj, bl', ol', hxj, _, _, haj, _, cfj, _⟩ := HS7.out.get hjn
          cases haj
          have HFJ : Hid (frP l j = fj) := by show _ = _; unfold frP; rw [Int.toNat_natCast, hxj.out]
          have cby := HOB7.out.cell hke1
          rw [hj0] at cby
          have d1 : decide ((k : Int) + 1 < (n : Int)) = true := by simp; omega
          have j1 : (0 : Int) ≤ (j : Int) := by omega
          have j2 : (j : Int) < (n : Int) := by omega
          by_cases hf : fj = fi
          · have d2 : (fj == fi) = true := by simpa using hf
            have hN : Hid (htY l (k + 1) = htY l k) := by
              show htY l k ++ _ = _
              have : htN l k = true := by
                unfold htN
                rw [hj0, hi0, HFJ.out, HFR.out, HL.out, d2]
                simp; omega
              rw [this]; simp
            clear hxj hj0 hi0 hf
            gi_wp2_with (refine wpIn_wide.2 ?_; go_quiet (fail))
            refine ⟨⟨k + 1, _, by omega, by go_num, rfl, HO8.out, HOB7.out, HR7.out, HS7.out, ?_, hz7⟩, ?_⟩
            · show J _ _
              rw [hN.out]
              exact HJA.out _ _ _ HJ7.out (by (repeat' (first | (with_reducible exact Below.refl _ _) | (with_reducible assumption) | (with_reducible exact Bw.out (by with_reducible assumption)) | (with_reducible refine bw_alloc ?_ _) | (with_reducible refine bw_step ?_ (by with_reducible assumption)) | (with_reducible refine Below.alloc ?_ ?_ _) | (with_reducible refine Below.drew ?_) | (with_reducible refine below_drewN ?_ _) | (with_reducible refine Below.setCell ?_ ?_ _) | (with_reducible refine below_step ?_ (by with_reducible assumption) ?_) | (with_reducible exact Nat.le_refl _) | omega | (simp; omega) | (simp; done))))
            · simp [intOf]; omega
          · have d2 : (fj == fi) = false := by simpa using hf
            have hN : Hid (htY l (k + 1) = htY l k ++ [(fi, (F.length : Int) + 1)]) := by
              show htY l k ++ _ = _
              have : htN l k = false := by
                unfold htN
                rw [hj0, hi0, HFJ.out, HFR.out, HL.out, d2]
                simp
              rw [this]
              unfold htX
              rw [hi0, HFR.out, hFl.out]
              rfl
            clear hxj hj0 hi0 hf
            gi_wp2_with (refine wpIn_wide.2 ?_; go_quiet (fail))
            obtain ⟨w8, hw8⟩ : ∃ W, w7.drewN nq = W := ⟨_, rfl⟩
            have hb8 : Below w7.heap.size w7 w8 := by rw [← hw8]; (repeat' (first | (with_reducible exact Below.refl _ _) | (with_reducible assumption) | (with_reducible exact Bw.out (by with_reducible assumption)) | (with_reducible refine bw_alloc ?_ _) | (with_reducible refine bw_step ?_ (by with_reducible assumption)) | (with_reducible refine Below.alloc ?_ ?_ _) | (with_reducible refine Below.drew ?_) | (with_reducible refine below_drewN ?_ _) | (with_reducible refine Below.setCell ?_ ?_ _) | (with_reducible refine below_step ?_ (by with_reducible assumption) ?_) | (with_reducible exact Nat.le_refl _) | omega | (simp; omega) | (simp; done)))
            rw [hw8]
            clear hw8
            have hY8 := HO8.out.step hb8
            have hJ8 : J (htY l k) w8 := HJA.out _ _ _ HJ7.out (hb8.mono (by omega))
            have HOB8 := Lib.hid (HOB7.out.step hb8)
            have HR8 := Lib.hid (HR7.out.step hb8)
            have HS8 := Lib.hid (HS7.out.below hb8)
            have HO8' := Lib.hid hY8
            have hz8 : W1.heap.size ≤ w8.heap.size := by have := hb8.size; omega
            have hpf : htY l (k + 1) <+: htY l n := (by have h := htY_prefix l (k + 1) (n - (k + 1)); rwa [show k + 1 + (n - (k + 1)) = n by omega] at h)
            obtain ⟨fn, tmps, assign, body, hy, hR⟩ := HY.out _ (fi, (F.length : Int) + 1) w8 hJ8 (by rw [← hN.out]; exact hpf) (by have := htY_length l k; omega)
            have hno : ∀ g, W.heap.size ≤ g → ¬ own g := fun g hg ho => by have := (HO.out g ho).1; omega
            clear hY8 hJ8 HO8 HOB7 HR7 HS7 HJ7 hb8
            dsimp only [encH] at hy
            rw [hy, Oper.uponIn_round]
            refine ⟨fun _ => hm, hR.mono ?_⟩
            rintro e W3 (⟨rfl, hJ3, hk3⟩ | ⟨rfl, hJx3⟩)
            · rw [← hN.out] at hJ3
              have H1 := Lib.hid (OwnV.keepsO HO8'.out hk3 (fun g hg => hno g (by omega)))
              have H2 := Lib.hid (HOB8.out.keepsO hk3 (hno gb hgb))
              have H3 := Lib.hid (HR8.out.keepsO hk3 (fun ho => (HO.out B ho).2.1 rfl))
              have H4 := Lib.hid (HS8.out.keepsO hk3 (fun b o e h0 ho => (HO.out b ho).2.2 b o e h0 rfl))
              have H5 := Lib.hid hJ3
              have h6 : W1.heap.size ≤ W3.heap.size := Nat.le_trans hz8 hk3.1
              clear hJ3 hk3
              gi_wp2_with fail
              refine ⟨⟨k + 1, _, by omega, by go_num, rfl, H1.out, H2.out, H3.out, H4.out, H5.out, h6⟩, ?_⟩
              simp [intOf]; omega
            · rw [← hN.out] at hJx3
              have H3 := Lib.hid hJx3
              clear hJx3
              gi_wp2_with fail
              refine bodyPost_ret (results_none rfl _ _ _) rfl ?_
              exact ⟨⟨_, rfl⟩, .inr ⟨_, hpf, H3.out⟩⟩
        · have d1 : decide ((k : Int) + 1 < (n : Int)) = false := by simp; omega
          have hN : Hid (htY l (k + 1) = htY l k ++ [(fi, (F.length : Int) + 1)]) := by
            show htY l k ++ _ = _
            have : htN l k = false := by
              unfold htN
              rw [HL.out]
              simp; omega
            rw [this]
            unfold htX
            rw [hi0, HFR.out, hFl.out]
            rfl
          clear hi0
          gi_wp2_with (refine wpIn_wide.2 ?_; go_quiet (fail))
          obtain ⟨w8, hw8⟩ : ∃ W, w7.drewN nq = W := ⟨_, rfl⟩
          have hb8 : Below w7.heap.size w7 w8 := by rw [← hw8]; (repeat' (first | (with_reducible exact Below.refl _ _) | (with_reducible assumption) | (with_reducible exact Bw.out (by with_reducible assumption)) | (with_reducible refine bw_alloc ?_ _) | (with_reducible refine bw_step ?_ (by with_reducible assumption)) | (with_reducible refine Below.alloc ?_ ?_ _) | (with_reducible refine Below.drew ?_) | (with_reducible refine below_drewN ?_ _) | (with_reducible refine Below.setCell ?_ ?_ _) | (with_reducible refine below_step ?_ (by with_reducible assumption) ?_) | (with_reducible exact Nat.le_refl _) | omega | (simp; omega) | (simp; done)))
          rw [hw8]
          clear hw8
          have hY8 := HO8.out.step hb8
          have hJ8 : J (htY l k) w8 := HJA.out _ _ _ HJ7.out (hb8.mono (by omega))
          have HOB8 := Lib.hid (HOB7.out.step hb8)
          have HR8 := Lib.hid (HR7.out.step hb8)
          have HS8 := Lib.hid (HS7.out.below hb8)
          have HO8' := Lib.hid hY8
          have hz8 : W1.heap.size ≤ w8.heap.size := by have := hb8.size; omega
          have hpf : htY l (k + 1) <+: htY l n := (by have h := htY_prefix l (k + 1) (n - (k + 1)); rwa [show k + 1 + (n - (k + 1)) = n by omega] at h)
          obtain ⟨fn, tmps, assign, body, hy, hR⟩ := HY.out _ (fi, (F.length : Int) + 1) w8 hJ8 (by rw [← hN.out]; exact hpf) (by have := htY_length l k; omega)
          have hno : ∀ g, W.heap.size ≤ g → ¬ own g := fun g hg ho => by have := (HO.out g ho).1; omega
          clear hY8 hJ8 HO8 HOB7 HR7 HS7 HJ7 hb8
          dsimp only [encH] at hy
          rw [hy, Oper.uponIn_round]
          refine ⟨fun _ => hm, hR.mono ?_⟩
          rintro e W3 (⟨rfl, hJ3, hk3⟩ | ⟨rfl, hJx3⟩)
          · rw [← hN.out] at hJ3
            have H1 := Lib.hid (OwnV.keepsO HO8'.out hk3 (fun g hg => hno g (by omega)))
            have H2 := Lib.hid (HOB8.out.keepsO hk3 (hno gb hgb))
            have H3 := Lib.hid (HR8.out.keepsO hk3 (fun ho => (HO.out B ho).2.1 rfl))
            have H4 := Lib.hid (HS8.out.keepsO hk3 (fun b o e h0 ho => (HO.out b ho).2.2 b o e h0 rfl))
            have H5 := Lib.hid hJ3
            have h6 : W1.heap.size ≤ W3.heap.size := Nat.le_trans hz8 hk3.1
            clear hJ3 hk3
            gi_wp2_with fail
            refine ⟨⟨k + 1, _, by omega, by go_num, rfl, H1.out, H2.out, H3.out, H4.out, H5.out, h6⟩, ?_⟩
            simp [intOf]; omega
          · rw [← hN.out] at hJx3
            have H3 := Lib.hid hJx3
            clear hJx3
            gi_wp2_with fail
            refine bodyPost_ret (results_none rfl _ _ _) rfl ?_
            exact ⟨⟨_, rfl⟩, .inr ⟨_, hpf, H3.out⟩⟩
      · go_simp
        obtain ⟨w5, hw5⟩ : ∃ W, wd.alloc (.cells #[.int .i64 ui] 3) = W := ⟨_, rfl⟩
        rw [hw5]
        have hb5 : Below wd.heap.size wd w5 := by rw [← hw5]; exact (Below.refl _ wd).alloc (Nat.le_refl _) _
        have cs5 : w5.cell? ⟨wd.heap.size, 0, none⟩ = some (.int .i64 ui) := by rw [← hw5]; exact (Row.new' wd [_] _ rfl).cell 0 rfl
        have hB5 : Below W1.heap.size wr w5 := HBd.out.trans (hb5.mono (by omega))
        have cQ5 : w5.cell? ⟨q, 0, none⟩ = some (.int .i64 fi) := (hb5.cell (p := ⟨q, 0, none⟩) (World.block_lt_of_cell? wd _ cQd)).trans cQd
        have HE5 := Lib.hid (HEd.out.step hb5)
        have HB5 := Lib.hid hB5
        have hlt5 : ∀ g, ae = some ⟨g, 0, none⟩ → g < wd.heap.size := fun g e => (HEd.out.lt (by rw [e]; rfl)).2
        refine hKz _ _ (fun _ => HS5.out _ hB5) ?_
        clear hKz Kz hw5 hb5 hB5 HEd cQd HBd
        rw [hsd] at cs5 hlt5
        try rw [hsd]
        refine AnyJ.one (i := 2) (by kernel_rfl) rfl (fun Kz hKz => ?_)
        go_simp
        refine (delete_any W1.heap.size ae me ce E fi q _ (by omega) HE5.out HM1.out cQ5 HNQ.out).mono ?_
        rintro e w6 ⟨m', rfl, hFm, hD6, hg6⟩
        rw [hF] at hFm hD6
        have hB6 : Below W1.heap.size wr w6 := HB5.out.grown hg6 (by have := HB5.out.size; omega) (fun g hg => (HE5.out.lt hg).1)
        have cQ6 : w6.cell? ⟨q, 0, none⟩ = some (.int .i64 fi) := (World.cell?_of_block (hg6.block q (World.block_lt_of_cell? w5 _ cQ5) (fun e => HNQ.out q (HE5.out.ownB e) rfl))).trans cQ5
        have cs6 : w6.cell? ⟨q + 1, 0, none⟩ = some (.int .i64 ui) := (World.cell?_of_block (hg6.block (q + 1) (World.block_lt_of_cell? w5 _ cs5) (fun e => by have := hlt5 _ (HE5.out.ownB e); omega))).trans cs5
        have HD6 := Lib.hid hD6
        have HB6 := Lib.hid hB6
        have HFm := Lib.hid hFm
        refine hKz _ _ (fun _ => HS5.out _ hB6) ?_
        clear hKz Kz hD6 hB6 hFm hg6 HE5 cQ5 cs5 HB5
        have hfl : F.length ≤ 3000 := by rw [← hF]; have := List.length_filter_le (beyP fi) E; have := HM1.out; omega
        refine AnyJ.one (i := 9) (by kernel_rfl) rfl (fun Kz hKz => ?_)
        refine step_app_int rfl (.tmp 24) (.tmp 30) 24 rfl Try.underlying24 W1.heap.size (.slice ae m' ce) F (by simp [Act.eval, Act.put]) HD6.out (q + 1) 1 ui (by simp [Act.eval, Act.put]) cs6 (by omega) (by have := HB6.out.size; omega) ?_
        intro gg cp w7 hO7 hg7 _
        have hB7 : Below W1.heap.size wr w7 := HB6.out.grown hg7 (by have := HB6.out.size; omega) (fun g hg => (HD6.out.lt hg).1)
        have cQ7 : w7.cell? ⟨q, 0, none⟩ = some (.int .i64 fi) := (World.cell?_of_block (hg7.block q (World.block_lt_of_cell? w6 _ cQ6) (fun e => HNQ.out q (HD6.out.ownB e) rfl))).trans cQ6
        have HO7 := Lib.hid hO7
        have HB7 := Lib.hid hB7
        refine hKz _ _ (fun _ => HS5.out _ hB7) ?_
        clear hKz Kz hO7 hg7 hB7 cs6 cQ6 HD6 HB6
        refine AnyJ.one (i := 10) (by kernel_rfl) rfl (fun Kz hKz => ?_)
        go_simp
        refine hKz _ _ (fun h => by simp at h) ?_
        clear hKz Kz
        refine AnyJ.done (by kernel_rfl) ?_ _
        try simp only [Act.put, List.setIfInBounds_toArray, List.set_cons_zero, List.set_cons_succ]
        have hFl : Hid ((htE l (k + 1)).length = F.length + 1) := by show _ = _; rw [HKS.out]; simp
        have HO8 : Hid (OwnV w7 W1.heap.size (.slice (some ⟨gg, 0, none⟩) (F.length + 1) cp) (htE l (k + 1))) := by show OwnV _ _ _ _; rw [HKS.out]; exact HO7.out
        have HR7 : Hid (Row w7 B [.slice (some ⟨bl, ol, none⟩) n cap]) := hR.out.of_block (HB7.out.block B hHb.out.1)
        have HS7 : Hid (SlP w7 (some ⟨bl, ol, none⟩) n l) := SlP.under hS.out HB7.out (fun b o e => by cases e; exact hHb.out.2)
        have HOB7 : Hid (OwnI w7 gb (ordL l)) := hOB.out.of_block (HB7.out.block gb hgb1)
        have HJ7 : Hid (J (htY l k) w7) := HJA.out _ _ _ hJ.out (HB7.out.mono hs1)
        have hz7 : W1.heap.size ≤ w7.heap.size := by have := HB7.out.size; omega
        clear HO7 HB7 hJ hR hS hOB hE1
        have c1 := HR7.out.cell 0 rfl
        by_cases hk1 : k + 1 < n
        · have hke1 : k + 1 < (ordL l).length := by rw [ordL_length, HL.out]; exact hk1
          obtain ⟨j, hj0⟩ := Int.eq_ofNat_of_zero_le (ordL_mem.1 (show (ordL l).getD (k + 1) 0 ∈ ordL l by simp [List.getD, hke1])).1
          have hjn : j < n := by have := (ordL_mem.1 (show (ordL l).getD (k + 1) 0 ∈ ordL l by simp [List.getD, hke1])).2; have := HL.out; omega
          obtain ⟨fj, uj, bl', ol', hxj, _, _, haj, _, cfj, _⟩ := HS7.out.get hjn
          cases haj
          have HFJ : Hid (frP l j = fj) := by show _ = _; unfold frP; rw [Int.toNat_natCast, hxj.out]
          have cby := HOB7.out.cell hke1
          rw [hj0] at cby
          have d1 : decide ((k : Int) + 1 < (n : Int)) = true := by simp; omega
          have j1 : (0 : Int) ≤ (j : Int) := by omega
          have j2 : (j : Int) < (n : Int) := by omega
          by_cases hf : fj = fi
          · have d2 : (fj == fi) = true := by simpa using hf
            have hN : Hid (htY l (k + 1) = htY l k) := by
              show htY l k ++ _ = _
              have : htN l k = true := by
                unfold htN
                rw [hj0, hi0, HFJ.out, HFR.out, HL.out, d2]
                simp; omega
              rw [this]; simp
            clear hxj hj0 hi0 hf
            gi_wp2_with (refine wpIn_wide.2 ?_; go_quiet (fail))
            refine ⟨⟨k + 1, _, by omega, by go_num, rfl, HO8.out, HOB7.out, HR7.out, HS7.out, ?_, hz7⟩, ?_⟩
            · show J _ _
              rw [hN.out]
              exact HJA.out _ _ _ HJ7.out (by (repeat' (first | (with_reducible exact Below.refl _ _) | (with_reducible assumption) | (with_reducible exact Bw.out (by with_reducible assumption)) | (with_reducible refine bw_alloc ?_ _) | (with_reducible refine bw_step ?_ (by with_reducible assumption)) | (with_reducible refine Below.alloc ?_ ?_ _) | (with_reducible refine Below.drew ?_) | (with_reducible refine below_drewN ?_ _) | (with_reducible refine Below.setCell ?_ ?_ _) | (with_reducible refine below_step ?_ (by with_reducible assumption) ?_) | (with_reducible exact Nat.le_refl _) | omega | (simp; omega) | (simp; done))))
            · simp [intOf]; omega
          · have d2 : (fj == fi) = false := by simpa using hf
            have hN : Hid (htY l (k + 1) = htY l k ++ [(fi, (F.length : Int) + 1)]) := by
              show htY l k ++ _ = _
              have : htN l k = false := by
                unfold htN
                rw [hj0, hi0, HFJ.out, HFR.out, HL.out, d2]
                simp
              rw [this]
              unfold htX
              rw [hi0, HFR.out, hFl.out]
              rfl
            clear hxj hj0 hi0 hf
            gi_wp2_with (refine wpIn_wide.2 ?_; go_quiet (fail))
            obtain ⟨w8, hw8⟩ : ∃ W, w7.drewN nq = W := ⟨_, rfl⟩
            have hb8 : Below w7.heap.size w7 w8 := by rw [← hw8]; (repeat' (first | (with_reducible exact Below.refl _ _) | (with_reducible assumption) | (with_reducible exact Bw.out (by with_reducible assumption)) | (with_reducible refine bw_alloc ?_ _) | (with_reducible refine bw_step ?_ (by with_reducible assumption)) | (with_reducible refine Below.alloc ?_ ?_ _) | (with_reducible refine Below.drew ?_) | (with_reducible refine below_drewN ?_ _) | (with_reducible refine Below.setCell ?_ ?_ _) | (with_reducible refine below_step ?_ (by with_reducible assumption) ?_) | (with_reducible exact Nat.le_refl _) | omega | (simp; omega) | (simp; done)))
            rw [hw8]
            clear hw8
            have hY8 := HO8.out.step hb8
            have hJ8 : J (htY l k) w8 := HJA.out _ _ _ HJ7.out (hb8.mono (by omega))
            have HOB8 := Lib.hid (HOB7.out.step hb8)
            have HR8 := Lib.hid (HR7.out.step hb8)
            have HS8 := Lib.hid (HS7.out.below hb8)
            have HO8' := Lib.hid hY8
            have hz8 : W1.heap.size ≤ w8.heap.size := by have := hb8.size; omega
            have hpf : htY l (k + 1) <+: htY l n := (by have h := htY_prefix l (k + 1) (n - (k + 1)); rwa [show k + 1 + (n - (k + 1)) = n by omega] at h)
            obtain ⟨fn, tmps, assign, body, hy, hR⟩ := HY.out _ (fi, (F.length : Int) + 1) w8 hJ8 (by rw [← hN.out]; exact hpf) (by have := htY_length l k; omega)
            have hno : ∀ g, W.heap.size ≤ g → ¬ own g := fun g hg ho => by have := (HO.out g ho).1; omega
            clear hY8 hJ8 HO8 HOB7 HR7 HS7 HJ7 hb8
            dsimp only [encH] at hy
            rw [hy, Oper.uponIn_round]
            refine ⟨fun _ => hm, hR.mono ?_⟩
            rintro e W3 (⟨rfl, hJ3, hk3⟩ | ⟨rfl, hJx3⟩)
            · rw [← hN.out] at hJ3
              have H1 := Lib.hid (OwnV.keepsO HO8'.out hk3 (fun g hg => hno g (by omega)))
              have H2 := Lib.hid (HOB8.out.keepsO hk3 (hno gb hgb))
              have H3 := Lib.hid (HR8.out.keepsO hk3 (fun ho => (HO.out B ho).2.1 rfl))
              have H4 := Lib.hid (HS8.out.keepsO hk3 (fun b o e h0 ho => (HO.out b ho).2.2 b o e h0 rfl))
              have H5 := Lib.hid hJ3
              have h6 : W1.heap.size ≤ W3.heap.size := Nat.le_trans hz8 hk3.1
              clear hJ3 hk3
              gi_wp2_with fail
              refine ⟨⟨k + 1, _, by omega, by go_num, rfl, H1.out, H2.out, H3.out, H4.out, H5.out, h6⟩, ?_⟩
              simp [intOf]; omega
            · rw [← hN.out] at hJx3
              have H3 := Lib.hid hJx3
              clear hJx3
              gi_wp2_with fail
              refine bodyPost_ret (results_none rfl _ _ _) rfl ?_
              exact ⟨⟨_, rfl⟩, .inr ⟨_, hpf, H3.out⟩⟩
        · have d1 : decide ((k : Int) + 1 < (n : Int)) = false := by simp; omega
          have hN : Hid (htY l (k + 1) = htY l k ++ [(fi, (F.length : Int) + 1)]) := by
            show htY l k ++ _ = _
            have : htN l k = false := by
              unfold htN
              rw [HL.out]
              simp; omega
            rw [this]
            unfold htX
            rw [hi0, HFR.out, hFl.out]
            rfl
          clear hi0
          gi_wp2_with (refine wpIn_wide.2 ?_; go_quiet (fail))
          obtain ⟨w8, hw8⟩ : ∃ W, w7.drewN nq = W := ⟨_, rfl⟩
          have hb8 : Below w7.heap.size w7 w8 := by rw [← hw8]; (repeat' (first | (with_reducible exact Below.refl _ _) | (with_reducible assumption) | (with_reducible exact Bw.out (by with_reducible assumption)) | (with_reducible refine bw_alloc ?_ _) | (with_reducible refine bw_step ?_ (by with_reducible assumption)) | (with_reducible refine Below.alloc ?_ ?_ _) | (with_reducible refine Below.drew ?_) | (with_reducible refine below_drewN ?_ _) | (with_reducible refine Below.setCell ?_ ?_ _) | (with_reducible refine below_step ?_ (by with_reducible assumption) ?_) | (with_reducible exact Nat.le_refl _) | omega | (simp; omega) | (simp; done)))
          rw [hw8]
          clear hw8
          have hY8 := HO8.out.step hb8
          have hJ8 : J (htY l k) w8 := HJA.out _ _ _ HJ7.out (hb8.mono (by omega))
          have HOB8 := Lib.hid (HOB7.out.step hb8)
          have HR8 := Lib.hid (HR7.out.step hb8)
          have HS8 := Lib.hid (HS7.out.below hb8)
          have HO8' := Lib.hid hY8
          have hz8 : W1.heap.size ≤ w8.heap.size := by have := hb8.size; omega
          have hpf : htY l (k + 1) <+: htY l n := (by have h := htY_prefix l (k + 1) (n - (k + 1)); rwa [show k + 1 + (n - (k + 1)) = n by omega] at h)
          obtain ⟨fn, tmps, assign, body, hy, hR⟩ := HY.out _ (fi, (F.length : Int) + 1) w8 hJ8 (by rw [← hN.out]; exact hpf) (by have := htY_length l k; omega)
          have hno : ∀ g, W.heap.size ≤ g → ¬ own g := fun g hg ho => by have := (HO.out g ho).1; omega
          clear hY8 hJ8 HO8 HOB7 HR7 HS7 HJ7 hb8
          dsimp only [encH] at hy
          rw [hy, Oper.uponIn_round]
          refine ⟨fun _ => hm, hR.mono ?_⟩
          rintro e W3 (⟨rfl, hJ3, hk3⟩ | ⟨rfl, hJx3⟩)
          · rw [← hN.out] at hJ3
            have H1 := Lib.hid (OwnV.keepsO HO8'.out hk3 (fun g hg => hno g (by omega)))
            have H2 := Lib.hid (HOB8.out.keepsO hk3 (hno gb hgb))
            have H3 := Lib.hid (HR8.out.keepsO hk3 (fun ho => (HO.out B ho).2.1 rfl))
            have H4 := Lib.hid (HS8.out.keepsO hk3 (fun b o e h0 ho => (HO.out b ho).2.2 b o e h0 rfl))
            have H5 := Lib.hid hJ3
            have h6 : W1.heap.size ≤ W3.heap.size := Nat.le_trans hz8 hk3.1
            clear hJ3 hk3
            gi_wp2_with fail
            refine ⟨⟨k + 1, _, by omega, by go_num, rfl, H1.out, H2.out, H3.out, H4.out, H5.out, h6⟩, ?_⟩
            simp [intOf]; omega
          · rw [← hN.out] at hJx3
            have H3 := Lib.hid hJx3
            clear hJx3
            gi_wp2_with fail
            refine bodyPost_ret (results_none rfl _ _ _) rfl ?_
            exact ⟨⟨_, rfl⟩, .inr ⟨_, hpf, H3.out⟩⟩
    · obtain rfl : k = n := by omega
      gi_wp2_with fail
      go_end0
      exact ⟨⟨_, rfl⟩, .inl ⟨_, rfl, hJ.out⟩⟩

end Go.Proofs.Ytbafhmlmibjgpaa
