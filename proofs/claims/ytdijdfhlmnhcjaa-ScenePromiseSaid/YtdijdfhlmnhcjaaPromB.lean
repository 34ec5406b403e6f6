/-
  The walk of worst.Promise, second part: the scene.
-/
import Derived.Test.YtdijdfhlmnhcjaaPromA
import Derived.Test.YtdijdfhlmnhcjaaSellQ
import Derived.Test.YtdijdfhlmnhcjaaCh
namespace Go.Proofs.Ytdijdfhlmnhcjaa
set_option linter.unusedSimpArgs false
set_option linter.unusedVariables false
open Go.RowKit Go.Shelf

attribute [local go_sem] Oper.semAt_some

theorem Row.set1' {w : World} {b : Nat} (h : ∃ x0, Row w b [x0]) (v0 : Value) : Row (w.setCell ⟨b, 0, none⟩ v0) b [v0] := by
  obtain ⟨x0, T, h⟩ := h
  refine ⟨T, ?_⟩
  simp [World.setCell, Array.getElem?_modify, h]
theorem Row.set4' {w : World} {b : Nat} (h : ∃ x0 x1 x2 x3, Row w b [x0, x1, x2, x3]) (v0 v1 v2 v3 : Value) :
    Row ((((w.setCell ⟨b, 0, none⟩ v0).setCell ⟨b, 1, none⟩ v1).setCell ⟨b, 2, none⟩ v2).setCell ⟨b, 3, none⟩ v3) b [v0, v1, v2, v3] := by
  obtain ⟨x0, x1, x2, x3, T, h⟩ := h
  refine ⟨T, ?_⟩
  simp [World.setCell, Array.getElem?_modify, h]

/-- The body's own blocks: the scene, what is left, and the scene's two lists. -/
def ownP (Bs Bl : Nat) (W : World) (k : Nat) : Prop := k = Bs ∨ k = Bl ∨ ∃ x0 x1 v1 v2, Row W Bs [x0, x1, v1, v2] ∧ (v1.ownBlock = some k ∨ v2.ownBlock = some k)
theorem Row.uniq {w : World} {b : Nat} {cs ds : List Value} (h : Row w b cs) (k : Row w b ds) : cs = ds := by
  obtain ⟨T, h⟩ := h
  obtain ⟨U, k⟩ := k
  rw [h] at k
  cases k
  rfl
/-- What holds between two rounds. -/
def InvP (w : World) (Bs Bl base : Nat) (i W L : Int) (pre : List ChS) (wr : World) : Prop :=
  (∃ v1 v2, Row wr Bs [.int .i64 i, .int .i64 W, v1, v2] ∧ OwnV wr base v1 (sC L pre) ∧ OwnV wr base v2 (sS L pre) ∧ ∀ g, v1.ownBlock = some g → v2.ownBlock ≠ some g) ∧
  Row wr Bl [.int .i64 (sLeft L pre)] ∧ Row wr (w.heap.size + 1 + 1) [.int .i64 0, .int .i64 0, .slice none 0 0, .slice none 0 0] ∧ Below w.heap.size w wr ∧ base ≤ wr.heap.size
theorem invP_own {w : World} {Bs Bl base : Nat} {i W L : Int} (hw : w.heap.size ≤ base) : OwnFrom base (InvP w Bs Bl base i W L) := by
  intro pre A B row hs hg hr
  obtain ⟨⟨v1, v2, h1, h2, h3, h4⟩, h5, h6, h7, h8⟩ := hs
  have hr' : ∀ r, row = some r → ∃ o : Obj, A.heap[r]? = some o ∧ o.isCells = false := fun r e => (hr r e).2
  exact ⟨⟨v1, v2, h1.kept hg hr', h2.kept hg hr', h3.kept hg hr', h4⟩, h5.kept hg hr', h6.kept hg hr', h7.grown hg h7.size (fun k e => Nat.le_trans hw (hr k e).1), Nat.le_trans h8 hg.size⟩

/-- How many guests are walked in the scene, and how many rooms channels must sell for it. -/
def scW (r s most : Int) : Int := max (s - r) (most + 1)
def scL (r s most : Int) : Int := scW r s most - (s - r)

theorem body_fin {w Wx W4 Wz : World} {Bs Bl base : Nat} {i W lf q : Int} {v1 v2 u1 u2 : Value} {k1 k2 l1 l2 : List Int} (q1 : Row Wx Bs [.int .i64 i, .int .i64 W, v1, v2]) (q2 : OwnV Wx base v1 k1) (q3 : OwnV Wx base v2 k2) (q5 : Row Wx Bl [.int .i64 lf])
    (q6 : Row Wx (w.heap.size + 1 + 1) [.int .i64 0, .int .i64 0, .slice none 0 0, .slice none 0 0]) (q7 : Below w.heap.size w Wx) (hsl : Bs ≠ Bl) (hbs : Bs < base) (hbl : Bl < base) (hr1 : w.heap.size + 1 + 1 < Bs) (hr2 : w.heap.size + 1 + 1 < Bl)
    (hCh : Ch (fun k => v1.ownBlock = some k ∨ v2.ownBlock = some k) Wx W4) (hu1 : OwnV W4 base u1 l1) (hu2 : OwnV W4 base u2 l2) (o1 : ∀ g, u1.ownBlock = some g → v1.ownBlock = some g ∨ Wx.heap.size ≤ g) (o2 : ∀ g, u2.ownBlock = some g → v2.ownBlock = some g ∨ Wx.heap.size ≤ g)
    (sep : ∀ g, u1.ownBlock = some g → u2.ownBlock ≠ some g)
    (hWz : ((W4.setCell ⟨Bs, 2, none⟩ u1).setCell ⟨Bs, 3, none⟩ u2).setCell ⟨Bl, 0, none⟩ (.int .i64 q) = Wz) :
    KeepsOthers Wx Wz ∧ KeepsO (ownP Bs Bl) Wx Wz ∧ (∃ v1 v2, Row Wz Bs [.int .i64 i, .int .i64 W, v1, v2] ∧ OwnV Wz base v1 l1 ∧ OwnV Wz base v2 l2 ∧ ∀ g, v1.ownBlock = some g → v2.ownBlock ≠ some g) ∧
    Row Wz Bl [.int .i64 q] ∧ Row Wz (w.heap.size + 1 + 1) [.int .i64 0, .int .i64 0, .slice none 0 0, .slice none 0 0] ∧ Below w.heap.size w Wz := by
  have n1 : ∀ b, b < base → ¬ (v1.ownBlock = some b ∨ v2.ownBlock = some b) := fun b hb h => by
    rcases h with h | h
    · have := (q2.lt h).1; omega
    · have := (q3.lt h).1; omega
  have m0 : Ch (fun k => k = Bs ∨ k = Bl ∨ v1.ownBlock = some k ∨ v2.ownBlock = some k) Wx W4 := hCh.mono (fun k _ h => Or.inr (Or.inr h))
  have m1 := m0.setCell (p := ⟨Bs, 2, none⟩) (Or.inl rfl) u1
  have m2 := m1.setCell (p := ⟨Bs, 3, none⟩) (Or.inl rfl) u2
  have hC := m2.setCell (p := ⟨Bl, 0, none⟩) (Or.inr (Or.inl rfl)) (.int .i64 q)
  rw [hWz] at hC
  clear m0 m1 m2
  have r1 : Row W4 Bs [.int .i64 i, .int .i64 W, v1, v2] := q1.ch hCh (n1 Bs hbs)
  have r2 : Row W4 Bl [.int .i64 lf] := q5.ch hCh (n1 Bl hbl)
  have r3 := q6.ch hCh (n1 _ (by omega))
  have R1 : Row Wz Bs [.int .i64 i, .int .i64 W, u1, u2] := by
    rw [← hWz]
    refine Row.other ?_ (by simpa using hsl) _
    obtain ⟨T, h⟩ := r1
    refine ⟨T, ?_⟩
    simp [World.setCell, Array.getElem?_modify, h]
  have R2 : Row Wz Bl [.int .i64 q] := by
    rw [← hWz]
    refine Row.set1' ⟨_, ((r2.other (by simpa using Ne.symm hsl) _).other (by simpa using Ne.symm hsl) _)⟩ _
  have R3 : Row Wz (w.heap.size + 1 + 1) [.int .i64 0, .int .i64 0, .slice none 0 0, .slice none 0 0] := by
    rw [← hWz]
    exact ((r3.other (by simp; omega) _).other (by simp; omega) _).other (by simp; omega) _
  have ow : ∀ {v : Value} {l : List Int}, OwnV W4 base v l → OwnV Wz base v l := fun {v l} h => by
    rw [← hWz]
    have g0 : Ch (fun k => k = Bs ∨ k = Bl) W4 W4 := Ch.refl _ _
    have g1 := g0.setCell (p := ⟨Bs, 2, none⟩) (Or.inl rfl) u1
    have g2 := g1.setCell (p := ⟨Bs, 3, none⟩) (Or.inl rfl) u2
    have hh := g2.setCell (p := ⟨Bl, 0, none⟩) (Or.inr rfl) (.int .i64 q)
    exact h.ch hh (fun g hg hk => by have := (h.lt hg).1; rcases hk with e | e <;> omega)
  refine ⟨hC.others ?_, ⟨hC.size, ?_, ?_⟩, ⟨u1, u2, R1, ow hu1, ow hu2, sep⟩, R2, R3, hC.below q7 ?_ q7.size⟩
  · intro k hk
    rcases hk with rfl | rfl | h | h
    · obtain ⟨T, h⟩ := q1; exact ⟨_, _, _, h⟩
    · obtain ⟨T, h⟩ := q5; exact ⟨_, _, _, h⟩
    · exact q2.isCells h
    · exact q3.isCells h
  · intro k cs T fr hk hno
    refine hC.2.2.2.2 k (Array.getElem?_eq_some_iff.1 hk).1 (fun h => hno ?_)
    rcases h with h | h | h | h
    · exact Or.inl h
    · exact Or.inr (Or.inl h)
    · exact Or.inr (Or.inr ⟨_, _, _, _, q1, Or.inl h⟩)
    · exact Or.inr (Or.inr ⟨_, _, _, _, q1, Or.inr h⟩)
  · intro k hk ho
    rcases ho with h | h | ⟨x0, x1, y1, y2, hr, hv⟩
    · exact Or.inl h
    · exact Or.inr (Or.inl h)
    · have e := Row.uniq hr R1
      simp only [List.cons.injEq, and_true] at e
      obtain ⟨_, _, rfl, rfl⟩ := e
      rcases hv with hv | hv
      · exact Or.inr (Or.inr ⟨_, _, _, _, q1, Or.inl ((o1 k hv).resolve_right (by omega))⟩)
      · exact Or.inr (Or.inr ⟨_, _, _, _, q1, Or.inr ((o2 k hv).resolve_right (by omega))⟩)
  · intro k hk
    rcases hk with rfl | rfl | h | h
    · omega
    · omega
    · have := (q2.lt h).1; omega
    · have := (q3.lt h).1; omega

theorem sellers_any (r s c : Int) (a : Option Addr) (n cap : Nat) (w : World) :
    Calls Try.prog 52 #[.agg #[.int .i64 r, .int .i64 s, .slice a n cap, .int .i64 c]] w
      fun e w' => ∃ B : Nat, e = .returned (.func (.func 65) #[] #[.pointer (some ⟨B, 0, none⟩)]) ∧ w.heap.size ≤ B ∧ Row w' B [.int .i64 r, .int .i64 s, .slice a n cap, .int .i64 c] ∧ Below w.heap.size w w' := by
  go_enter Try.func52, Try.ntmps52
  go_wp2_with fail
  go_ret
  exact ⟨_, rfl, Nat.le_refl _, Row.new' _ _ _ rfl, by (repeat' (first | (with_reducible exact Below.refl _ _) | (with_reducible assumption) | (with_reducible exact Bw.out (by with_reducible assumption)) | (with_reducible refine bw_alloc ?_ _) | (with_reducible refine bw_step ?_ (by with_reducible assumption)) | (with_reducible refine Below.alloc ?_ ?_ _) | (with_reducible refine Below.drew ?_) | (with_reducible refine below_drewN ?_ _) | (with_reducible refine Below.setCell ?_ ?_ _) | (with_reducible refine below_step ?_ (by with_reducible assumption) ?_) | (with_reducible exact Nat.le_refl _) | omega | (simp; omega) | (simp; done)))⟩

set_option maxRecDepth 100000 in
set_option maxHeartbeats 12800000 in
theorem Promise_some (a : Option Addr) (n cap : Nat) (l : List NightV) (c : Nat) (most : Int) (i : Nat) (r s : Int) (zs : List Int) (nn cc : Nat) (w : World) (hs : SlN w a n l) (hcaps : ∀ x ∈ l, x.n ≤ x.cap ∧ x.cap ≤ maxLen) (hB : (nightsB l && inB (c : Int) 30 && inB most 1000) = true)
    (ad : Option Addr) (hx : l[i]? = some ⟨r, s, ad, nn, cc, zs⟩) (hi : idxN (brk c most) l 0 = (i : Int)) (hbr : brk c most ⟨r, s, ad, nn, cc, zs⟩ = true) :
    Calls Try.prog 26 #[.slice a n cap, .int .i64 c, .int .i64 most] w
      fun e w' => ∃ v1 v2, e = .returned (.tuple #[.agg #[.int .i64 i, .int .i64 (scW r s most), v1, v2], .bool true, .int .i64 0]) ∧
        SlV w' v1 (sellC zs (scL r s most) (topL zs c)) ∧ SlV w' v2 (sellS zs (scL r s most) (topL zs c)) ∧ Below w.heap.size w w' := by
  simp only [Bool.and_eq_true] at hB
  obtain ⟨⟨h1, h2⟩, h3⟩ := hB
  have hn : n ≤ 366 := by have := hs.1; have := nightsB_len h1; omega
  have hc30 : c ≤ 30 := by have := (inB_iff.1 h2).2; omega
  obtain ⟨hm1, hm2⟩ := inB_iff.1 h3
  have hxn : nightB r s zs = true := nightsB_at h1 hx
  obtain ⟨p1, p2, ⟨p3, p4⟩, p5, p6⟩ := nightB_parts hxn
  have hsb := nightB_sh hxn
  obtain ⟨hcx1, hcx2⟩ : nn ≤ cc ∧ cc ≤ maxLen := hcaps _ (List.mem_of_getElem? hx)
  have hin : i < n := by have := (List.getElem?_eq_some_iff.1 hx).1; have := hs.1; omega
  have KX : SlC w ad nn cc zs := (hs.2 i _ hx).1.2.c hcx1 hcx2
  obtain ⟨bx, ox, hax, e0, e1, e2⟩ : ∃ b off, a = some ⟨b, off, none⟩ ∧ w.cell? ⟨b, off + i * 3, none⟩ = some (.int .i64 r) ∧ w.cell? ⟨b, off + i * 3 + 1, none⟩ = some (.int .i64 s) ∧ w.cell? ⟨b, off + i * 3 + 2, none⟩ = some (.slice ad nn cc) := (hs.2 i _ hx).2
  subst hax
  have HZW : Hid (∀ b o, ad = some ⟨b, o, none⟩ → 0 < nn → b < w.heap.size) := fun b o e h0 => by
    obtain ⟨b', o', e', hlt, _⟩ := KX.sl.at h0
    rw [e] at e'
    cases e'
    exact hlt
  have H1 : Hid ((nightsB l && inB (c : Int) 30) = true) := by show _ = _; rw [h1, h2]; rfl
  have H3 := Lib.hid h3
  have HN := Lib.hid h1
  have HS := Lib.hid hs
  have HC := Lib.hid hcaps
  have HI := Lib.hid hi
  have HP2 := Lib.hid p2
  have HBR := Lib.hid hbr
  obtain ⟨W, hW⟩ : ∃ W, scW r s most = W := ⟨_, rfl⟩
  obtain ⟨L, hL⟩ : ∃ L, W - (s - r) = L := ⟨_, rfl⟩
  have hLL : Hid (scL r s most = L) := by show _ = _; rw [← hL, ← hW]; rfl
  have HW := Lib.hid hW
  have HL := Lib.hid hL
  have hWb : s - r ≤ W ∧ most + 1 ≤ W ∧ W ≤ 1001 := by unfold scW at hW; omega
  obtain ⟨hWb1, hWb2, hWb3⟩ := hWb
  rw [hW, hLL.out]
  clear hs hcaps h1 h2 h3 hi hx hbr hW hL p2
  have i1 : (0 : Int) ≤ (i : Int) := by omega
  have i2 : (i : Int) < (n : Int) := by omega
  refine calls_of_wp_marks Try.func26 rfl ?_
  simp only [Try.ntmps26, List.size_toArray, List.length_cons, List.length_nil, Nat.reduceAdd, Nat.reduceSub, Array.replicate_succ, Array.replicate_zero, List.push_toArray, List.append_toArray, List.nil_append, List.cons_append]
  go_wp2_with fail
  go_step3
  go_wp2_with fail
  refine (w_right_any _ _ _ l c _ (by omega) (HS.out.below (by (repeat' (first | (with_reducible exact Below.refl _ _) | (with_reducible assumption) | (with_reducible exact Bw.out (by with_reducible assumption)) | (with_reducible refine bw_alloc ?_ _) | (with_reducible refine bw_step ?_ (by with_reducible assumption)) | (with_reducible refine Below.alloc ?_ ?_ _) | (with_reducible refine Below.drew ?_) | (with_reducible refine below_drewN ?_ _) | (with_reducible refine Below.setCell ?_ ?_ _) | (with_reducible refine below_step ?_ (by with_reducible assumption) ?_) | (with_reducible exact Nat.le_refl _) | omega | (simp; omega) | (simp; done))))) true H1.out).mono ?_
  rintro e w1 ⟨rfl, hb1⟩
  have R_c_1 : Row w1 (w.heap.size) [.int .i64 (c)] := by (repeat' (first | (with_reducible assumption) | (with_reducible refine Row.new' _ _ _ (by first | rfl | (simp; done) | omega)) | (with_reducible refine Row.alloc ?_ _) | (with_reducible refine Row.drew ?_) | (with_reducible refine Row.drewN ?_ _) | (with_reducible refine Row.step ?_ (by with_reducible assumption)) | (with_reducible refine Row.set2' ?_ _ _; first | exact ⟨_, _, by with_reducible assumption⟩ | exact ⟨_, _, Row.alloc (by with_reducible assumption) _⟩ | exact ⟨_, _, Row.alloc (Row.alloc (by with_reducible assumption) _) _⟩) | (with_reducible refine Row.other ?_ (by first | omega | (simp; done) | (simp; omega)) _)))
  have c_c_0_1 := R_c_1.cell 0 rfl
  have l_c_1 := R_c_1.lt
  have R_m_1 : Row w1 (w.heap.size + 1) [.int .i64 (most)] := by (repeat' (first | (with_reducible assumption) | (with_reducible refine Row.new' _ _ _ (by first | rfl | (simp; done) | omega)) | (with_reducible refine Row.alloc ?_ _) | (with_reducible refine Row.drew ?_) | (with_reducible refine Row.drewN ?_ _) | (with_reducible refine Row.step ?_ (by with_reducible assumption)) | (with_reducible refine Row.set2' ?_ _ _; first | exact ⟨_, _, by with_reducible assumption⟩ | exact ⟨_, _, Row.alloc (by with_reducible assumption) _⟩ | exact ⟨_, _, Row.alloc (Row.alloc (by with_reducible assumption) _) _⟩) | (with_reducible refine Row.other ?_ (by first | omega | (simp; done) | (simp; omega)) _)))
  have c_m_0_1 := R_m_1.cell 0 rfl
  have l_m_1 := R_m_1.lt
  have R_res_1 : Row w1 (w.heap.size + 1 + 1) [.int .i64 (0), .int .i64 (0), .slice none 0 0, .slice none 0 0] := by (repeat' (first | (with_reducible assumption) | (with_reducible refine Row.new' _ _ _ (by first | rfl | (simp; done) | omega)) | (with_reducible refine Row.alloc ?_ _) | (with_reducible refine Row.drew ?_) | (with_reducible refine Row.drewN ?_ _) | (with_reducible refine Row.step ?_ (by with_reducible assumption)) | (with_reducible refine Row.set2' ?_ _ _; first | exact ⟨_, _, by with_reducible assumption⟩ | exact ⟨_, _, Row.alloc (by with_reducible assumption) _⟩ | exact ⟨_, _, Row.alloc (Row.alloc (by with_reducible assumption) _) _⟩) | (with_reducible refine Row.other ?_ (by first | omega | (simp; done) | (simp; omega)) _)))
  have c_res_0_1 := R_res_1.cell 0 rfl
  have c_res_1_1 := R_res_1.cell 1 rfl
  have c_res_2_1 := R_res_1.cell 2 rfl
  have c_res_3_1 := R_res_1.cell 3 rfl
  have z_res_0_1 := R_res_1.frozen 0
  have z_res_1_1 := R_res_1.frozen 1
  have z_res_2_1 := R_res_1.frozen 2
  have z_res_3_1 := R_res_1.frozen 3
  have l_res_1 := R_res_1.lt
  replace KX := KX.step (show Below w.heap.size w w1 by (repeat' (first | (with_reducible exact Below.refl _ _) | (with_reducible assumption) | (with_reducible exact Bw.out (by with_reducible assumption)) | (with_reducible refine bw_alloc ?_ _) | (with_reducible refine bw_step ?_ (by with_reducible assumption)) | (with_reducible refine Below.alloc ?_ ?_ _) | (with_reducible refine Below.drew ?_) | (with_reducible refine below_drewN ?_ _) | (with_reducible refine Below.setCell ?_ ?_ _) | (with_reducible refine below_step ?_ (by with_reducible assumption) ?_) | (with_reducible exact Nat.le_refl _) | omega | (simp; omega) | (simp; done))))
  have HB1 : Below w.heap.size w w1 := by (repeat' (first | (with_reducible exact Below.refl _ _) | (with_reducible assumption) | (with_reducible exact Bw.out (by with_reducible assumption)) | (with_reducible refine bw_alloc ?_ _) | (with_reducible refine bw_step ?_ (by with_reducible assumption)) | (with_reducible refine Below.alloc ?_ ?_ _) | (with_reducible refine Below.drew ?_) | (with_reducible refine below_drewN ?_ _) | (with_reducible refine Below.setCell ?_ ?_ _) | (with_reducible refine below_step ?_ (by with_reducible assumption) ?_) | (with_reducible exact Nat.le_refl _) | omega | (simp; omega) | (simp; done)))
  go_wp2_with fail
  refine (w_within_any most 1000 _).mono ?_
  rintro e w' ⟨rfl, rfl⟩
  rw [H3.out]
  go_wp2_with fail
  refine (index_promise _ _ _ l c most (w.heap.size) (w.heap.size + 1) _ (by omega) (HS.out.below (by (repeat' (first | (with_reducible exact Below.refl _ _) | (with_reducible assumption) | (with_reducible exact Bw.out (by with_reducible assumption)) | (with_reducible refine bw_alloc ?_ _) | (with_reducible refine bw_step ?_ (by with_reducible assumption)) | (with_reducible refine Below.alloc ?_ ?_ _) | (with_reducible refine Below.drew ?_) | (with_reducible refine below_drewN ?_ _) | (with_reducible refine Below.setCell ?_ ?_ _) | (with_reducible refine below_step ?_ (by with_reducible assumption) ?_) | (with_reducible exact Nat.le_refl _) | omega | (simp; omega) | (simp; done))))) HC.out HN.out hc30 (by (repeat' (first | (with_reducible assumption) | (with_reducible refine Row.new' _ _ _ (by first | rfl | (simp; done) | omega)) | (with_reducible refine Row.alloc ?_ _) | (with_reducible refine Row.drew ?_) | (with_reducible refine Row.drewN ?_ _) | (with_reducible refine Row.step ?_ (by with_reducible assumption)) | (with_reducible refine Row.set2' ?_ _ _; first | exact ⟨_, _, by with_reducible assumption⟩ | exact ⟨_, _, Row.alloc (by with_reducible assumption) _⟩ | exact ⟨_, _, Row.alloc (Row.alloc (by with_reducible assumption) _) _⟩) | (with_reducible refine Row.other ?_ (by first | omega | (simp; done) | (simp; omega)) _)))) (by (repeat' (first | (with_reducible assumption) | (with_reducible refine Row.new' _ _ _ (by first | rfl | (simp; done) | omega)) | (with_reducible refine Row.alloc ?_ _) | (with_reducible refine Row.drew ?_) | (with_reducible refine Row.drewN ?_ _) | (with_reducible refine Row.step ?_ (by with_reducible assumption)) | (with_reducible refine Row.set2' ?_ _ _; first | exact ⟨_, _, by with_reducible assumption⟩ | exact ⟨_, _, Row.alloc (by with_reducible assumption) _⟩ | exact ⟨_, _, Row.alloc (Row.alloc (by with_reducible assumption) _) _⟩) | (with_reducible refine Row.other ?_ (by first | omega | (simp; done) | (simp; omega)) _))))).mono ?_
  rintro e w2 ⟨rfl, hb2⟩
  have R_c_2 : Row w2 (w.heap.size) [.int .i64 (c)] := by (repeat' (first | (with_reducible assumption) | (with_reducible refine Row.new' _ _ _ (by first | rfl | (simp; done) | omega)) | (with_reducible refine Row.alloc ?_ _) | (with_reducible refine Row.drew ?_) | (with_reducible refine Row.drewN ?_ _) | (with_reducible refine Row.step ?_ (by with_reducible assumption)) | (with_reducible refine Row.set2' ?_ _ _; first | exact ⟨_, _, by with_reducible assumption⟩ | exact ⟨_, _, Row.alloc (by with_reducible assumption) _⟩ | exact ⟨_, _, Row.alloc (Row.alloc (by with_reducible assumption) _) _⟩) | (with_reducible refine Row.other ?_ (by first | omega | (simp; done) | (simp; omega)) _)))
  have c_c_0_2 := R_c_2.cell 0 rfl
  have l_c_2 := R_c_2.lt
  have R_m_2 : Row w2 (w.heap.size + 1) [.int .i64 (most)] := by (repeat' (first | (with_reducible assumption) | (with_reducible refine Row.new' _ _ _ (by first | rfl | (simp; done) | omega)) | (with_reducible refine Row.alloc ?_ _) | (with_reducible refine Row.drew ?_) | (with_reducible refine Row.drewN ?_ _) | (with_reducible refine Row.step ?_ (by with_reducible assumption)) | (with_reducible refine Row.set2' ?_ _ _; first | exact ⟨_, _, by with_reducible assumption⟩ | exact ⟨_, _, Row.alloc (by with_reducible assumption) _⟩ | exact ⟨_, _, Row.alloc (Row.alloc (by with_reducible assumption) _) _⟩) | (with_reducible refine Row.other ?_ (by first | omega | (simp; done) | (simp; omega)) _)))
  have c_m_0_2 := R_m_2.cell 0 rfl
  have l_m_2 := R_m_2.lt
  have R_res_2 : Row w2 (w.heap.size + 1 + 1) [.int .i64 (0), .int .i64 (0), .slice none 0 0, .slice none 0 0] := by (repeat' (first | (with_reducible assumption) | (with_reducible refine Row.new' _ _ _ (by first | rfl | (simp; done) | omega)) | (with_reducible refine Row.alloc ?_ _) | (with_reducible refine Row.drew ?_) | (with_reducible refine Row.drewN ?_ _) | (with_reducible refine Row.step ?_ (by with_reducible assumption)) | (with_reducible refine Row.set2' ?_ _ _; first | exact ⟨_, _, by with_reducible assumption⟩ | exact ⟨_, _, Row.alloc (by with_reducible assumption) _⟩ | exact ⟨_, _, Row.alloc (Row.alloc (by with_reducible assumption) _) _⟩) | (with_reducible refine Row.other ?_ (by first | omega | (simp; done) | (simp; omega)) _)))
  have c_res_0_2 := R_res_2.cell 0 rfl
  have c_res_1_2 := R_res_2.cell 1 rfl
  have c_res_2_2 := R_res_2.cell 2 rfl
  have c_res_3_2 := R_res_2.cell 3 rfl
  have z_res_0_2 := R_res_2.frozen 0
  have z_res_1_2 := R_res_2.frozen 1
  have z_res_2_2 := R_res_2.frozen 2
  have z_res_3_2 := R_res_2.frozen 3
  have l_res_2 := R_res_2.lt
  replace KX := KX.step (show Below w1.heap.size w1 w2 by (repeat' (first | (with_reducible exact Below.refl _ _) | (with_reducible assumption) | (with_reducible exact Bw.out (by with_reducible assumption)) | (with_reducible refine bw_alloc ?_ _) | (with_reducible refine bw_step ?_ (by with_reducible assumption)) | (with_reducible refine Below.alloc ?_ ?_ _) | (with_reducible refine Below.drew ?_) | (with_reducible refine below_drewN ?_ _) | (with_reducible refine Below.setCell ?_ ?_ _) | (with_reducible refine below_step ?_ (by with_reducible assumption) ?_) | (with_reducible exact Nat.le_refl _) | omega | (simp; omega) | (simp; done))))
  have HB2 : Below w.heap.size w w2 := by (repeat' (first | (with_reducible exact Below.refl _ _) | (with_reducible assumption) | (with_reducible exact Bw.out (by with_reducible assumption)) | (with_reducible refine bw_alloc ?_ _) | (with_reducible refine bw_step ?_ (by with_reducible assumption)) | (with_reducible refine Below.alloc ?_ ?_ _) | (with_reducible refine Below.drew ?_) | (with_reducible refine below_drewN ?_ _) | (with_reducible refine Below.setCell ?_ ?_ _) | (with_reducible refine below_step ?_ (by with_reducible assumption) ?_) | (with_reducible exact Nat.le_refl _) | omega | (simp; omega) | (simp; done)))
  clear R_c_1 c_c_0_1 R_m_1 c_m_0_1 R_res_1 c_res_0_1 c_res_1_1 c_res_2_1 c_res_3_1 z_res_0_1 z_res_1_1 z_res_2_1 z_res_3_1 hb1 HB1
  rw [HI.out]
  go_wp2_with fail
  have d0 : CellAt w2 bx (ox + i * 3) (.int .i64 r) := (HB2.cell (p := ⟨bx, ox + i * 3, none⟩) (World.block_lt_of_cell? w _ e0)).trans e0
  have d1 : CellAt w2 bx (ox + i * 3 + 1) (.int .i64 s) := (HB2.cell (p := ⟨bx, ox + i * 3 + 1, none⟩) (World.block_lt_of_cell? w _ e1)).trans e1
  have d2 : CellAt w2 bx (ox + i * 3 + 2) (.slice ad nn cc) := (HB2.cell (p := ⟨bx, ox + i * 3 + 2, none⟩) (World.block_lt_of_cell? w _ e2)).trans e2
  have d3 : CellAt w2 w.heap.size 0 (.int .i64 c) := c_c_0_2
  clear e0 e1 e2
  go_region_held3 (fun w' => w'.cell? ⟨bx, ox + i * 3, none⟩ = some (.int .i64 r) ∧ w'.cell? ⟨bx, ox + i * 3 + 1, none⟩ = some (.int .i64 s) ∧ w'.cell? ⟨bx, ox + i * 3 + 2, none⟩ = some (.slice ad nn cc) ∧ w'.cell? ⟨w.heap.size, 0, none⟩ = some (.int .i64 c))
    (((try go_split_ands); exact ⟨CellAt.out (by (repeat' (first | (with_reducible assumption) | (with_reducible refine CellAt.drew ?_) | (with_reducible refine CellAt.drewN ?_ _) | (with_reducible refine CellAt.alloc ?_ _) | (with_reducible refine CellAt.step ?_ (by with_reducible assumption))))), CellAt.out (by (repeat' (first | (with_reducible assumption) | (with_reducible refine CellAt.drew ?_) | (with_reducible refine CellAt.drewN ?_ _) | (with_reducible refine CellAt.alloc ?_ _) | (with_reducible refine CellAt.step ?_ (by with_reducible assumption))))), CellAt.out (by (repeat' (first | (with_reducible assumption) | (with_reducible refine CellAt.drew ?_) | (with_reducible refine CellAt.drewN ?_ _) | (with_reducible refine CellAt.alloc ?_ _) | (with_reducible refine CellAt.step ?_ (by with_reducible assumption))))), CellAt.out (by (repeat' (first | (with_reducible assumption) | (with_reducible refine CellAt.drew ?_) | (with_reducible refine CellAt.drewN ?_ _) | (with_reducible refine CellAt.alloc ?_ _) | (with_reducible refine CellAt.step ?_ (by with_reducible assumption)))))⟩)) (fail)
  go_wp2_with fail
  obtain ⟨Bn, hBn⟩ : ∃ Bn, w2.heap.size = Bn := ⟨_, rfl⟩
  generalize hW3 : (w2.alloc (.cells #[.int .i64 r, .int .i64 s, .slice ad nn cc, .int .i64 c] 73)).drew = w3
  have Rn : Row w3 Bn [.int .i64 r, .int .i64 s, .slice ad nn cc, .int .i64 c] := by rw [← hW3, ← hBn]; (repeat' (first | (with_reducible assumption) | (with_reducible refine Row.new' _ _ _ (by first | rfl | (simp; done) | omega)) | (with_reducible refine Row.alloc ?_ _) | (with_reducible refine Row.drew ?_) | (with_reducible refine Row.drewN ?_ _) | (with_reducible refine Row.step ?_ (by with_reducible assumption))))
  have hB23 : Below w2.heap.size w2 w3 := by rw [← hW3]; (repeat' (first | (with_reducible exact Below.refl _ _) | (with_reducible assumption) | (with_reducible exact Bw.out (by with_reducible assumption)) | (with_reducible refine bw_alloc ?_ _) | (with_reducible refine bw_step ?_ (by with_reducible assumption)) | (with_reducible refine Below.alloc ?_ ?_ _) | (with_reducible refine Below.drew ?_) | (with_reducible refine below_drewN ?_ _) | (with_reducible refine Below.setCell ?_ ?_ _) | (with_reducible refine below_step ?_ (by with_reducible assumption) ?_) | (with_reducible exact Nat.le_refl _) | omega | (simp; omega) | (simp; done)))
  have Rm : Row w3 (w.heap.size + 1) [.int .i64 most] := R_m_2.step hB23
  have Rres : Row w3 (w.heap.size + 1 + 1) [.int .i64 0, .int .i64 0, .slice none 0 0, .slice none 0 0] := R_res_2.step hB23
  have KX3 : Hid (SlC w3 ad nn cc zs) := KX.step hB23
  have HB3 : Hid (Below w.heap.size w w3) := HB2.trans (hB23.mono HB2.size)
  have hwn : w.heap.size + 1 + 1 < Bn := by omega
  rw [hBn]
  clear hW3 hB23 KX d0 d1 d2 d3 hb2 HB2 R_c_2 R_m_2 R_res_2 c_c_0_2 c_m_0_2 c_res_0_2 c_res_1_2 c_res_2_2 c_res_3_2 z_res_0_2 z_res_1_2 z_res_2_2 z_res_3_2 l_c_2 l_m_2 l_res_2 HS HI HBR H1 H3 HC HN l_c_1 l_m_1 l_res_1 hBn
  have HKS : Hid (∀ w', Below w3.heap.size w3 w' → w'.cell? ⟨Bn, 0, none⟩ = some (.int .i64 r) ∧ w'.cell? ⟨Bn, 1, none⟩ = some (.int .i64 s) ∧ w'.cell? ⟨Bn, 2, none⟩ = some (.slice ad nn cc) ∧ w'.cell? ⟨Bn, 3, none⟩ = some (.int .i64 c) ∧ w'.cell? ⟨w.heap.size + 1, 0, none⟩ = some (.int .i64 most)) :=
    fun w' h => ⟨(Rn.step h).cell 0 rfl, (Rn.step h).cell 1 rfl, (Rn.step h).cell 2 rfl, (Rn.step h).cell 3 rfl, (Rm.step h).cell 0 rfl⟩
  go_cut [11] from 38 to 44 (fun v wx => ∃ g : Nat, v = .pointer (some ⟨g, 0, none⟩) ∧ w3.heap.size ≤ g ∧ Row wx g [.int .i64 i, .int .i64 W, .slice none 0 0, .slice none 0 0] ∧ Bw w3.heap.size w3 wx)
  case first =>
    have hmx : (s - r < most + 1 ∧ Hid (W = most + 1)) ∨ (¬ s - r < most + 1 ∧ Hid (W = s - r)) := by
      have := HW.out
      unfold scW at this
      by_cases h : s - r < most + 1
      · exact Or.inl ⟨h, by show _ = _; omega⟩
      · exact Or.inr ⟨h, by show _ = _; omega⟩
    rcases hmx with ⟨hmx, hWW⟩ | ⟨hmx, hWW⟩
    all_goals
      have hWX := hWW.out
      subst hWX
      have hw1 : IntKind.i64.wrap (most + 1) = most + 1 := IntWalk.i64_in _ (by omega)
      go_region_held3 (fun w' => w'.cell? ⟨Bn, 0, none⟩ = some (.int .i64 r) ∧ w'.cell? ⟨Bn, 1, none⟩ = some (.int .i64 s) ∧ w'.cell? ⟨Bn, 2, none⟩ = some (.slice ad nn cc) ∧ w'.cell? ⟨Bn, 3, none⟩ = some (.int .i64 c) ∧ w'.cell? ⟨w.heap.size + 1, 0, none⟩ = some (.int .i64 most))
        ((exact HKS.out _ (by (repeat' (first | (with_reducible exact Below.refl _ _) | (with_reducible assumption) | (with_reducible exact Bw.out (by with_reducible assumption)) | (with_reducible refine bw_alloc ?_ _) | (with_reducible refine bw_step ?_ (by with_reducible assumption)) | (with_reducible refine Below.alloc ?_ ?_ _) | (with_reducible refine Below.drew ?_) | (with_reducible refine below_drewN ?_ _) | (with_reducible refine Below.setCell ?_ ?_ _) | (with_reducible refine below_step ?_ (by with_reducible assumption) ?_) | (with_reducible exact Nat.le_refl _) | omega | (simp; omega) | (simp; done)))))) ((go_at_call 51; (with_reducible refine (over_any r s c _ _ _ _ p3 p4 p5 p6).mono ?_); rintro e wx ⟨rfl, hbx⟩; obtain ⟨hcx, hzx⟩ := bcell hbx; have hsx := hbx.size; (try simp at hsx)))
      all_goals
        go_wp2_with fail
        clear hw1
        go_meet
        refine ⟨_, rfl, by first | (simp; done) | (simp; omega) | omega, ?_, ?_⟩
        · first
            | (with_reducible refine Row.new' _ _ _ ?_; first | rfl | (simp; done))
            | ((with_reducible refine Row.set4' ?_ _ _ _ _); refine ⟨.int .i64 0, .int .i64 0, .slice none 0 0, .slice none 0 0, Row.step ?_ hbx⟩; (repeat (with_reducible refine Row.drew ?_)); (with_reducible refine Row.new' _ _ _ ?_); first | rfl | (simp; done))
        · show Below _ _ _
          (repeat' (first | (with_reducible exact Below.refl _ _) | (with_reducible assumption) | (with_reducible exact Bw.out (by with_reducible assumption)) | (with_reducible refine bw_alloc ?_ _) | (with_reducible refine bw_step ?_ (by with_reducible assumption)) | (with_reducible refine Below.alloc ?_ ?_ _) | (with_reducible refine Below.drew ?_) | (with_reducible refine below_drewN ?_ _) | (with_reducible refine Below.setCell ?_ ?_ _) | (with_reducible refine below_step ?_ (by with_reducible assumption) ?_) | (with_reducible exact Nat.le_refl _) | omega | (simp; omega) | (simp; done)))
  case' rest =>
    obtain ⟨Bs, rfl, hBs, Rs, hB4⟩ := hcut
    obtain ⟨w4, hw4⟩ : ∃ wd, wd = wc := ⟨_, rfl⟩
    subst hw4
    have Rn4 := Rn.step hB4.out
    have Rres4 := Rres.step hB4.out
    have KX4 : Hid (SlC w4 ad nn cc zs) := KX3.out.step hB4.out
    have HB4 : Hid (Below w.heap.size w w4) := HB3.out.trans (hB4.out.mono HB3.out.size)
    have l3n := Rn.lt
    have hs34 := hB4.out.size
    have l4s := Rs.lt
    clear hB4 Rn Rm Rres KX3 HB3 HKS
    go_wp2_with fail
    have HKS4 : Hid (∀ w', Below w4.heap.size w4 w' → w'.cell? ⟨Bn, 0, none⟩ = some (.int .i64 r) ∧ w'.cell? ⟨Bn, 1, none⟩ = some (.int .i64 s) ∧ w'.cell? ⟨Bn, 2, none⟩ = some (.slice ad nn cc) ∧ w'.cell? ⟨Bn, 3, none⟩ = some (.int .i64 c) ∧ w'.cell? ⟨Bs, 1, none⟩ = some (.int .i64 W)) :=
      fun w' h => ⟨(Rn4.step h).cell 0 rfl, (Rn4.step h).cell 1 rfl, (Rn4.step h).cell 2 rfl, (Rn4.step h).cell 3 rfl, (Rs.step h).cell 1 rfl⟩
    go_cut [12] from 45 to 49 (fun v wx => ∃ g : Nat, v = .pointer (some ⟨g, 0, none⟩) ∧ w4.heap.size ≤ g ∧ Row wx g [.int .i64 L] ∧ Bw w4.heap.size w4 wx)
  case' first =>
    have hw2 : IntKind.i64.wrap (W - (s - r)) = W - (s - r) := IntWalk.i64_in _ (by omega)
    go_region_held3 (fun w' => w'.cell? ⟨Bn, 0, none⟩ = some (.int .i64 r) ∧ w'.cell? ⟨Bn, 1, none⟩ = some (.int .i64 s) ∧ w'.cell? ⟨Bn, 2, none⟩ = some (.slice ad nn cc) ∧ w'.cell? ⟨Bn, 3, none⟩ = some (.int .i64 c) ∧ w'.cell? ⟨Bs, 1, none⟩ = some (.int .i64 W))
      ((exact HKS4.out _ (by (repeat' (first | (with_reducible exact Below.refl _ _) | (with_reducible assumption) | (with_reducible exact Bw.out (by with_reducible assumption)) | (with_reducible refine bw_alloc ?_ _) | (with_reducible refine bw_step ?_ (by with_reducible assumption)) | (with_reducible refine Below.alloc ?_ ?_ _) | (with_reducible refine Below.drew ?_) | (with_reducible refine below_drewN ?_ _) | (with_reducible refine Below.setCell ?_ ?_ _) | (with_reducible refine below_step ?_ (by with_reducible assumption) ?_) | (with_reducible exact Nat.le_refl _) | omega | (simp; omega) | (simp; done)))))) ((go_at_call 51; (with_reducible refine (over_any r s c _ _ _ _ p3 p4 p5 p6).mono ?_); rintro e wx ⟨rfl, hbx⟩; obtain ⟨hcx, hzx⟩ := bcell hbx; have hsx := hbx.size; (try simp at hsx)))
    all_goals
      go_wp2_with fail
      clear hw2
      go_meet
      have hLe := HL.out
      subst hLe
      refine ⟨_, rfl, by first | (simp; done) | (simp; omega) | omega, ?_, ?_⟩
      · first
          | (with_reducible refine Row.new' _ _ _ ?_; first | rfl | (simp; done))
          | ((with_reducible refine Row.set1' ?_ _); refine ⟨.int .i64 0, Row.step ?_ hbx⟩; (repeat (with_reducible refine Row.drew ?_)); (with_reducible refine Row.new' _ _ _ ?_); first | rfl | (simp; done))
      · show Below _ _ _
        (repeat' (first | (with_reducible exact Below.refl _ _) | (with_reducible assumption) | (with_reducible exact Bw.out (by with_reducible assumption)) | (with_reducible refine bw_alloc ?_ _) | (with_reducible refine bw_step ?_ (by with_reducible assumption)) | (with_reducible refine Below.alloc ?_ ?_ _) | (with_reducible refine Below.drew ?_) | (with_reducible refine below_drewN ?_ _) | (with_reducible refine Below.setCell ?_ ?_ _) | (with_reducible refine below_step ?_ (by with_reducible assumption) ?_) | (with_reducible exact Nat.le_refl _) | omega | (simp; omega) | (simp; done)))
  case rest =>
    obtain ⟨Bl, rfl, hBl, Rl, hB5⟩ := hcut
    obtain ⟨w5, hw5⟩ : ∃ wd, wd = wc := ⟨_, rfl⟩
    subst hw5
    have Rn5 := Rn4.step hB5.out
    have Rs5 := Rs.step hB5.out
    have Rres5 := Rres4.step hB5.out
    have KX5 : Hid (SlC w5 ad nn cc zs) := KX4.out.step hB5.out
    have HB5 : Hid (Below w.heap.size w w5) := HB4.out.trans (hB5.out.mono HB4.out.size)
    have hs45 := hB5.out.size
    have l5 := Rl.lt
    clear hB5 Rn4 Rs Rres4 KX4 HB4 HKS4
    have c0 := Rn5.cell 0 rfl
    have c1 := Rn5.cell 1 rfl
    have c2 := Rn5.cell 2 rfl
    have c3 := Rn5.cell 3 rfl
    go_wp2_with fail
    refine wp_label ?_
    go_wp2_with fail
    refine (sellers_any r s c _ _ _ _).mono ?_
    rintro e w6 ⟨B, rfl, hBB, RB, hb6⟩
    have Rs6 := Rs5.step hb6
    have Rl6 := Rl.step hb6
    have Rres6 := Rres5.step hb6
    have KX6 : Hid (SlC w6 ad nn cc zs) := KX5.out.step hb6
    have HB6 : Hid (Below w.heap.size w w6) := HB5.out.trans (hb6.mono HB5.out.size)
    have hs56 := hb6.size
    have l6 := RB.lt
    clear hb6 Rn5 Rs5 Rl Rres5 KX5 HB5 c0 c1 c2 c3
    go_wp2_with fail
    have hn30 : nn ≤ 30 := by have := KX6.out.1; omega
    obtain ⟨base, hbase⟩ : ∃ base, w6.heap.size = base := ⟨_, rfl⟩
    have HBASE := Lib.hid hbase
    have hbs : Bs < base := by omega
    have hbl : Bl < base := by omega
    have hsl : Bs ≠ Bl := by omega
    have hsB : B ≠ Bs ∧ B ≠ Bl := by constructor <;> omega
    have hL0 : 0 ≤ L := by have := HL.out; omega
    have hL1 : L ≤ 2000 := by have := HL.out; omega
    obtain ⟨N, hN⟩ : ∃ N, (topL zs c).length = N := ⟨_, rfl⟩
    have hN30 : N ≤ 30 := by rw [← hN, topL_length]; omega
    have HNN := Lib.hid hN
    have hwb : w.heap.size ≤ base := by omega
    have hzw : ∀ b o, ad = some ⟨b, o, none⟩ → 0 < nn → b < w.heap.size := HZW.out
    have hstops := sellers_stops (ownP Bs Bl) 5 (by omega) B r s c ad nn cc zs w6 RB KX6.out hsb hc30
      (fun A C k hA hAC hk => by
        rcases hk with h | h | ⟨x0, x1, v1, v2, hr, hv⟩
        · exact Or.inl h
        · exact Or.inr (Or.inl h)
        · exact Or.inr (Or.inr ⟨x0, x1, v1, v2, hr.of_block (hAC.block Bs (by omega)).symm, hv⟩))
      (fun k hk => by
        rcases hk with h | h | ⟨x0, x1, v1, v2, hr, hv⟩
        · exact ⟨by omega, by omega, fun b o e h0 => by have := hzw b o e h0; omega⟩
        · exact ⟨by omega, by omega, fun b o e h0 => by have := hzw b o e h0; omega⟩
        · have e := Row.uniq hr Rs6
          simp only [List.cons.injEq, and_true] at e
          obtain ⟨_, _, rfl, rfl⟩ := e
          simp [Value.ownBlock] at hv)
    have HST := Lib.hid hstops
    clear hstops hzw hN
    refine (wpIn_wide (n := 6)).1 ?_
    refine wpIn_rangeFunc_ownF (w0 := w6) (α := ChS) rfl (by omega) rfl trivial (enters_of Try.func65 (by kernel_rfl) rfl) HST.out (fun h k => h.trans k)
      (fun Wx l o o' hl ho hc hwk => KeepsO.putObj o' ho hc (fun k hk => by
        rcases hk with h | h | ⟨x0, x1, v1, v2, hr, hv⟩
        · exact Or.inl h
        · exact Or.inr (Or.inl h)
        · refine Or.inr (Or.inr ⟨x0, x1, v1, v2, hr.of_block ?_, hv⟩)
          exact ((grownBy_putObj' Wx l o').block Bs (by have := (Array.getElem?_eq_some_iff.1 ho).1; omega) (fun e => by cases e; omega)).symm))
      (Below.refl _ _) (fun _ => rfl)
      (InvP w Bs Bl base i W L) (fun cx pre wr => cx = .exit 0 ∧ sLeft L pre = 0 ∧ InvP w Bs Bl base i W L pre wr)
      (by rw [hbase]; exact invP_own hwb) (fun cx s A C row hs hg hr => ⟨hs.1, hs.2.1, invP_own hwb s A C row hs.2.2 hg (fun r e => by rw [← hbase]; exact hr r e)⟩)
      ⟨⟨_, _, Rs6, OwnV.nil _ _, OwnV.nil _ _, fun g h => by simp [Value.ownBlock] at h⟩, by simpa [sLeft, sS] using Rl6, Rres6, HB6.out, by omega⟩
      (fun x => { tmps := #[Value.slice (some ⟨bx, ox, none⟩) n cap, .int .i64 c, .int .i64 most, undef, .pointer (some ⟨w.heap.size, 0, none⟩), .pointer (some ⟨w.heap.size + 1, 0, none⟩), .pointer (some ⟨w.heap.size + 1 + 1, 0, none⟩), .bool false, .int .i64 0, .int .i64 i, .pointer (some ⟨Bn, 0, none⟩), .pointer (some ⟨Bs, 0, none⟩), .pointer (some ⟨Bl, 0, none⟩), .int .i64 x.1.1, .int .i64 x.1.2, undef, .slice (some ⟨bx, ox, none⟩) n cap, .int .i64 c, .bool true, .bool false, .bool false, .int .i64 most, .bool true, .bool false, .bool false, undef, .slice (some ⟨bx, ox, none⟩) n cap, .func (.func 50) #[] #[.pointer (some ⟨w.heap.size, 0, none⟩), .pointer (some ⟨w.heap.size + 1, 0, none⟩)], .int .i64 i, .int .i64 i, .bool (decide ((i : Int) < 0)), undef, .slice (some ⟨bx, ox, none⟩) n cap, .int .i64 i, .pointer (some ⟨bx, ox + i * 3, none⟩), .agg #[.int .i64 r, .int .i64 s, .slice ad nn cc], .int .i64 c, .agg #[.int .i64 r, .int .i64 s, .slice ad nn cc, .int .i64 c], u38, u39, u40, u41, u42, u43, u44, u45, u46, u47, u48, u49, .agg #[.int .i64 r, .int .i64 s, .slice ad nn cc, .int .i64 c], .func (.func 65) #[] #[.pointer (some ⟨B, 0, none⟩)], .int .i64 x.1.1, .int .i64 x.1.2, undef, undef, undef, undef, undef, undef, undef, undef, undef, undef, undef, undef, undef, undef, undef, undef, undef, undef, undef, undef, undef], defers := [] }) ?assign ?body ?done ?stop
    case assign =>
      intro l x W K hK
      gi_wp2
      exact hK
    case body =>
      rintro lx pre x Wx ⟨⟨v1, v2, q1, q2, q3, q4⟩, q5, q6, q7, hbsz⟩ hpl
      obtain ⟨lf, hlf⟩ : ∃ lf, sLeft L pre = lf := ⟨_, rfl⟩
      have hlb := sLeft_in pre L hL0
      rw [hlf] at hlb q5
      obtain ⟨hlb1, hlb2⟩ := hlb
      have c0 := q5.cell 0 rfl
      have HLF := Lib.hid hlf
      have l5x := q5.lt
      by_cases hz : lf = 0
      · subst hz
        have hnx : InvP w Bs Bl base i W L (pre ++ [x]) Wx := by
          refine ⟨⟨v1, v2, q1, ?_, ?_, q4⟩, ?_, q6, q7, hbsz⟩
          · rw [sC_snoc, if_pos hlf]; simpa using q2
          · rw [sS_snoc, if_pos hlf]; simpa using q3
          · rw [sLeft_snoc, if_pos hlf, hlf]; simpa using q5
        have hn0 : sLeft L (pre ++ [x]) = 0 := by rw [sLeft_snoc, if_pos hlf, hlf]; rfl
        have HNX := Lib.hid hnx
        have HN0 := Lib.hid hn0
        clear hnx hn0 hlf q1 q2 q3 q4 q6 q7
        gi_wp2_with fail
        exact ⟨KeepsOthers.refl _, rfl, HN0.out, HNX.out⟩
      · have hzb : (lf == 0) = false := by simpa using hz
        obtain ⟨x2l, x2h⟩ := x.2
        have hcase : (lf ≤ x.1.2 ∧ min lf x.1.2 = lf) ∨ (x.1.2 < lf ∧ min lf x.1.2 = x.1.2) := by omega
        have hC2 : sC L (pre ++ [x]) = sC L pre ++ [x.1.1] := by rw [sC_snoc, if_neg (by rw [hlf]; exact hz)]
        have hS2 : sS L (pre ++ [x]) = sS L pre ++ [min lf x.1.2] := by rw [sS_snoc, if_neg (by rw [hlf]; exact hz), hlf]
        have hL2 : sLeft L (pre ++ [x]) = lf - min lf x.1.2 := by rw [sLeft_snoc, if_neg (by rw [hlf]; exact hz), hlf]
        have HC2 := Lib.hid hC2
        have HBX : Hid (base ≤ Wx.heap.size) := hbsz
        have HQ4 := Lib.hid q4
        have e2 := q1.cell 2 rfl
        have e3 := q1.cell 3 rfl
        have f2 := q1.frozen 2
        have f3 := q1.frozen 3
        have lsx := q1.lt
        clear hlf hz hC2 q4
        rcases hcase with ⟨hc, hm⟩ | ⟨hc, hm⟩
        ·
          rw [hm] at hS2 hL2
          have HS2 := Lib.hid hS2
          have HL2 := Lib.hid hL2
          clear hS2 hL2 hm
          gi_wp2_with fail
          refine AnyJ.begin (fun w' => w'.cell? ⟨Bs, 2, none⟩ = some v1 ∧ w'.cell? ⟨Bs, 3, none⟩ = some v2) (fun j => j == 1 || (j == 6 || (j == 3 || (j == 4 || (j == 8 || j == 9))))) (by kernel_rfl) (by kernel_rfl) (fun ⟨_, _, h⟩ => h) ?_
          have hS0 : Wx.drew.cell? ⟨Bs, 2, none⟩ = some v1 ∧ Wx.drew.cell? ⟨Bs, 3, none⟩ = some v2 := ⟨e2, e3⟩
          refine AnyJ.takeY (i := 0) (v := ?_) rfl (by kernel_rfl) (by kernel_rfl) (by kernel_rfl) rfl (fun _ _ _ h => h) (Or.inl ⟨by rfl, ?_⟩) ?_
          rotate_left
          · intro w'
            go_simp
            try with_reducible rfl
          refine AnyJ.takeY (i := 2) (v := ?_) rfl (by kernel_rfl) (by kernel_rfl) (by kernel_rfl) rfl (fun _ _ _ h => h) (Or.inl ⟨by rfl, ?_⟩) ?_
          rotate_left
          · intro w'
            go_simp
            try with_reducible rfl
          refine AnyJ.takeY (i := 5) (v := ?_) rfl (by kernel_rfl) (by kernel_rfl) (by kernel_rfl) rfl (fun _ _ _ h => h) (Or.inl ⟨by rfl, ?_⟩) ?_
          rotate_left
          · intro w'
            go_simp
            try with_reducible rfl
          refine AnyJ.takeY (i := 7) (v := ?_) rfl (by kernel_rfl) (by kernel_rfl) (by kernel_rfl) rfl (fun _ _ _ h => h) (Or.inl ⟨by rfl, ?_⟩) ?_
          rotate_left
          · intro w'
            go_simp
            try with_reducible rfl
          refine AnyJ.take (i := 1) (v := ?_) rfl (by kernel_rfl) (by kernel_rfl) (by kernel_rfl) (by kernel_rfl) (fun _ _ _ h => h) (Or.inl ⟨by rfl, ?_⟩) hS0 ?_
          rotate_left
          · intro w' hS
            obtain ⟨s1, s2⟩ := hS
            go_simp
            try with_reducible rfl
          refine AnyJ.take (i := 6) (v := ?_) rfl (by kernel_rfl) (by kernel_rfl) (by kernel_rfl) (by kernel_rfl) (fun _ _ _ h => h) (Or.inl ⟨by rfl, ?_⟩) hS0 ?_
          rotate_left
          · intro w' hS
            obtain ⟨s1, s2⟩ := hS
            go_simp
            try with_reducible rfl
          have HSC : Hid (∀ W', Ch (fun k => v1.ownBlock = some k ∨ v2.ownBlock = some k) Wx W' → W'.cell? ⟨Bs, 2, none⟩ = some v1 ∧ W'.cell? ⟨Bs, 3, none⟩ = some v2) := fun W' h => by
            have := q1.ch h (fun hh => by
              rcases hh with hh | hh
              · have := (q2.lt hh).1; omega
              · have := (q3.lt hh).1; omega)
            exact ⟨this.cell 2 rfl, this.cell 3 rfl⟩
          have HLn : Hid ((sC L pre).length ≤ 1000 ∧ (sS L pre).length ≤ 1000) := by
            have := sC_length pre L
            have h9 := hpl
            rw [HNN.out] at h9
            exact ⟨by omega, by omega⟩
          have hbx2 : base ≤ Wx.heap.size := by have := HBX.out; omega
          have hszx : Wx.heap.size = Wx.heap.size := rfl
          refine AnyJ.two (i := 3) (j := 8) (by kernel_rfl) rfl rfl (fun K hK => ?_) (fun K hK => ?_)
          · go_simp
            obtain ⟨WA, hWA⟩ : ∃ W', (Wx.alloc (.cells #[.int .i64 x.1.1] 3)).drew = W' := ⟨_, rfl⟩
            rw [hWA]
            have hCA : Ch (fun _ => False) Wx WA := by rw [← hWA]; exact ((Ch.refl _ _).alloc _).drew
            have RA : Row WA Wx.heap.size [.int .i64 x.1.1] := by rw [← hWA]; exact Row.new' _ [_] _ rfl
            have sA : WA.heap.size = Wx.heap.size + 1 := by rw [← hWA]; simp
            have hXA := hCA.mono (p := fun k => v1.ownBlock = some k ∨ v2.ownBlock = some k) (fun k _ h => h.elim)
            have p2 := q2.ch hCA (fun _ _ h => h)
            have p3 := q3.ch hCA (fun _ _ h => h)
            clear hWA hCA
            refine hK _ _ (fun _ => HSC.out _ hXA) ?_
            clear hK K
            refine AnyJ.two (i := 4) (j := 8) (by kernel_rfl) rfl rfl (fun K hK => ?_) (fun K hK => ?_)
            · refine step_app_int rfl (.tmp 60) (.tmp 62) 23 rfl Try.underlying23 base v1 (sC L pre) (by simp [Act.eval, Act.put]) p2 Wx.heap.size 1 x.1.1 (by simp [Act.eval, Act.put]) (RA.cell 0 rfl) (by have := HLn.out.1; omega) (by omega) ?_
              intro g1 cp1 WB ho1 hg1 hor1
              have hXB : Ch (fun k => v1.ownBlock = some k ∨ v2.ownBlock = some k) Wx WB := hXA.trans (Ch.of_grown hg1 (fun k e => Or.inl e))
              have sB := hg1.size
              have p3B : OwnV WB base v2 (sS L pre) := p3.ch (Ch.of_grown (o := fun k => v1.ownBlock = some k) hg1 (fun k e => e)) (fun g h1 h2 => HQ4.out g h2 h1)
              have t1 : v1.ownBlock = some g1 ∨ Wx.heap.size ≤ g1 := hor1.imp id (fun e => by omega)
              have t2 : v2.ownBlock ≠ some g1 := fun e => by
                rcases hor1 with h | h
                · exact HQ4.out g1 h e
                · have := (q3.lt e).2; omega
              refine hK _ _ (fun _ => HSC.out _ hXB) ?_
              clear hK K hor1 hg1
              refine AnyJ.takeY (i := 10) (v := ?_) rfl (by kernel_rfl) (by kernel_rfl) (by kernel_rfl) rfl (fun _ _ _ h => h) (Or.inl ⟨by rfl, ?_⟩) ?_
              rotate_left
              · intro w'
                go_simp
                try with_reducible rfl
              refine AnyJ.one (i := 8) (by kernel_rfl) rfl (fun K hK => ?_)
              go_simp
              obtain ⟨WC, hWC⟩ : ∃ W', WB.alloc (.cells #[.int .i64 lf] 3) = W' := ⟨_, rfl⟩
              rw [hWC]
              have hCC : Ch (fun _ => False) WB WC := by rw [← hWC]; exact (Ch.refl _ _).alloc _
              have RC : Row WC WB.heap.size [.int .i64 lf] := by rw [← hWC]; exact Row.new' _ [_] _ rfl
              have hXC := hXB.trans (hCC.mono (p := fun k => v1.ownBlock = some k ∨ v2.ownBlock = some k) (fun k _ h => h.elim))
              have o1C := ho1.ch hCC (fun _ _ h => h)
              have p3C := p3B.ch hCC (fun _ _ h => h)
              clear hWC hCC
              refine hK _ _ (fun _ => HSC.out _ hXC) ?_
              clear hK K
              refine AnyJ.one (i := 9) (by kernel_rfl) rfl (fun K hK => ?_)
              refine step_app_int rfl (.tmp 65) (.tmp 67) 23 rfl Try.underlying23 base v2 (sS L pre) (by simp [Act.eval, Act.put]) p3C WB.heap.size 1 lf (by simp [Act.eval, Act.put]) (RC.cell 0 rfl) (by have := HLn.out.2; omega) (by have := hXC.size; omega) ?_
              intro g2 cp2 WD ho2 hg2 hor2
              have hXD : Ch (fun k => v1.ownBlock = some k ∨ v2.ownBlock = some k) Wx WD := hXC.trans (Ch.of_grown hg2 (fun k e => Or.inr e))
              have o1D := o1C.ch (Ch.of_grown (o := fun k => v2.ownBlock = some k) hg2 (fun k e => e)) (fun g h1 h2 => by cases h1; exact t2 h2)
              have t3 : v2.ownBlock = some g2 ∨ Wx.heap.size ≤ g2 := hor2.imp id (fun e => by have := hXC.size; omega)
              have t4 : g1 ≠ g2 := fun e => by
                rcases hor2 with h | h
                · exact t2 (by rw [e]; exact h)
                · have h5 : g1 < WC.heap.size := (o1C.lt rfl).2
                  rw [e, h] at h5
                  exact Nat.lt_irrefl _ h5
              refine hK _ _ (fun _ => HSC.out _ hXD) ?_
              clear hK K hor2 hg2
              have FIN := Lib.hid (body_fin (lf := lf) (q := 0) q1 q2 q3 q5 q6 q7 hsl hbs hbl (by omega) (by omega) hXD o1D ho2 (fun g e => by cases e; exact t1) (fun g e => by cases e; exact t3) (fun g e1 e2 => by cases e1; cases e2; exact t4 rfl) rfl)
              have RD := q1.ch hXD (fun hh => by
                rcases hh with hh | hh
                · have := (q2.lt hh).1; omega
                · have := (q3.lt hh).1; omega)
              have RL := q5.ch hXD (fun hh => by
                rcases hh with hh | hh
                · have := (q2.lt hh).1; omega
                · have := (q3.lt hh).1; omega)
              have e2D := RD.cell 2 rfl
              have e3D := RD.cell 3 rfl
              have f2D := RD.frozen 2
              have f3D := RD.frozen 3
              have c0D := RL.cell 0 rfl
              have fLD := RL.frozen 0
              clear e2 e3 f2 f3 c0
              refine AnyJ.one (i := 11) (by kernel_rfl) rfl (fun K hK => ?_)
              go_simp
              refine hK _ _ (fun h => by cases h) ?_
              clear hK K
              refine AnyJ.takeY (i := 12) (v := ?_) rfl (by kernel_rfl) (by kernel_rfl) (by kernel_rfl) rfl (fun _ _ _ h => h) (Or.inl ⟨by rfl, ?_⟩) ?_
              rotate_left
              · intro w'
                go_simp
                try with_reducible rfl
              refine AnyJ.one (i := 13) (by kernel_rfl) rfl (fun K hK => ?_)
              go_simp
              refine hK _ _ (fun h => by cases h) ?_
              clear hK K
              refine AnyJ.done (by kernel_rfl) ?_ _
              gi_wp2_with fail
              have HL3 : Hid (sLeft L (pre ++ [x]) = 0) := by show _ = _; rw [HL2.out]; try omega
              obtain ⟨F1, F2, ⟨z1, z2, F3, F4, F5, F6⟩, F7, F8, F9⟩ := FIN.out
              refine ⟨F1, F2, ⟨z1, z2, F3, ?_, ?_, F6⟩, ?_, F8, F9, Nat.le_trans hbsz F1.1⟩
              · rw [HC2.out]; exact F4
              · rw [HS2.out]; exact F5
              · rw [HL3.out]; exact F7
            ·
              go_simp
              obtain ⟨WB, hWB⟩ : ∃ W', WA.alloc (.cells #[.int .i64 lf] 3) = W' := ⟨_, rfl⟩
              rw [hWB]
              have hCB : Ch (fun _ => False) WA WB := by rw [← hWB]; exact (Ch.refl _ _).alloc _
              have R8 : Row WB WA.heap.size [.int .i64 lf] := by rw [← hWB]; exact Row.new' _ [_] _ rfl
              have R3 := RA.ch hCB (fun h => h)
              have sB : WB.heap.size = WA.heap.size + 1 := by rw [← hWB]; simp
              have hXB := hXA.trans (hCB.mono (p := fun k => v1.ownBlock = some k ∨ v2.ownBlock = some k) (fun k _ h => h.elim))
              replace p2 := p2.ch hCB (fun _ _ h => h)
              replace p3 := p3.ch hCB (fun _ _ h => h)
              clear hWB hCB
              refine hK _ _ (fun _ => HSC.out _ hXB) ?_
              clear hK K
              refine AnyJ.one (i := 4) (by kernel_rfl) rfl (fun K hK => ?_)
              refine step_app_int rfl (.tmp 60) (.tmp 62) 23 rfl Try.underlying23 base v1 (sC L pre) (by simp [Act.eval, Act.put]) p2 Wx.heap.size 1 x.1.1 (by simp [Act.eval, Act.put]) (R3.cell 0 rfl) (by have := HLn.out.1; omega) (by omega) ?_
              intro g1 cp1 WC o1C hg1 hor1
              have hXC : Ch (fun k => v1.ownBlock = some k ∨ v2.ownBlock = some k) Wx WC := hXB.trans (Ch.of_grown hg1 (fun k e => Or.inl e))
              have p3C : OwnV WC base v2 (sS L pre) := p3.ch (Ch.of_grown (o := fun k => v1.ownBlock = some k) hg1 (fun k e => e)) (fun g h1 h2 => HQ4.out g h2 h1)
              have RC : Row WC WA.heap.size [.int .i64 lf] := R8.ch (Ch.of_grown (o := fun k => v1.ownBlock = some k) hg1 (fun k e => e)) (fun h => by have := (q2.lt h).2; omega)
              have t1 : v1.ownBlock = some g1 ∨ Wx.heap.size ≤ g1 := hor1.imp id (fun e => by omega)
              have t2 : v2.ownBlock ≠ some g1 := fun e => by
                rcases hor1 with h | h
                · exact HQ4.out g1 h e
                · have := (q3.lt e).2; omega
              refine hK _ _ (fun _ => HSC.out _ hXC) ?_
              clear hK K hor1 hg1
              refine AnyJ.takeY (i := 10) (v := ?_) rfl (by kernel_rfl) (by kernel_rfl) (by kernel_rfl) rfl (fun _ _ _ h => h) (Or.inl ⟨by rfl, ?_⟩) ?_
              rotate_left
              · intro w'
                go_simp
                try with_reducible rfl
              refine AnyJ.one (i := 9) (by kernel_rfl) rfl (fun K hK => ?_)
              refine step_app_int rfl (.tmp 65) (.tmp 67) 23 rfl Try.underlying23 base v2 (sS L pre) (by simp [Act.eval, Act.put]) p3C WA.heap.size 1 lf (by simp [Act.eval, Act.put]) (RC.cell 0 rfl) (by have := HLn.out.2; omega) (by have := hXC.size; omega) ?_
              intro g2 cp2 WD ho2 hg2 hor2
              have hXD : Ch (fun k => v1.ownBlock = some k ∨ v2.ownBlock = some k) Wx WD := hXC.trans (Ch.of_grown hg2 (fun k e => Or.inr e))
              have o1D := o1C.ch (Ch.of_grown (o := fun k => v2.ownBlock = some k) hg2 (fun k e => e)) (fun g h1 h2 => by cases h1; exact t2 h2)
              have t3 : v2.ownBlock = some g2 ∨ Wx.heap.size ≤ g2 := hor2.imp id (fun e => by have := hXC.size; omega)
              have t4 : g1 ≠ g2 := fun e => by
                rcases hor2 with h | h
                · exact t2 (by rw [e]; exact h)
                · have h5 : g1 < WC.heap.size := (o1C.lt rfl).2
                  rw [e, h] at h5
                  exact Nat.lt_irrefl _ h5
              refine hK _ _ (fun _ => HSC.out _ hXD) ?_
              clear hK K hor2 hg2
              have FIN := Lib.hid (body_fin (lf := lf) (q := 0) q1 q2 q3 q5 q6 q7 hsl hbs hbl (by omega) (by omega) hXD o1D ho2 (fun g e => by cases e; exact t1) (fun g e => by cases e; exact t3) (fun g e1 e2 => by cases e1; cases e2; exact t4 rfl) rfl)
              have RD := q1.ch hXD (fun hh => by
                rcases hh with hh | hh
                · have := (q2.lt hh).1; omega
                · have := (q3.lt hh).1; omega)
              have RL := q5.ch hXD (fun hh => by
                rcases hh with hh | hh
                · have := (q2.lt hh).1; omega
                · have := (q3.lt hh).1; omega)
              have e2D := RD.cell 2 rfl
              have e3D := RD.cell 3 rfl
              have f2D := RD.frozen 2
              have f3D := RD.frozen 3
              have c0D := RL.cell 0 rfl
              have fLD := RL.frozen 0
              clear e2 e3 f2 f3 c0
              refine AnyJ.one (i := 11) (by kernel_rfl) rfl (fun K hK => ?_)
              go_simp
              refine hK _ _ (fun h => by cases h) ?_
              clear hK K
              refine AnyJ.takeY (i := 12) (v := ?_) rfl (by kernel_rfl) (by kernel_rfl) (by kernel_rfl) rfl (fun _ _ _ h => h) (Or.inl ⟨by rfl, ?_⟩) ?_
              rotate_left
              · intro w'
                go_simp
                try with_reducible rfl
              refine AnyJ.one (i := 13) (by kernel_rfl) rfl (fun K hK => ?_)
              go_simp
              refine hK _ _ (fun h => by cases h) ?_
              clear hK K
              refine AnyJ.done (by kernel_rfl) ?_ _
              gi_wp2_with fail
              have HL3 : Hid (sLeft L (pre ++ [x]) = 0) := by show _ = _; rw [HL2.out]; try omega
              obtain ⟨F1, F2, ⟨z1, z2, F3, F4, F5, F6⟩, F7, F8, F9⟩ := FIN.out
              refine ⟨F1, F2, ⟨z1, z2, F3, ?_, ?_, F6⟩, ?_, F8, F9, Nat.le_trans hbsz F1.1⟩
              · rw [HC2.out]; exact F4
              · rw [HS2.out]; exact F5
              · rw [HL3.out]; exact F7
          ·
            go_simp
            obtain ⟨WA, hWA⟩ : ∃ W', (Wx.alloc (.cells #[.int .i64 lf] 3)).drew = W' := ⟨_, rfl⟩
            rw [hWA]
            have hCA : Ch (fun _ => False) Wx WA := by rw [← hWA]; exact ((Ch.refl _ _).alloc _).drew
            have RA : Row WA Wx.heap.size [.int .i64 lf] := by rw [← hWA]; exact Row.new' _ [_] _ rfl
            have sA : WA.heap.size = Wx.heap.size + 1 := by rw [← hWA]; simp
            have hXA := hCA.mono (p := fun k => v1.ownBlock = some k ∨ v2.ownBlock = some k) (fun k _ h => h.elim)
            have p2 := q2.ch hCA (fun _ _ h => h)
            have p3 := q3.ch hCA (fun _ _ h => h)
            clear hWA hCA
            refine hK _ _ (fun _ => HSC.out _ hXA) ?_
            clear hK K
            refine AnyJ.one (i := 3) (by kernel_rfl) rfl (fun K hK => ?_)
            go_simp
            obtain ⟨WB, hWB⟩ : ∃ W', WA.alloc (.cells #[.int .i64 x.1.1] 3) = W' := ⟨_, rfl⟩
            rw [hWB]
            have hCB : Ch (fun _ => False) WA WB := by rw [← hWB]; exact (Ch.refl _ _).alloc _
            have R3 : Row WB WA.heap.size [.int .i64 x.1.1] := by rw [← hWB]; exact Row.new' _ [_] _ rfl
            have R8 := RA.ch hCB (fun h => h)
            have sB : WB.heap.size = WA.heap.size + 1 := by rw [← hWB]; simp
            have hXB := hXA.trans (hCB.mono (p := fun k => v1.ownBlock = some k ∨ v2.ownBlock = some k) (fun k _ h => h.elim))
            replace p2 := p2.ch hCB (fun _ _ h => h)
            replace p3 := p3.ch hCB (fun _ _ h => h)
            clear hWB hCB
            refine hK _ _ (fun _ => HSC.out _ hXB) ?_
            clear hK K
            refine AnyJ.one (i := 4) (by kernel_rfl) rfl (fun K hK => ?_)
            refine step_app_int rfl (.tmp 60) (.tmp 62) 23 rfl Try.underlying23 base v1 (sC L pre) (by simp [Act.eval, Act.put]) p2 WA.heap.size 1 x.1.1 (by simp [Act.eval, Act.put]) (R3.cell 0 rfl) (by have := HLn.out.1; omega) (by omega) ?_
            intro g1 cp1 WC o1C hg1 hor1
            have hXC : Ch (fun k => v1.ownBlock = some k ∨ v2.ownBlock = some k) Wx WC := hXB.trans (Ch.of_grown hg1 (fun k e => Or.inl e))
            have p3C : OwnV WC base v2 (sS L pre) := p3.ch (Ch.of_grown (o := fun k => v1.ownBlock = some k) hg1 (fun k e => e)) (fun g h1 h2 => HQ4.out g h2 h1)
            have RC : Row WC Wx.heap.size [.int .i64 lf] := R8.ch (Ch.of_grown (o := fun k => v1.ownBlock = some k) hg1 (fun k e => e)) (fun h => by have := (q2.lt h).2; omega)
            have t1 : v1.ownBlock = some g1 ∨ Wx.heap.size ≤ g1 := hor1.imp id (fun e => by omega)
            have t2 : v2.ownBlock ≠ some g1 := fun e => by
              rcases hor1 with h | h
              · exact HQ4.out g1 h e
              · have := (q3.lt e).2; omega
            refine hK _ _ (fun _ => HSC.out _ hXC) ?_
            clear hK K hor1 hg1
            refine AnyJ.takeY (i := 10) (v := ?_) rfl (by kernel_rfl) (by kernel_rfl) (by kernel_rfl) rfl (fun _ _ _ h => h) (Or.inl ⟨by rfl, ?_⟩) ?_
            rotate_left
            · intro w'
              go_simp
              try with_reducible rfl
            refine AnyJ.one (i := 9) (by kernel_rfl) rfl (fun K hK => ?_)
            refine step_app_int rfl (.tmp 65) (.tmp 67) 23 rfl Try.underlying23 base v2 (sS L pre) (by simp [Act.eval, Act.put]) p3C Wx.heap.size 1 lf (by simp [Act.eval, Act.put]) (RC.cell 0 rfl) (by have := HLn.out.2; omega) (by have := hXC.size; omega) ?_
            intro g2 cp2 WD ho2 hg2 hor2
            have hXD : Ch (fun k => v1.ownBlock = some k ∨ v2.ownBlock = some k) Wx WD := hXC.trans (Ch.of_grown hg2 (fun k e => Or.inr e))
            have o1D := o1C.ch (Ch.of_grown (o := fun k => v2.ownBlock = some k) hg2 (fun k e => e)) (fun g h1 h2 => by cases h1; exact t2 h2)
            have t3 : v2.ownBlock = some g2 ∨ Wx.heap.size ≤ g2 := hor2.imp id (fun e => by have := hXC.size; omega)
            have t4 : g1 ≠ g2 := fun e => by
              rcases hor2 with h | h
              · exact t2 (by rw [e]; exact h)
              · have h5 : g1 < WC.heap.size := (o1C.lt rfl).2
                rw [e, h] at h5
                exact Nat.lt_irrefl _ h5
            refine hK _ _ (fun _ => HSC.out _ hXD) ?_
            clear hK K hor2 hg2
            have FIN := Lib.hid (body_fin (lf := lf) (q := 0) q1 q2 q3 q5 q6 q7 hsl hbs hbl (by omega) (by omega) hXD o1D ho2 (fun g e => by cases e; exact t1) (fun g e => by cases e; exact t3) (fun g e1 e2 => by cases e1; cases e2; exact t4 rfl) rfl)
            have RD := q1.ch hXD (fun hh => by
              rcases hh with hh | hh
              · have := (q2.lt hh).1; omega
              · have := (q3.lt hh).1; omega)
            have RL := q5.ch hXD (fun hh => by
              rcases hh with hh | hh
              · have := (q2.lt hh).1; omega
              · have := (q3.lt hh).1; omega)
            have e2D := RD.cell 2 rfl
            have e3D := RD.cell 3 rfl
            have f2D := RD.frozen 2
            have f3D := RD.frozen 3
            have c0D := RL.cell 0 rfl
            have fLD := RL.frozen 0
            clear e2 e3 f2 f3 c0
            refine AnyJ.one (i := 11) (by kernel_rfl) rfl (fun K hK => ?_)
            go_simp
            refine hK _ _ (fun h => by cases h) ?_
            clear hK K
            refine AnyJ.takeY (i := 12) (v := ?_) rfl (by kernel_rfl) (by kernel_rfl) (by kernel_rfl) rfl (fun _ _ _ h => h) (Or.inl ⟨by rfl, ?_⟩) ?_
            rotate_left
            · intro w'
              go_simp
              try with_reducible rfl
            refine AnyJ.one (i := 13) (by kernel_rfl) rfl (fun K hK => ?_)
            go_simp
            refine hK _ _ (fun h => by cases h) ?_
            clear hK K
            refine AnyJ.done (by kernel_rfl) ?_ _
            gi_wp2_with fail
            have HL3 : Hid (sLeft L (pre ++ [x]) = 0) := by show _ = _; rw [HL2.out]; try omega
            obtain ⟨F1, F2, ⟨z1, z2, F3, F4, F5, F6⟩, F7, F8, F9⟩ := FIN.out
            refine ⟨F1, F2, ⟨z1, z2, F3, ?_, ?_, F6⟩, ?_, F8, F9, Nat.le_trans hbsz F1.1⟩
            · rw [HC2.out]; exact F4
            · rw [HS2.out]; exact F5
            · rw [HL3.out]; exact F7
        ·
          rw [hm] at hS2 hL2
          have HS2 := Lib.hid hS2
          have HL2 := Lib.hid hL2
          clear hS2 hL2 hm
          gi_wp2_with fail
          refine AnyJ.begin (fun w' => w'.cell? ⟨Bs, 2, none⟩ = some v1 ∧ w'.cell? ⟨Bs, 3, none⟩ = some v2) (fun j => j == 1 || (j == 6 || (j == 3 || (j == 4 || (j == 8 || j == 9))))) (by kernel_rfl) (by kernel_rfl) (fun ⟨_, _, h⟩ => h) ?_
          have hS0 : Wx.drew.cell? ⟨Bs, 2, none⟩ = some v1 ∧ Wx.drew.cell? ⟨Bs, 3, none⟩ = some v2 := ⟨e2, e3⟩
          refine AnyJ.takeY (i := 0) (v := ?_) rfl (by kernel_rfl) (by kernel_rfl) (by kernel_rfl) rfl (fun _ _ _ h => h) (Or.inl ⟨by rfl, ?_⟩) ?_
          rotate_left
          · intro w'
            go_simp
            try with_reducible rfl
          refine AnyJ.takeY (i := 2) (v := ?_) rfl (by kernel_rfl) (by kernel_rfl) (by kernel_rfl) rfl (fun _ _ _ h => h) (Or.inl ⟨by rfl, ?_⟩) ?_
          rotate_left
          · intro w'
            go_simp
            try with_reducible rfl
          refine AnyJ.takeY (i := 5) (v := ?_) rfl (by kernel_rfl) (by kernel_rfl) (by kernel_rfl) rfl (fun _ _ _ h => h) (Or.inl ⟨by rfl, ?_⟩) ?_
          rotate_left
          · intro w'
            go_simp
            try with_reducible rfl
          refine AnyJ.takeY (i := 7) (v := ?_) rfl (by kernel_rfl) (by kernel_rfl) (by kernel_rfl) rfl (fun _ _ _ h => h) (Or.inl ⟨by rfl, ?_⟩) ?_
          rotate_left
          · intro w'
            go_simp
            try with_reducible rfl
          refine AnyJ.take (i := 1) (v := ?_) rfl (by kernel_rfl) (by kernel_rfl) (by kernel_rfl) (by kernel_rfl) (fun _ _ _ h => h) (Or.inl ⟨by rfl, ?_⟩) hS0 ?_
          rotate_left
          · intro w' hS
            obtain ⟨s1, s2⟩ := hS
            go_simp
            try with_reducible rfl
          refine AnyJ.take (i := 6) (v := ?_) rfl (by kernel_rfl) (by kernel_rfl) (by kernel_rfl) (by kernel_rfl) (fun _ _ _ h => h) (Or.inl ⟨by rfl, ?_⟩) hS0 ?_
          rotate_left
          · intro w' hS
            obtain ⟨s1, s2⟩ := hS
            go_simp
            try with_reducible rfl
          have HSC : Hid (∀ W', Ch (fun k => v1.ownBlock = some k ∨ v2.ownBlock = some k) Wx W' → W'.cell? ⟨Bs, 2, none⟩ = some v1 ∧ W'.cell? ⟨Bs, 3, none⟩ = some v2) := fun W' h => by
            have := q1.ch h (fun hh => by
              rcases hh with hh | hh
              · have := (q2.lt hh).1; omega
              · have := (q3.lt hh).1; omega)
            exact ⟨this.cell 2 rfl, this.cell 3 rfl⟩
          have HLn : Hid ((sC L pre).length ≤ 1000 ∧ (sS L pre).length ≤ 1000) := by
            have := sC_length pre L
            have h9 := hpl
            rw [HNN.out] at h9
            exact ⟨by omega, by omega⟩
          have hbx2 : base ≤ Wx.heap.size := by have := HBX.out; omega
          have hszx : Wx.heap.size = Wx.heap.size := rfl
          refine AnyJ.two (i := 3) (j := 8) (by kernel_rfl) rfl rfl (fun K hK => ?_) (fun K hK => ?_)
          · go_simp
            obtain ⟨WA, hWA⟩ : ∃ W', (Wx.alloc (.cells #[.int .i64 x.1.1] 3)).drew = W' := ⟨_, rfl⟩
            rw [hWA]
            have hCA : Ch (fun _ => False) Wx WA := by rw [← hWA]; exact ((Ch.refl _ _).alloc _).drew
            have RA : Row WA Wx.heap.size [.int .i64 x.1.1] := by rw [← hWA]; exact Row.new' _ [_] _ rfl
            have sA : WA.heap.size = Wx.heap.size + 1 := by rw [← hWA]; simp
            have hXA := hCA.mono (p := fun k => v1.ownBlock = some k ∨ v2.ownBlock = some k) (fun k _ h => h.elim)
            have p2 := q2.ch hCA (fun _ _ h => h)
            have p3 := q3.ch hCA (fun _ _ h => h)
            clear hWA hCA
            refine hK _ _ (fun _ => HSC.out _ hXA) ?_
            clear hK K
            refine AnyJ.two (i := 4) (j := 8) (by kernel_rfl) rfl rfl (fun K hK => ?_) (fun K hK => ?_)
            · refine step_app_int rfl (.tmp 60) (.tmp 62) 23 rfl Try.underlying23 base v1 (sC L pre) (by simp [Act.eval, Act.put]) p2 Wx.heap.size 1 x.1.1 (by simp [Act.eval, Act.put]) (RA.cell 0 rfl) (by have := HLn.out.1; omega) (by omega) ?_
              intro g1 cp1 WB ho1 hg1 hor1
              have hXB : Ch (fun k => v1.ownBlock = some k ∨ v2.ownBlock = some k) Wx WB := hXA.trans (Ch.of_grown hg1 (fun k e => Or.inl e))
              have sB := hg1.size
              have p3B : OwnV WB base v2 (sS L pre) := p3.ch (Ch.of_grown (o := fun k => v1.ownBlock = some k) hg1 (fun k e => e)) (fun g h1 h2 => HQ4.out g h2 h1)
              have t1 : v1.ownBlock = some g1 ∨ Wx.heap.size ≤ g1 := hor1.imp id (fun e => by omega)
              have t2 : v2.ownBlock ≠ some g1 := fun e => by
                rcases hor1 with h | h
                · exact HQ4.out g1 h e
                · have := (q3.lt e).2; omega
              refine hK _ _ (fun _ => HSC.out _ hXB) ?_
              clear hK K hor1 hg1
              refine AnyJ.takeY (i := 10) (v := ?_) rfl (by kernel_rfl) (by kernel_rfl) (by kernel_rfl) rfl (fun _ _ _ h => h) (Or.inl ⟨by rfl, ?_⟩) ?_
              rotate_left
              · intro w'
                go_simp
                try with_reducible rfl
              refine AnyJ.one (i := 8) (by kernel_rfl) rfl (fun K hK => ?_)
              go_simp
              obtain ⟨WC, hWC⟩ : ∃ W', WB.alloc (.cells #[.int .i64 x.1.2] 3) = W' := ⟨_, rfl⟩
              rw [hWC]
              have hCC : Ch (fun _ => False) WB WC := by rw [← hWC]; exact (Ch.refl _ _).alloc _
              have RC : Row WC WB.heap.size [.int .i64 x.1.2] := by rw [← hWC]; exact Row.new' _ [_] _ rfl
              have hXC := hXB.trans (hCC.mono (p := fun k => v1.ownBlock = some k ∨ v2.ownBlock = some k) (fun k _ h => h.elim))
              have o1C := ho1.ch hCC (fun _ _ h => h)
              have p3C := p3B.ch hCC (fun _ _ h => h)
              clear hWC hCC
              refine hK _ _ (fun _ => HSC.out _ hXC) ?_
              clear hK K
              refine AnyJ.one (i := 9) (by kernel_rfl) rfl (fun K hK => ?_)
              refine step_app_int rfl (.tmp 65) (.tmp 67) 23 rfl Try.underlying23 base v2 (sS L pre) (by simp [Act.eval, Act.put]) p3C WB.heap.size 1 x.1.2 (by simp [Act.eval, Act.put]) (RC.cell 0 rfl) (by have := HLn.out.2; omega) (by have := hXC.size; omega) ?_
              intro g2 cp2 WD ho2 hg2 hor2
              have hXD : Ch (fun k => v1.ownBlock = some k ∨ v2.ownBlock = some k) Wx WD := hXC.trans (Ch.of_grown hg2 (fun k e => Or.inr e))
              have o1D := o1C.ch (Ch.of_grown (o := fun k => v2.ownBlock = some k) hg2 (fun k e => e)) (fun g h1 h2 => by cases h1; exact t2 h2)
              have t3 : v2.ownBlock = some g2 ∨ Wx.heap.size ≤ g2 := hor2.imp id (fun e => by have := hXC.size; omega)
              have t4 : g1 ≠ g2 := fun e => by
                rcases hor2 with h | h
                · exact t2 (by rw [e]; exact h)
                · have h5 : g1 < WC.heap.size := (o1C.lt rfl).2
                  rw [e, h] at h5
                  exact Nat.lt_irrefl _ h5
              refine hK _ _ (fun _ => HSC.out _ hXD) ?_
              clear hK K hor2 hg2
              have FIN := Lib.hid (body_fin (lf := lf) (q := (lf - x.1.2)) q1 q2 q3 q5 q6 q7 hsl hbs hbl (by omega) (by omega) hXD o1D ho2 (fun g e => by cases e; exact t1) (fun g e => by cases e; exact t3) (fun g e1 e2 => by cases e1; cases e2; exact t4 rfl) rfl)
              have RD := q1.ch hXD (fun hh => by
                rcases hh with hh | hh
                · have := (q2.lt hh).1; omega
                · have := (q3.lt hh).1; omega)
              have RL := q5.ch hXD (fun hh => by
                rcases hh with hh | hh
                · have := (q2.lt hh).1; omega
                · have := (q3.lt hh).1; omega)
              have e2D := RD.cell 2 rfl
              have e3D := RD.cell 3 rfl
              have f2D := RD.frozen 2
              have f3D := RD.frozen 3
              have c0D := RL.cell 0 rfl
              have fLD := RL.frozen 0
              clear e2 e3 f2 f3 c0
              refine AnyJ.one (i := 11) (by kernel_rfl) rfl (fun K hK => ?_)
              go_simp
              refine hK _ _ (fun h => by cases h) ?_
              clear hK K
              refine AnyJ.takeY (i := 12) (v := ?_) rfl (by kernel_rfl) (by kernel_rfl) (by kernel_rfl) rfl (fun _ _ _ h => h) (Or.inl ⟨by rfl, ?_⟩) ?_
              rotate_left
              · intro w'
                go_simp
                try with_reducible rfl
              refine AnyJ.one (i := 13) (by kernel_rfl) rfl (fun K hK => ?_)
              go_simp
              refine hK _ _ (fun h => by cases h) ?_
              clear hK K
              refine AnyJ.done (by kernel_rfl) ?_ _
              gi_wp2_with fail
              have HL3 : Hid (sLeft L (pre ++ [x]) = (lf - x.1.2)) := by show _ = _; rw [HL2.out]; try omega
              obtain ⟨F1, F2, ⟨z1, z2, F3, F4, F5, F6⟩, F7, F8, F9⟩ := FIN.out
              refine ⟨F1, F2, ⟨z1, z2, F3, ?_, ?_, F6⟩, ?_, F8, F9, Nat.le_trans hbsz F1.1⟩
              · rw [HC2.out]; exact F4
              · rw [HS2.out]; exact F5
              · rw [HL3.out]; exact F7
            ·
              go_simp
              obtain ⟨WB, hWB⟩ : ∃ W', WA.alloc (.cells #[.int .i64 x.1.2] 3) = W' := ⟨_, rfl⟩
              rw [hWB]
              have hCB : Ch (fun _ => False) WA WB := by rw [← hWB]; exact (Ch.refl _ _).alloc _
              have R8 : Row WB WA.heap.size [.int .i64 x.1.2] := by rw [← hWB]; exact Row.new' _ [_] _ rfl
              have R3 := RA.ch hCB (fun h => h)
              have sB : WB.heap.size = WA.heap.size + 1 := by rw [← hWB]; simp
              have hXB := hXA.trans (hCB.mono (p := fun k => v1.ownBlock = some k ∨ v2.ownBlock = some k) (fun k _ h => h.elim))
              replace p2 := p2.ch hCB (fun _ _ h => h)
              replace p3 := p3.ch hCB (fun _ _ h => h)
              clear hWB hCB
              refine hK _ _ (fun _ => HSC.out _ hXB) ?_
              clear hK K
              refine AnyJ.one (i := 4) (by kernel_rfl) rfl (fun K hK => ?_)
              refine step_app_int rfl (.tmp 60) (.tmp 62) 23 rfl Try.underlying23 base v1 (sC L pre) (by simp [Act.eval, Act.put]) p2 Wx.heap.size 1 x.1.1 (by simp [Act.eval, Act.put]) (R3.cell 0 rfl) (by have := HLn.out.1; omega) (by omega) ?_
              intro g1 cp1 WC o1C hg1 hor1
              have hXC : Ch (fun k => v1.ownBlock = some k ∨ v2.ownBlock = some k) Wx WC := hXB.trans (Ch.of_grown hg1 (fun k e => Or.inl e))
              have p3C : OwnV WC base v2 (sS L pre) := p3.ch (Ch.of_grown (o := fun k => v1.ownBlock = some k) hg1 (fun k e => e)) (fun g h1 h2 => HQ4.out g h2 h1)
              have RC : Row WC WA.heap.size [.int .i64 x.1.2] := R8.ch (Ch.of_grown (o := fun k => v1.ownBlock = some k) hg1 (fun k e => e)) (fun h => by have := (q2.lt h).2; omega)
              have t1 : v1.ownBlock = some g1 ∨ Wx.heap.size ≤ g1 := hor1.imp id (fun e => by omega)
              have t2 : v2.ownBlock ≠ some g1 := fun e => by
                rcases hor1 with h | h
                · exact HQ4.out g1 h e
                · have := (q3.lt e).2; omega
              refine hK _ _ (fun _ => HSC.out _ hXC) ?_
              clear hK K hor1 hg1
              refine AnyJ.takeY (i := 10) (v := ?_) rfl (by kernel_rfl) (by kernel_rfl) (by kernel_rfl) rfl (fun _ _ _ h => h) (Or.inl ⟨by rfl, ?_⟩) ?_
              rotate_left
              · intro w'
                go_simp
                try with_reducible rfl
              refine AnyJ.one (i := 9) (by kernel_rfl) rfl (fun K hK => ?_)
              refine step_app_int rfl (.tmp 65) (.tmp 67) 23 rfl Try.underlying23 base v2 (sS L pre) (by simp [Act.eval, Act.put]) p3C WA.heap.size 1 x.1.2 (by simp [Act.eval, Act.put]) (RC.cell 0 rfl) (by have := HLn.out.2; omega) (by have := hXC.size; omega) ?_
              intro g2 cp2 WD ho2 hg2 hor2
              have hXD : Ch (fun k => v1.ownBlock = some k ∨ v2.ownBlock = some k) Wx WD := hXC.trans (Ch.of_grown hg2 (fun k e => Or.inr e))
              have o1D := o1C.ch (Ch.of_grown (o := fun k => v2.ownBlock = some k) hg2 (fun k e => e)) (fun g h1 h2 => by cases h1; exact t2 h2)
              have t3 : v2.ownBlock = some g2 ∨ Wx.heap.size ≤ g2 := hor2.imp id (fun e => by have := hXC.size; omega)
              have t4 : g1 ≠ g2 := fun e => by
                rcases hor2 with h | h
                · exact t2 (by rw [e]; exact h)
                · have h5 : g1 < WC.heap.size := (o1C.lt rfl).2
                  rw [e, h] at h5
                  exact Nat.lt_irrefl _ h5
              refine hK _ _ (fun _ => HSC.out _ hXD) ?_
              clear hK K hor2 hg2
              have FIN := Lib.hid (body_fin (lf := lf) (q := (lf - x.1.2)) q1 q2 q3 q5 q6 q7 hsl hbs hbl (by omega) (by omega) hXD o1D ho2 (fun g e => by cases e; exact t1) (fun g e => by cases e; exact t3) (fun g e1 e2 => by cases e1; cases e2; exact t4 rfl) rfl)
              have RD := q1.ch hXD (fun hh => by
                rcases hh with hh | hh
                · have := (q2.lt hh).1; omega
                · have := (q3.lt hh).1; omega)
              have RL := q5.ch hXD (fun hh => by
                rcases hh with hh | hh
                · have := (q2.lt hh).1; omega
                · have := (q3.lt hh).1; omega)
              have e2D := RD.cell 2 rfl
              have e3D := RD.cell 3 rfl
              have f2D := RD.frozen 2
              have f3D := RD.frozen 3
              have c0D := RL.cell 0 rfl
              have fLD := RL.frozen 0
              clear e2 e3 f2 f3 c0
              refine AnyJ.one (i := 11) (by kernel_rfl) rfl (fun K hK => ?_)
              go_simp
              refine hK _ _ (fun h => by cases h) ?_
              clear hK K
              refine AnyJ.takeY (i := 12) (v := ?_) rfl (by kernel_rfl) (by kernel_rfl) (by kernel_rfl) rfl (fun _ _ _ h => h) (Or.inl ⟨by rfl, ?_⟩) ?_
              rotate_left
              · intro w'
                go_simp
                try with_reducible rfl
              refine AnyJ.one (i := 13) (by kernel_rfl) rfl (fun K hK => ?_)
              go_simp
              refine hK _ _ (fun h => by cases h) ?_
              clear hK K
              refine AnyJ.done (by kernel_rfl) ?_ _
              gi_wp2_with fail
              have HL3 : Hid (sLeft L (pre ++ [x]) = (lf - x.1.2)) := by show _ = _; rw [HL2.out]; try omega
              obtain ⟨F1, F2, ⟨z1, z2, F3, F4, F5, F6⟩, F7, F8, F9⟩ := FIN.out
              refine ⟨F1, F2, ⟨z1, z2, F3, ?_, ?_, F6⟩, ?_, F8, F9, Nat.le_trans hbsz F1.1⟩
              · rw [HC2.out]; exact F4
              · rw [HS2.out]; exact F5
              · rw [HL3.out]; exact F7
          ·
            go_simp
            obtain ⟨WA, hWA⟩ : ∃ W', (Wx.alloc (.cells #[.int .i64 x.1.2] 3)).drew = W' := ⟨_, rfl⟩
            rw [hWA]
            have hCA : Ch (fun _ => False) Wx WA := by rw [← hWA]; exact ((Ch.refl _ _).alloc _).drew
            have RA : Row WA Wx.heap.size [.int .i64 x.1.2] := by rw [← hWA]; exact Row.new' _ [_] _ rfl
            have sA : WA.heap.size = Wx.heap.size + 1 := by rw [← hWA]; simp
            have hXA := hCA.mono (p := fun k => v1.ownBlock = some k ∨ v2.ownBlock = some k) (fun k _ h => h.elim)
            have p2 := q2.ch hCA (fun _ _ h => h)
            have p3 := q3.ch hCA (fun _ _ h => h)
            clear hWA hCA
            refine hK _ _ (fun _ => HSC.out _ hXA) ?_
            clear hK K
            refine AnyJ.one (i := 3) (by kernel_rfl) rfl (fun K hK => ?_)
            go_simp
            obtain ⟨WB, hWB⟩ : ∃ W', WA.alloc (.cells #[.int .i64 x.1.1] 3) = W' := ⟨_, rfl⟩
            rw [hWB]
            have hCB : Ch (fun _ => False) WA WB := by rw [← hWB]; exact (Ch.refl _ _).alloc _
            have R3 : Row WB WA.heap.size [.int .i64 x.1.1] := by rw [← hWB]; exact Row.new' _ [_] _ rfl
            have R8 := RA.ch hCB (fun h => h)
            have sB : WB.heap.size = WA.heap.size + 1 := by rw [← hWB]; simp
            have hXB := hXA.trans (hCB.mono (p := fun k => v1.ownBlock = some k ∨ v2.ownBlock = some k) (fun k _ h => h.elim))
            replace p2 := p2.ch hCB (fun _ _ h => h)
            replace p3 := p3.ch hCB (fun _ _ h => h)
            clear hWB hCB
            refine hK _ _ (fun _ => HSC.out _ hXB) ?_
            clear hK K
            refine AnyJ.one (i := 4) (by kernel_rfl) rfl (fun K hK => ?_)
            refine step_app_int rfl (.tmp 60) (.tmp 62) 23 rfl Try.underlying23 base v1 (sC L pre) (by simp [Act.eval, Act.put]) p2 WA.heap.size 1 x.1.1 (by simp [Act.eval, Act.put]) (R3.cell 0 rfl) (by have := HLn.out.1; omega) (by omega) ?_
            intro g1 cp1 WC o1C hg1 hor1
            have hXC : Ch (fun k => v1.ownBlock = some k ∨ v2.ownBlock = some k) Wx WC := hXB.trans (Ch.of_grown hg1 (fun k e => Or.inl e))
            have p3C : OwnV WC base v2 (sS L pre) := p3.ch (Ch.of_grown (o := fun k => v1.ownBlock = some k) hg1 (fun k e => e)) (fun g h1 h2 => HQ4.out g h2 h1)
            have RC : Row WC Wx.heap.size [.int .i64 x.1.2] := R8.ch (Ch.of_grown (o := fun k => v1.ownBlock = some k) hg1 (fun k e => e)) (fun h => by have := (q2.lt h).2; omega)
            have t1 : v1.ownBlock = some g1 ∨ Wx.heap.size ≤ g1 := hor1.imp id (fun e => by omega)
            have t2 : v2.ownBlock ≠ some g1 := fun e => by
              rcases hor1 with h | h
              · exact HQ4.out g1 h e
              · have := (q3.lt e).2; omega
            refine hK _ _ (fun _ => HSC.out _ hXC) ?_
            clear hK K hor1 hg1
            refine AnyJ.takeY (i := 10) (v := ?_) rfl (by kernel_rfl) (by kernel_rfl) (by kernel_rfl) rfl (fun _ _ _ h => h) (Or.inl ⟨by rfl, ?_⟩) ?_
            rotate_left
            · intro w'
              go_simp
              try with_reducible rfl
            refine AnyJ.one (i := 9) (by kernel_rfl) rfl (fun K hK => ?_)
            refine step_app_int rfl (.tmp 65) (.tmp 67) 23 rfl Try.underlying23 base v2 (sS L pre) (by simp [Act.eval, Act.put]) p3C Wx.heap.size 1 x.1.2 (by simp [Act.eval, Act.put]) (RC.cell 0 rfl) (by have := HLn.out.2; omega) (by have := hXC.size; omega) ?_
            intro g2 cp2 WD ho2 hg2 hor2
            have hXD : Ch (fun k => v1.ownBlock = some k ∨ v2.ownBlock = some k) Wx WD := hXC.trans (Ch.of_grown hg2 (fun k e => Or.inr e))
            have o1D := o1C.ch (Ch.of_grown (o := fun k => v2.ownBlock = some k) hg2 (fun k e => e)) (fun g h1 h2 => by cases h1; exact t2 h2)
            have t3 : v2.ownBlock = some g2 ∨ Wx.heap.size ≤ g2 := hor2.imp id (fun e => by have := hXC.size; omega)
            have t4 : g1 ≠ g2 := fun e => by
              rcases hor2 with h | h
              · exact t2 (by rw [e]; exact h)
              · have h5 : g1 < WC.heap.size := (o1C.lt rfl).2
                rw [e, h] at h5
                exact Nat.lt_irrefl _ h5
            refine hK _ _ (fun _ => HSC.out _ hXD) ?_
            clear hK K hor2 hg2
            have FIN := Lib.hid (body_fin (lf := lf) (q := (lf - x.1.2)) q1 q2 q3 q5 q6 q7 hsl hbs hbl (by omega) (by omega) hXD o1D ho2 (fun g e => by cases e; exact t1) (fun g e => by cases e; exact t3) (fun g e1 e2 => by cases e1; cases e2; exact t4 rfl) rfl)
            have RD := q1.ch hXD (fun hh => by
              rcases hh with hh | hh
              · have := (q2.lt hh).1; omega
              · have := (q3.lt hh).1; omega)
            have RL := q5.ch hXD (fun hh => by
              rcases hh with hh | hh
              · have := (q2.lt hh).1; omega
              · have := (q3.lt hh).1; omega)
            have e2D := RD.cell 2 rfl
            have e3D := RD.cell 3 rfl
            have f2D := RD.frozen 2
            have f3D := RD.frozen 3
            have c0D := RL.cell 0 rfl
            have fLD := RL.frozen 0
            clear e2 e3 f2 f3 c0
            refine AnyJ.one (i := 11) (by kernel_rfl) rfl (fun K hK => ?_)
            go_simp
            refine hK _ _ (fun h => by cases h) ?_
            clear hK K
            refine AnyJ.takeY (i := 12) (v := ?_) rfl (by kernel_rfl) (by kernel_rfl) (by kernel_rfl) rfl (fun _ _ _ h => h) (Or.inl ⟨by rfl, ?_⟩) ?_
            rotate_left
            · intro w'
              go_simp
              try with_reducible rfl
            refine AnyJ.one (i := 13) (by kernel_rfl) rfl (fun K hK => ?_)
            go_simp
            refine hK _ _ (fun h => by cases h) ?_
            clear hK K
            refine AnyJ.done (by kernel_rfl) ?_ _
            gi_wp2_with fail
            have HL3 : Hid (sLeft L (pre ++ [x]) = (lf - x.1.2)) := by show _ = _; rw [HL2.out]; try omega
            obtain ⟨F1, F2, ⟨z1, z2, F3, F4, F5, F6⟩, F7, F8, F9⟩ := FIN.out
            refine ⟨F1, F2, ⟨z1, z2, F3, ?_, ?_, F6⟩, ?_, F8, F9, Nat.le_trans hbsz F1.1⟩
            · rw [HC2.out]; exact F4
            · rw [HS2.out]; exact F5
            · rw [HL3.out]; exact F7
    case done =>
      rintro D xs Wx hD rfl ⟨⟨v1, v2, q1, q2, q3, q4⟩, q5, q6, q7, hbsz⟩ hKd
      rw [sC_pairs HP2.out] at q2
      rw [sS_pairs HP2.out] at q3
      obtain ⟨a1, d1, rfl, p2⟩ := q2.formT _ rfl
      obtain ⟨a2, d2, rfl, p3⟩ := q3.formT _ rfl
      have HP2a := Lib.hid p2
      have HP3a := Lib.hid p3
      have Hq7 := Lib.hid q7
      have Hq6 := Lib.hid q6
      have e0 := q1.cell 0 rfl
      have e1 := q1.cell 1 rfl
      have e2 := q1.cell 2 rfl
      have e3 := q1.cell 3 rfl
      have c0 := q6.cell 0 rfl
      have c1 := q6.cell 1 rfl
      have c2 := q6.cell 2 rfl
      have c3 := q6.cell 3 rfl
      have f0 := q6.frozen 0
      have f1 := q6.frozen 1
      have f2 := q6.frozen 2
      have f3 := q6.frozen 3
      have hDn : D ≠ w.heap.size + 1 + 1 := fun e => by
        obtain ⟨T, hT⟩ := q6
        rw [← e, hKd] at hT
        cases hT
      clear q1 q2 q3 q4 q5 q6 q7 p2 p3
      go_wp2_with fail
      rw [Exit.noGoto_ret]
      have Rr := Row.set4' ⟨_, _, _, _, Hq6.out⟩ (.int .i64 i) (.int .i64 W) (.slice a1 (sellC zs L (topL zs c)).length d1) (.slice a2 (sellS zs L (topL zs c)).length d2)
      have k1 := KeepsOthers.setCell Wx ⟨w.heap.size + 1 + 1, 0, none⟩ (.int .i64 i)
      have k2 := k1.trans (KeepsOthers.setCell _ ⟨w.heap.size + 1 + 1, 1, none⟩ (.int .i64 W))
      have k3 := k2.trans (KeepsOthers.setCell _ ⟨w.heap.size + 1 + 1, 2, none⟩ (.slice a1 (sellC zs L (topL zs c)).length d1))
      have k4 := k3.trans (KeepsOthers.setCell _ ⟨w.heap.size + 1 + 1, 3, none⟩ (.slice a2 (sellS zs L (topL zs c)).length d2))
      have hKr := k4.same D _ hKd rfl
      have g0 : Ch (fun k => k = w.heap.size + 1 + 1) Wx Wx := Ch.refl _ _
      have g1 := g0.setCell (p := ⟨w.heap.size + 1 + 1, 0, none⟩) rfl (.int .i64 i)
      have g2 := g1.setCell (p := ⟨w.heap.size + 1 + 1, 1, none⟩) rfl (.int .i64 W)
      have g3 := g2.setCell (p := ⟨w.heap.size + 1 + 1, 2, none⟩) rfl (.slice a1 (sellC zs L (topL zs c)).length d1)
      have g4 := g3.setCell (p := ⟨w.heap.size + 1 + 1, 3, none⟩) rfl (.slice a2 (sellS zs L (topL zs c)).length d2)
      generalize hWr : (((Wx.setCell ⟨w.heap.size + 1 + 1, 0, none⟩ (.int .i64 i)).setCell ⟨w.heap.size + 1 + 1, 1, none⟩ (.int .i64 W)).setCell ⟨w.heap.size + 1 + 1, 2, none⟩ (.slice a1 (sellC zs L (topL zs c)).length d1)).setCell ⟨w.heap.size + 1 + 1, 3, none⟩ (.slice a2 (sellS zs L (topL zs c)).length d2) = Wr at Rr hKr g4 ⊢
      have V1 := HP2a.out.ch g4 (fun g hg e => by have := (HP2a.out.lt hg).1; omega)
      have V2 := HP3a.out.ch g4 (fun g hg e => by have := (HP3a.out.lt hg).1; omega)
      have BB := g4.below Hq7.out (fun k e => by omega) Hq7.out.size
      clear k1 k2 k3 k4 g0 g1 g2 g3 g4 hWr e0 e1 e2 e3 c0 c1 c2 c3 f0 f1 f2 f3
      refine ⟨by simp, .inl ⟨_, _, rfl, run_takeDeferred hKr, ?_⟩⟩
      have hgr := grownBy_putObj' Wr D (.deferred none)
      have hre : ∀ r, some D = some r → ∃ o : Obj, Wr.heap[r]? = some o ∧ o.isCells = false := fun r e => by cases e; exact ⟨_, hKr, rfl⟩
      have Rz := Rr.kept hgr hre
      have Z1 := Lib.hid (V1.kept hgr hre).sl
      have Z2 := Lib.hid (V2.kept hgr hre).sl
      have Z3 := Lib.hid (BB.grown hgr BB.size (fun k e => by cases e; omega))
      have z0 := Rz.cell 0 rfl
      have z1 := Rz.cell 1 rfl
      have z2 := Rz.cell 2 rfl
      have z3 := Rz.cell 3 rfl
      have zl := Rz.lt
      refine ⟨.tuple #[.agg #[.int .i64 i, .int .i64 W, .slice a1 (sellC zs L (topL zs c)).length d1, .slice a2 (sellS zs L (topL zs c)).length d2], .bool true, .int .i64 0], ?_, ⟨_, _, rfl, Z1.out, Z2.out, Z3.out⟩⟩
      simp [results, Try.results26, go_sem, z0, z1, z2, z3, zl]
    case stop =>
      rintro D cx pre Wx hD hpre ⟨rfl, hz, ⟨v1, v2, q1, q2, q3, q4⟩, q5, q6, q7, hbsz⟩ hKd
      obtain ⟨suf, hsuf⟩ := hpre
      have hst := sC_stop pre suf L hz
      rw [hsuf, sC_pairs HP2.out, sS_pairs HP2.out] at hst
      rw [← hst.1] at q2
      rw [← hst.2] at q3
      clear hst hsuf hz
      refine (wpIn_wide (n := 6)).2 ?_
      obtain ⟨a1, d1, rfl, p2⟩ := q2.formT _ rfl
      obtain ⟨a2, d2, rfl, p3⟩ := q3.formT _ rfl
      have HP2a := Lib.hid p2
      have HP3a := Lib.hid p3
      have Hq7 := Lib.hid q7
      have Hq6 := Lib.hid q6
      have e0 := q1.cell 0 rfl
      have e1 := q1.cell 1 rfl
      have e2 := q1.cell 2 rfl
      have e3 := q1.cell 3 rfl
      have c0 := q6.cell 0 rfl
      have c1 := q6.cell 1 rfl
      have c2 := q6.cell 2 rfl
      have c3 := q6.cell 3 rfl
      have f0 := q6.frozen 0
      have f1 := q6.frozen 1
      have f2 := q6.frozen 2
      have f3 := q6.frozen 3
      have hDn : D ≠ w.heap.size + 1 + 1 := fun e => by
        obtain ⟨T, hT⟩ := q6
        rw [← e, hKd] at hT
        cases hT
      clear q1 q2 q3 q4 q5 q6 q7 p2 p3
      go_wp2_with fail
      rw [Exit.noGoto_ret]
      have Rr := Row.set4' ⟨_, _, _, _, Hq6.out⟩ (.int .i64 i) (.int .i64 W) (.slice a1 (sellC zs L (topL zs c)).length d1) (.slice a2 (sellS zs L (topL zs c)).length d2)
      have k1 := KeepsOthers.setCell Wx ⟨w.heap.size + 1 + 1, 0, none⟩ (.int .i64 i)
      have k2 := k1.trans (KeepsOthers.setCell _ ⟨w.heap.size + 1 + 1, 1, none⟩ (.int .i64 W))
      have k3 := k2.trans (KeepsOthers.setCell _ ⟨w.heap.size + 1 + 1, 2, none⟩ (.slice a1 (sellC zs L (topL zs c)).length d1))
      have k4 := k3.trans (KeepsOthers.setCell _ ⟨w.heap.size + 1 + 1, 3, none⟩ (.slice a2 (sellS zs L (topL zs c)).length d2))
      have hKr := k4.same D _ hKd rfl
      have g0 : Ch (fun k => k = w.heap.size + 1 + 1) Wx Wx := Ch.refl _ _
      have g1 := g0.setCell (p := ⟨w.heap.size + 1 + 1, 0, none⟩) rfl (.int .i64 i)
      have g2 := g1.setCell (p := ⟨w.heap.size + 1 + 1, 1, none⟩) rfl (.int .i64 W)
      have g3 := g2.setCell (p := ⟨w.heap.size + 1 + 1, 2, none⟩) rfl (.slice a1 (sellC zs L (topL zs c)).length d1)
      have g4 := g3.setCell (p := ⟨w.heap.size + 1 + 1, 3, none⟩) rfl (.slice a2 (sellS zs L (topL zs c)).length d2)
      generalize hWr : (((Wx.setCell ⟨w.heap.size + 1 + 1, 0, none⟩ (.int .i64 i)).setCell ⟨w.heap.size + 1 + 1, 1, none⟩ (.int .i64 W)).setCell ⟨w.heap.size + 1 + 1, 2, none⟩ (.slice a1 (sellC zs L (topL zs c)).length d1)).setCell ⟨w.heap.size + 1 + 1, 3, none⟩ (.slice a2 (sellS zs L (topL zs c)).length d2) = Wr at Rr hKr g4 ⊢
      have V1 := HP2a.out.ch g4 (fun g hg e => by have := (HP2a.out.lt hg).1; omega)
      have V2 := HP3a.out.ch g4 (fun g hg e => by have := (HP3a.out.lt hg).1; omega)
      have BB := g4.below Hq7.out (fun k e => by omega) Hq7.out.size
      clear k1 k2 k3 k4 g0 g1 g2 g3 g4 hWr e0 e1 e2 e3 c0 c1 c2 c3 f0 f1 f2 f3
      refine ⟨by simp, .inl ⟨_, _, rfl, run_takeDeferred hKr, ?_⟩⟩
      have hgr := grownBy_putObj' Wr D (.deferred none)
      have hre : ∀ r, some D = some r → ∃ o : Obj, Wr.heap[r]? = some o ∧ o.isCells = false := fun r e => by cases e; exact ⟨_, hKr, rfl⟩
      have Rz := Rr.kept hgr hre
      have Z1 := Lib.hid (V1.kept hgr hre).sl
      have Z2 := Lib.hid (V2.kept hgr hre).sl
      have Z3 := Lib.hid (BB.grown hgr BB.size (fun k e => by cases e; omega))
      have z0 := Rz.cell 0 rfl
      have z1 := Rz.cell 1 rfl
      have z2 := Rz.cell 2 rfl
      have z3 := Rz.cell 3 rfl
      have zl := Rz.lt
      refine ⟨.tuple #[.agg #[.int .i64 i, .int .i64 W, .slice a1 (sellC zs L (topL zs c)).length d1, .slice a2 (sellS zs L (topL zs c)).length d2], .bool true, .int .i64 0], ?_, ⟨_, _, rfl, Z1.out, Z2.out, Z3.out⟩⟩
      simp [results, Try.results26, go_sem, z0, z1, z2, z3, zl]

end Go.Proofs.Ytdijdfhlmnhcjaa
