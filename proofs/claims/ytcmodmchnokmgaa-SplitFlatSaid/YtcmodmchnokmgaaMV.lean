/-
 Texts built as one: XSpK, XSpL.
-/
import Derived.Test.YtcmodmchnokmgaaMU
namespace Go.Proofs.Ytcmodmchnokmgaa
section
set_option linter.unusedSimpArgs false
set_option linter.unusedVariables false
open Go.RowKit Go.Shelf
attribute [local go_sem] Oper.semAt_some
/-- The results stored: a split, whether, an error. -/
def putF (W : World) (n : Nat) (zs : List Value) (b e : Value) : World := ((Go.Proofs.Ytcmodmchnokmgaa.puz W n 0 zs).setCell ⟨n + 1, 0, none⟩ b).setCell ⟨n + 1 + 1, 0, none⟩ e
theorem putF_all {W : World} {n : Nat} {x y : Value} {cs : List Value} (hs : Row W n cs) (hb : Row W (n + 1) [x]) (he : Row W (n + 1 + 1) [y]) (zs : List Value) (hl : zs.length = cs.length) (b e : Value) :
  Row (putF W n zs b e) n zs ∧ Row (putF W n zs b e) (n + 1) [b] ∧ Row (putF W n zs b e) (n + 1 + 1) [e] ∧ Ch (fun k => k = n ∨ k = n + 1 ∨ k = n + 1 + 1) W (putF W n zs b e) := by
 obtain ⟨a1, c1⟩ := puz_all hs zs hl
 have b1 := hb.ch c1 (show ¬ n + 1 = n by omega)
 have e1 := he.ch c1 (show ¬ n + 1 + 1 = n by omega)
 unfold putF
 exact ⟨(a1.other (a := ⟨n + 1, 0, none⟩) (show n ≠ n + 1 by omega) _).other (a := ⟨n + 1 + 1, 0, none⟩) (show n ≠ n + 1 + 1 by omega) _, (b1.put0 b).other (a := ⟨n + 1 + 1, 0, none⟩) (show n + 1 ≠ n + 1 + 1 by omega) _, (e1.other (a := ⟨n + 1, 0, none⟩) (show n + 1 + 1 ≠ n + 1 by omega) _).put0 e,
  ((c1.mono (p := fun k => k = n ∨ k = n + 1 ∨ k = n + 1 + 1) (fun k _ h => Or.inl h)).setCell (p := ⟨n + 1, 0, none⟩) (Or.inr (Or.inl rfl)) b).setCell (p := ⟨n + 1 + 1, 0, none⟩) (Or.inr (Or.inr rfl)) e⟩
theorem loadVar_split {w : World} {b : Nat} {cs : List Value} (h : Row w b cs) (hl : cs.length = 7) : (loadVar 67 ⟨b, 0, none⟩).run Try.prog w = .ok (.agg cs.toArray) w :=
 run_loadVar_mid w b 0 67 cs _ (fun j v hj => by rw [Nat.zero_add]; exact h.cell j hj) Try.underlying67 rfl (by rw [hl]; kernel_rfl)
theorem loadVar_bool {w : World} {b : Nat} {v : Value} (h : Row w b [v]) : (loadVar 4 ⟨b, 0, none⟩).run Try.prog w = .ok v w := by
 have a1 := h.cell 0 rfl
 simp [go_sem, a1]
abbrev z7 : List Value := [.int .i64 0, .int .i64 0, .int .i64 0, .int .i64 0, .int .i64 0, .int .i64 0, .int .i64 0]
/-- What holds between two rounds of the range. -/
def InvF (w : World) (s0 P m base : Nat) (ad : Option Addr) (n cap : Nat) (l : List RateV) (u : AskV → Option (Int × Int × Int)) {L : List AskV} (pre : List (AskT L)) (W : World) : Prop :=
 (∀ x ∈ pre, u x.1 = none) ∧ (∃ f, KMap (costV l) W m f) ∧ Row W P [.slice ad n cap, .map (some m)] ∧ Row W s0 z7 ∧ Row W (s0 + 1) [.bool false] ∧ Row W (s0 + 1 + 1) [.int .i64 0] ∧ Below w.heap.size w W ∧ base ≤ W.heap.size
/-- Where the range is left by an ask that is undercut. -/
def OutF (w : World) (s0 : Nat) (u : AskV → Option (Int × Int × Int)) {L : List AskV} (cx : Code) (pre : List (AskT L)) (W : World) : Prop :=
 cx = .ret ∧ ∃ pre' x, pre = pre' ++ [x] ∧ (∀ y ∈ pre', u y.1 = none) ∧ (u x.1).isSome = true ∧ Row W s0 ((outS x.1 (u x.1)).map (Value.int .i64)) ∧ Row W (s0 + 1) [.bool true] ∧ Row W (s0 + 1 + 1) [.int .i64 0] ∧ Below w.heap.size w W
theorem KMap.kept {v : AskV → Value} {A C : World} {m base : Nat} {f : List AskV} (h : KMap v A m f) (hm : m < base) {row : Option Nat} (hg : A.grownBy C row) (hr : ∀ r, row = some r → base ≤ r) : KMap v C m f :=
 h.of_block (hg.block m h.lt (fun e => by have := hr m e.symm; omega))
theorem invF_own {w : World} {s0 P m base : Nat} {ad : Option Addr} {n cap : Nat} {l : List RateV} {u : AskV → Option (Int × Int × Int)} {L : List AskV} (hw : w.heap.size ≤ base) (hm : m < base) : OwnFrom base (InvF w s0 P m base ad n cap l u (L := L)) := by
 rintro s A C row ⟨h0, ⟨f, h1⟩, h2, h3, h4, h5, h6, h7⟩ hg hr
 have hk : ∀ r, row = some r → ∃ o : Obj, A.heap[r]? = some o ∧ o.isCells = false := fun r e => (hr r e).2
 exact ⟨h0, ⟨f, h1.kept hm hg (fun r e => (hr r e).1)⟩, h2.kept hg hk, h3.kept hg hk, h4.kept hg hk, h5.kept hg hk, h6.grown hg h6.size (fun r e => by have := (hr r e).1; omega), Nat.le_trans h7 hg.size⟩
theorem outF_own {w : World} {s0 base : Nat} {u : AskV → Option (Int × Int × Int)} {L : List AskV} (hw : w.heap.size ≤ base) (cx : Code) : OwnFrom base (OutF w s0 u (L := L) cx) := by
 rintro s A C row ⟨h0, pre', x, e, g0, g1, h3, h4, h5, h6⟩ hg hr
 have hk : ∀ r, row = some r → ∃ o : Obj, A.heap[r]? = some o ∧ o.isCells = false := fun r e => (hr r e).2
 exact ⟨h0, pre', x, e, g0, g1, h3.kept hg hk, h4.kept hg hk, h5.kept hg hk, h6.grown hg h6.size (fun r e => by have := (hr r e).1; omega)⟩
/-- Only the map of prices, and what is new, turns. -/
theorem keepsF {m base : Nat} {A B : World} (hm : m < base) (h : Ch (fun b => b = m ∨ A.heap.size ≤ b) A B) : KeepsFrom base A B :=
 ⟨h.size, fun i o hB hi _ => (h.2.2.2.2 i (Array.getElem?_eq_some_iff.1 hi).1 (fun e => by have := (Array.getElem?_eq_some_iff.1 hi).1; omega)).trans hi⟩
theorem keepsF2 {base : Nat} {A B : World} {o : Nat → Prop} (h : Ch o A B) (ho : ∀ b, o b → b < base ∨ A.heap.size ≤ b) : KeepsFrom base A B :=
 ⟨h.size, fun i x hB hi _ => (h.2.2.2.2 i (Array.getElem?_eq_some_iff.1 hi).1 (fun e => by have := (Array.getElem?_eq_some_iff.1 hi).1; have := ho i e; omega)).trans hi⟩
theorem kpQ_of {P : Nat → Prop} {m mk : Nat} {A B : World} (hM : ∃ es c, A.heap[m]? = some (.map es c)) (hmk : mk ≠ m ∧ mk < A.heap.size) (h : Ch (fun b => b = m ∨ A.heap.size ≤ b) A B) : KpQ P mk A B := by
 refine ⟨⟨h.size, fun k cs T fr e _ => ?_, fun _ _ h => h⟩, h.2.2.2.2 mk hmk.2 (by omega)⟩
 have hl := (Array.getElem?_eq_some_iff.1 e).1
 refine h.2.2.2.2 k hl (fun ho => ?_)
 rcases ho with rfl | ho
 ·
  obtain ⟨es, c, e2⟩ := hM
  rw [e2] at e; cases e
 ·
  omega
theorem outS_length (a : AskV) (o : Option (Int × Int × Int)) : (outS a o).length = 7 := by rcases o with _ | ⟨z, C, x⟩ <;> rfl
theorem find_none {L : List AskV} {u : AskV → Option (Int × Int × Int)} (h : ∀ x ∈ L.attach, u x.1 = none) : L.find? (fun a => (u a).isSome) = none := by
 rw [List.find?_eq_none]
 intro a ha
 have := h ⟨a, ha⟩ (by simp)
 simp only at this
 simp [this]
theorem find_some {L : List AskV} {u : AskV → Option (Int × Int × Int)} {pre : List (AskT L)} {x : AskT L} (hp : pre ++ [x] <+: L.attach) (h : ∀ y ∈ pre, u y.1 = none) (hx : (u x.1).isSome = true) : L.find? (fun a => (u a).isSome) = some x.1 := by
 obtain ⟨r, hr⟩ := hp
 have e : L = pre.map Subtype.val ++ x.1 :: r.map Subtype.val := by
  have h1 := congrArg (List.map Subtype.val) hr
  rw [List.attach_map_subtype_val] at h1
  exact h1.symm.trans (by simp)
 have hn : (pre.map Subtype.val).find? (fun a => (u a).isSome) = none := by
  rw [List.find?_eq_none]
  intro a ha
  obtain ⟨y, hy, rfl⟩ := List.mem_map.1 ha
  simp [h y hy]
 have : (pre.map Subtype.val ++ x.1 :: r.map Subtype.val).find? (fun a => (u a).isSome) = some x.1 := by
  rw [List.find?_append, hn, List.find?_cons, hx]
  rfl
 rw [← e] at this
 exact this
set_option maxRecDepth 100000 in
set_option maxHeartbeats 6400000 in
theorem Find_any (ad : Option Addr) (n cap : Nat) (l : List RateV) (fr un nn pp : Int) (w : World) (hs : SlR w ad n l) (hn : n ≤ 9223372036854775807) (u : AskV → Option (Int × Int × Int)) (hu : validR l = true → domB fr un nn pp = true → ∀ a ∈ asksL (hasK l) fr un nn pp.toNat, UndAt l a (u a)) (S : List Int) (b : Bool) (E : Int) (hR : findV l u fr un nn pp = (S, b, E)) :
  Calls Try.prog 33 #[.slice ad n cap, .agg #[.int .i64 fr, .int .i64 un, .int .i64 nn, .int .i64 pp]] w fun e w' => e = .returned (.tuple #[aggI S, .bool b, .int .i64 E]) ∧ Below w.heap.size w w' := by
 have HS := Lib.hid hs
 obtain ⟨p1, hp1⟩ : ∃ p, validR l = p := ⟨_, rfl⟩
 obtain ⟨p3, hp3⟩ : ∃ p, inE nn 1 60 = p := ⟨_, rfl⟩
 obtain ⟨p4, hp4⟩ : ∃ p, inE pp 1 8 = p := ⟨_, rfl⟩
 have HP1 := Lib.hid hp1
 have HP3 := Lib.hid hp3
 have HP4 := Lib.hid hp4
 have HU := Lib.hid hu
 have HR := Lib.hid hR
 have hno : (p1 = false ∨ domB fr un nn pp = false) → S = [0, 0, 0, 0, 0, 0, 0] ∧ b = false ∧ E = 1 := fun h => by
  have h1 := hR
  unfold findV at h1
  rw [if_neg] at h1
  ·
   simp only [Prod.mk.injEq] at h1
   exact ⟨h1.1.symm, h1.2.1.symm, h1.2.2.symm⟩
  ·
   rw [hp1]
   intro hc
   rw [Bool.and_eq_true] at hc
   rcases h with h | h
   ·
    rw [h] at hc; exact absurd hc.1 (by simp)
   ·
    rw [h] at hc; exact absurd hc.2 (by simp)
 have HNO := Lib.hid hno
 clear hs hp1 hp3 hp4 hu hR hno
 refine calls_of_wp_marks Try.func33 rfl ?_
 simp only [Try.ntmps33, List.size_toArray, List.length_cons, List.length_nil, Nat.reduceAdd, Nat.reduceSub, Array.replicate_succ, Array.replicate_zero, List.push_toArray, List.append_toArray, List.nil_append, List.cons_append]
 by_cases h0 : 0 ≤ fr
 ·
  by_cases h1 : fr < un
  ·
   by_cases h2 : un ≤ 366
   ·
    go_wp2_with fail
    refine (valid_rates_p ad n cap l _ hn (HS.out.step (by (repeat' (first | (with_reducible first | exact Below.refl _ _ | assumption | exact Bw.out (by assumption) | refine bw_alloc ?_ _ | refine bw_step ?_ (by assumption) | refine Below.alloc ?_ ?_ _ | refine Below.drew ?_ | refine below_drewN ?_ _ | refine Below.setCell ?_ ?_ _ | refine below_step ?_ (by assumption) ?_ | exact Nat.le_refl _) | omega | (simp; omega) | (simp; done))))) p1 HP1.out).mono ?_
    rintro e w1 ⟨rfl, hb1⟩
    have R_d_1 : Row w1 (w.heap.size) [.int .i64 (fr), .int .i64 (un), .int .i64 (nn), .int .i64 (pp)] := by (repeat' (first | (with_reducible assumption) | (with_reducible refine Row.new' _ _ _ (by first | rfl | (simp; done) | omega)) | (with_reducible first | refine Row.alloc ?_ _ | refine Row.drew ?_ | refine Row.step ?_ (by assumption) | refine Row.drewN ?_ _) | (with_reducible refine Row.set2' ?_ _ _; first | exact ⟨_, _, by assumption⟩ | exact ⟨_, _, Row.alloc (by assumption) _⟩) | (with_reducible refine Row.other ?_ (by first | omega | (simp; omega)) _)))
    have c_d_0_1 := R_d_1.cell 0 rfl
    have c_d_1_1 := R_d_1.cell 1 rfl
    have c_d_2_1 := R_d_1.cell 2 rfl
    have c_d_3_1 := R_d_1.cell 3 rfl
    have l_d_1 := R_d_1.lt
    have R_s_1 : Row w1 (w.heap.size + 1) [.int .i64 (0), .int .i64 (0), .int .i64 (0), .int .i64 (0), .int .i64 (0), .int .i64 (0), .int .i64 (0)] := by (repeat' (first | (with_reducible assumption) | (with_reducible refine Row.new' _ _ _ (by first | rfl | (simp; done) | omega)) | (with_reducible first | refine Row.alloc ?_ _ | refine Row.drew ?_ | refine Row.step ?_ (by assumption) | refine Row.drewN ?_ _) | (with_reducible refine Row.set2' ?_ _ _; first | exact ⟨_, _, by assumption⟩ | exact ⟨_, _, Row.alloc (by assumption) _⟩) | (with_reducible refine Row.other ?_ (by first | omega | (simp; omega)) _)))
    have c_s_0_1 := R_s_1.cell 0 rfl
    have c_s_1_1 := R_s_1.cell 1 rfl
    have c_s_2_1 := R_s_1.cell 2 rfl
    have c_s_3_1 := R_s_1.cell 3 rfl
    have c_s_4_1 := R_s_1.cell 4 rfl
    have c_s_5_1 := R_s_1.cell 5 rfl
    have c_s_6_1 := R_s_1.cell 6 rfl
    have z_s_0_1 := R_s_1.frozen 0
    have z_s_1_1 := R_s_1.frozen 1
    have z_s_2_1 := R_s_1.frozen 2
    have z_s_3_1 := R_s_1.frozen 3
    have z_s_4_1 := R_s_1.frozen 4
    have z_s_5_1 := R_s_1.frozen 5
    have z_s_6_1 := R_s_1.frozen 6
    have l_s_1 := R_s_1.lt
    have R_b_1 : Row w1 (w.heap.size + 1 + 1) [.bool false] := by (repeat' (first | (with_reducible assumption) | (with_reducible refine Row.new' _ _ _ (by first | rfl | (simp; done) | omega)) | (with_reducible first | refine Row.alloc ?_ _ | refine Row.drew ?_ | refine Row.step ?_ (by assumption) | refine Row.drewN ?_ _) | (with_reducible refine Row.set2' ?_ _ _; first | exact ⟨_, _, by assumption⟩ | exact ⟨_, _, Row.alloc (by assumption) _⟩) | (with_reducible refine Row.other ?_ (by first | omega | (simp; omega)) _)))
    have c_b_0_1 := R_b_1.cell 0 rfl
    have z_b_0_1 := R_b_1.frozen 0
    have l_b_1 := R_b_1.lt
    have R_e_1 : Row w1 (w.heap.size + 1 + 1 + 1) [.int .i64 (0)] := by (repeat' (first | (with_reducible assumption) | (with_reducible refine Row.new' _ _ _ (by first | rfl | (simp; done) | omega)) | (with_reducible first | refine Row.alloc ?_ _ | refine Row.drew ?_ | refine Row.step ?_ (by assumption) | refine Row.drewN ?_ _) | (with_reducible refine Row.set2' ?_ _ _; first | exact ⟨_, _, by assumption⟩ | exact ⟨_, _, Row.alloc (by assumption) _⟩) | (with_reducible refine Row.other ?_ (by first | omega | (simp; omega)) _)))
    have c_e_0_1 := R_e_1.cell 0 rfl
    have z_e_0_1 := R_e_1.frozen 0
    have l_e_1 := R_e_1.lt
    have HB1 : Below w.heap.size w w1 := by (repeat' (first | (with_reducible first | exact Below.refl _ _ | assumption | exact Bw.out (by assumption) | refine bw_alloc ?_ _ | refine bw_step ?_ (by assumption) | refine Below.alloc ?_ ?_ _ | refine Below.drew ?_ | refine below_drewN ?_ _ | refine Below.setCell ?_ ?_ _ | refine below_step ?_ (by assumption) ?_ | exact Nat.le_refl _) | omega | (simp; omega) | (simp; done)))
    cases p1 with
    | false =>
     obtain ⟨rfl, rfl, rfl⟩ := HNO.out (Or.inl rfl)
     go_wp2_with fail
     have hP := putF_all R_s_1 R_b_1 R_e_1 [.int .i64 0, .int .i64 0, .int .i64 0, .int .i64 0, .int .i64 0, .int .i64 0, .int .i64 0] rfl (.bool false) (.int .i64 1)
     have hB : Below w.heap.size w (putF w1 (w.heap.size + 1) [.int .i64 0, .int .i64 0, .int .i64 0, .int .i64 0, .int .i64 0, .int .i64 0, .int .i64 0] (.bool false) (.int .i64 1)) := hP.2.2.2.below HB1 (fun k hk => by omega) HB1.size
     simp only [putF, Go.Proofs.Ytcmodmchnokmgaa.puz, Nat.reduceAdd, Nat.zero_add] at hP hB
     obtain ⟨a1, a2, a3, _⟩ := hP
     exact ⟨.tuple #[aggI [0, 0, 0, 0, 0, 0, 0], .bool false, .int .i64 1], results_cell3 Try.results33 _ _ rfl rfl rfl (loadVar_split a1 rfl) (loadVar_bool a2) (loadVar_err a3), rfl, hB⟩
    | true =>
     go_wp2_with fail
     refine (swithin_p nn 1 60 p3 HP3.out _).mono ?_
     rintro e w2 ⟨rfl, hb2⟩
     have R_d_2 : Row w2 (w.heap.size) [.int .i64 (fr), .int .i64 (un), .int .i64 (nn), .int .i64 (pp)] := by (repeat' (first | (with_reducible assumption) | (with_reducible refine Row.new' _ _ _ (by first | rfl | (simp; done) | omega)) | (with_reducible first | refine Row.alloc ?_ _ | refine Row.drew ?_ | refine Row.step ?_ (by assumption) | refine Row.drewN ?_ _) | (with_reducible refine Row.set2' ?_ _ _; first | exact ⟨_, _, by assumption⟩ | exact ⟨_, _, Row.alloc (by assumption) _⟩) | (with_reducible refine Row.other ?_ (by first | omega | (simp; omega)) _)))
     have c_d_0_2 := R_d_2.cell 0 rfl
     have c_d_1_2 := R_d_2.cell 1 rfl
     have c_d_2_2 := R_d_2.cell 2 rfl
     have c_d_3_2 := R_d_2.cell 3 rfl
     have l_d_2 := R_d_2.lt
     have R_s_2 : Row w2 (w.heap.size + 1) [.int .i64 (0), .int .i64 (0), .int .i64 (0), .int .i64 (0), .int .i64 (0), .int .i64 (0), .int .i64 (0)] := by (repeat' (first | (with_reducible assumption) | (with_reducible refine Row.new' _ _ _ (by first | rfl | (simp; done) | omega)) | (with_reducible first | refine Row.alloc ?_ _ | refine Row.drew ?_ | refine Row.step ?_ (by assumption) | refine Row.drewN ?_ _) | (with_reducible refine Row.set2' ?_ _ _; first | exact ⟨_, _, by assumption⟩ | exact ⟨_, _, Row.alloc (by assumption) _⟩) | (with_reducible refine Row.other ?_ (by first | omega | (simp; omega)) _)))
     have c_s_0_2 := R_s_2.cell 0 rfl
     have c_s_1_2 := R_s_2.cell 1 rfl
     have c_s_2_2 := R_s_2.cell 2 rfl
     have c_s_3_2 := R_s_2.cell 3 rfl
     have c_s_4_2 := R_s_2.cell 4 rfl
     have c_s_5_2 := R_s_2.cell 5 rfl
     have c_s_6_2 := R_s_2.cell 6 rfl
     have z_s_0_2 := R_s_2.frozen 0
     have z_s_1_2 := R_s_2.frozen 1
     have z_s_2_2 := R_s_2.frozen 2
     have z_s_3_2 := R_s_2.frozen 3
     have z_s_4_2 := R_s_2.frozen 4
     have z_s_5_2 := R_s_2.frozen 5
     have z_s_6_2 := R_s_2.frozen 6
     have l_s_2 := R_s_2.lt
     have R_b_2 : Row w2 (w.heap.size + 1 + 1) [.bool false] := by (repeat' (first | (with_reducible assumption) | (with_reducible refine Row.new' _ _ _ (by first | rfl | (simp; done) | omega)) | (with_reducible first | refine Row.alloc ?_ _ | refine Row.drew ?_ | refine Row.step ?_ (by assumption) | refine Row.drewN ?_ _) | (with_reducible refine Row.set2' ?_ _ _; first | exact ⟨_, _, by assumption⟩ | exact ⟨_, _, Row.alloc (by assumption) _⟩) | (with_reducible refine Row.other ?_ (by first | omega | (simp; omega)) _)))
     have c_b_0_2 := R_b_2.cell 0 rfl
     have z_b_0_2 := R_b_2.frozen 0
     have l_b_2 := R_b_2.lt
     have R_e_2 : Row w2 (w.heap.size + 1 + 1 + 1) [.int .i64 (0)] := by (repeat' (first | (with_reducible assumption) | (with_reducible refine Row.new' _ _ _ (by first | rfl | (simp; done) | omega)) | (with_reducible first | refine Row.alloc ?_ _ | refine Row.drew ?_ | refine Row.step ?_ (by assumption) | refine Row.drewN ?_ _) | (with_reducible refine Row.set2' ?_ _ _; first | exact ⟨_, _, by assumption⟩ | exact ⟨_, _, Row.alloc (by assumption) _⟩) | (with_reducible refine Row.other ?_ (by first | omega | (simp; omega)) _)))
     have c_e_0_2 := R_e_2.cell 0 rfl
     have z_e_0_2 := R_e_2.frozen 0
     have l_e_2 := R_e_2.lt
     have HB2 : Below w.heap.size w w2 := by (repeat' (first | (with_reducible first | exact Below.refl _ _ | assumption | exact Bw.out (by assumption) | refine bw_alloc ?_ _ | refine bw_step ?_ (by assumption) | refine Below.alloc ?_ ?_ _ | refine Below.drew ?_ | refine below_drewN ?_ _ | refine Below.setCell ?_ ?_ _ | refine below_step ?_ (by assumption) ?_ | exact Nat.le_refl _) | omega | (simp; omega) | (simp; done)))
     clear R_d_1 c_d_0_1 c_d_1_1 c_d_2_1 c_d_3_1 R_s_1 c_s_0_1 c_s_1_1 c_s_2_1 c_s_3_1 c_s_4_1 c_s_5_1 c_s_6_1 z_s_0_1 z_s_1_1 z_s_2_1 z_s_3_1 z_s_4_1 z_s_5_1 z_s_6_1 R_b_1 c_b_0_1 z_b_0_1 R_e_1 c_e_0_1 z_e_0_1 hb1 HB1
     cases p3 with
     | false =>
      obtain ⟨rfl, rfl, rfl⟩ := HNO.out (Or.inr (by unfold domB; rw [HP3.out]; simp))
      go_wp2_with fail
      have hP := putF_all R_s_2 R_b_2 R_e_2 [.int .i64 0, .int .i64 0, .int .i64 0, .int .i64 0, .int .i64 0, .int .i64 0, .int .i64 0] rfl (.bool false) (.int .i64 1)
      have hB : Below w.heap.size w (putF w2 (w.heap.size + 1) [.int .i64 0, .int .i64 0, .int .i64 0, .int .i64 0, .int .i64 0, .int .i64 0, .int .i64 0] (.bool false) (.int .i64 1)) := hP.2.2.2.below HB2 (fun k hk => by omega) HB2.size
      simp only [putF, Go.Proofs.Ytcmodmchnokmgaa.puz, Nat.reduceAdd, Nat.zero_add] at hP hB
      obtain ⟨a1, a2, a3, _⟩ := hP
      exact ⟨.tuple #[aggI [0, 0, 0, 0, 0, 0, 0], .bool false, .int .i64 1], results_cell3 Try.results33 _ _ rfl rfl rfl (loadVar_split a1 rfl) (loadVar_bool a2) (loadVar_err a3), rfl, hB⟩
     | true =>
      go_wp2_with fail
      refine (swithin_p pp 1 8 p4 HP4.out _).mono ?_
      rintro e w3 ⟨rfl, hb3⟩
      have R_d_3 : Row w3 (w.heap.size) [.int .i64 (fr), .int .i64 (un), .int .i64 (nn), .int .i64 (pp)] := by (repeat' (first | (with_reducible assumption) | (with_reducible refine Row.new' _ _ _ (by first | rfl | (simp; done) | omega)) | (with_reducible first | refine Row.alloc ?_ _ | refine Row.drew ?_ | refine Row.step ?_ (by assumption) | refine Row.drewN ?_ _) | (with_reducible refine Row.set2' ?_ _ _; first | exact ⟨_, _, by assumption⟩ | exact ⟨_, _, Row.alloc (by assumption) _⟩) | (with_reducible refine Row.other ?_ (by first | omega | (simp; omega)) _)))
      have c_d_0_3 := R_d_3.cell 0 rfl
      have c_d_1_3 := R_d_3.cell 1 rfl
      have c_d_2_3 := R_d_3.cell 2 rfl
      have c_d_3_3 := R_d_3.cell 3 rfl
      have l_d_3 := R_d_3.lt
      have R_s_3 : Row w3 (w.heap.size + 1) [.int .i64 (0), .int .i64 (0), .int .i64 (0), .int .i64 (0), .int .i64 (0), .int .i64 (0), .int .i64 (0)] := by (repeat' (first | (with_reducible assumption) | (with_reducible refine Row.new' _ _ _ (by first | rfl | (simp; done) | omega)) | (with_reducible first | refine Row.alloc ?_ _ | refine Row.drew ?_ | refine Row.step ?_ (by assumption) | refine Row.drewN ?_ _) | (with_reducible refine Row.set2' ?_ _ _; first | exact ⟨_, _, by assumption⟩ | exact ⟨_, _, Row.alloc (by assumption) _⟩) | (with_reducible refine Row.other ?_ (by first | omega | (simp; omega)) _)))
      have c_s_0_3 := R_s_3.cell 0 rfl
      have c_s_1_3 := R_s_3.cell 1 rfl
      have c_s_2_3 := R_s_3.cell 2 rfl
      have c_s_3_3 := R_s_3.cell 3 rfl
      have c_s_4_3 := R_s_3.cell 4 rfl
      have c_s_5_3 := R_s_3.cell 5 rfl
      have c_s_6_3 := R_s_3.cell 6 rfl
      have z_s_0_3 := R_s_3.frozen 0
      have z_s_1_3 := R_s_3.frozen 1
      have z_s_2_3 := R_s_3.frozen 2
      have z_s_3_3 := R_s_3.frozen 3
      have z_s_4_3 := R_s_3.frozen 4
      have z_s_5_3 := R_s_3.frozen 5
      have z_s_6_3 := R_s_3.frozen 6
      have l_s_3 := R_s_3.lt
      have R_b_3 : Row w3 (w.heap.size + 1 + 1) [.bool false] := by (repeat' (first | (with_reducible assumption) | (with_reducible refine Row.new' _ _ _ (by first | rfl | (simp; done) | omega)) | (with_reducible first | refine Row.alloc ?_ _ | refine Row.drew ?_ | refine Row.step ?_ (by assumption) | refine Row.drewN ?_ _) | (with_reducible refine Row.set2' ?_ _ _; first | exact ⟨_, _, by assumption⟩ | exact ⟨_, _, Row.alloc (by assumption) _⟩) | (with_reducible refine Row.other ?_ (by first | omega | (simp; omega)) _)))
      have c_b_0_3 := R_b_3.cell 0 rfl
      have z_b_0_3 := R_b_3.frozen 0
      have l_b_3 := R_b_3.lt
      have R_e_3 : Row w3 (w.heap.size + 1 + 1 + 1) [.int .i64 (0)] := by (repeat' (first | (with_reducible assumption) | (with_reducible refine Row.new' _ _ _ (by first | rfl | (simp; done) | omega)) | (with_reducible first | refine Row.alloc ?_ _ | refine Row.drew ?_ | refine Row.step ?_ (by assumption) | refine Row.drewN ?_ _) | (with_reducible refine Row.set2' ?_ _ _; first | exact ⟨_, _, by assumption⟩ | exact ⟨_, _, Row.alloc (by assumption) _⟩) | (with_reducible refine Row.other ?_ (by first | omega | (simp; omega)) _)))
      have c_e_0_3 := R_e_3.cell 0 rfl
      have z_e_0_3 := R_e_3.frozen 0
      have l_e_3 := R_e_3.lt
      have HB3 : Below w.heap.size w w3 := by (repeat' (first | (with_reducible first | exact Below.refl _ _ | assumption | exact Bw.out (by assumption) | refine bw_alloc ?_ _ | refine bw_step ?_ (by assumption) | refine Below.alloc ?_ ?_ _ | refine Below.drew ?_ | refine below_drewN ?_ _ | refine Below.setCell ?_ ?_ _ | refine below_step ?_ (by assumption) ?_ | exact Nat.le_refl _) | omega | (simp; omega) | (simp; done)))
      clear R_d_2 c_d_0_2 c_d_1_2 c_d_2_2 c_d_3_2 R_s_2 c_s_0_2 c_s_1_2 c_s_2_2 c_s_3_2 c_s_4_2 c_s_5_2 c_s_6_2 z_s_0_2 z_s_1_2 z_s_2_2 z_s_3_2 z_s_4_2 z_s_5_2 z_s_6_2 R_b_2 c_b_0_2 z_b_0_2 R_e_2 c_e_0_2 z_e_0_2 hb2 HB2
      cases p4 with
      | false =>
       obtain ⟨rfl, rfl, rfl⟩ := HNO.out (Or.inr (by unfold domB; rw [HP4.out]; simp))
       go_wp2_with fail
       have hP := putF_all R_s_3 R_b_3 R_e_3 [.int .i64 0, .int .i64 0, .int .i64 0, .int .i64 0, .int .i64 0, .int .i64 0, .int .i64 0] rfl (.bool false) (.int .i64 1)
       have hB : Below w.heap.size w (putF w3 (w.heap.size + 1) [.int .i64 0, .int .i64 0, .int .i64 0, .int .i64 0, .int .i64 0, .int .i64 0, .int .i64 0] (.bool false) (.int .i64 1)) := hP.2.2.2.below HB3 (fun k hk => by omega) HB3.size
       simp only [putF, Go.Proofs.Ytcmodmchnokmgaa.puz, Nat.reduceAdd, Nat.zero_add] at hP hB
       obtain ⟨a1, a2, a3, _⟩ := hP
       exact ⟨.tuple #[aggI [0, 0, 0, 0, 0, 0, 0], .bool false, .int .i64 1], results_cell3 Try.results33 _ _ rfl rfl rfl (loadVar_split a1 rfl) (loadVar_bool a2) (loadVar_err a3), rfl, hB⟩
      | true =>
       have hn100 : n ≤ 100 := by have h := validR_in HP1.out; have h2 := HS.out.1; omega
       have h3 : 1 ≤ nn ∧ nn ≤ 60 := by have h := HP3.out; unfold inE at h; simpa using h
       have h4 : 1 ≤ pp ∧ pp ≤ 8 := by have h := HP4.out; unfold inE at h; simpa using h
       obtain ⟨h3a, h3b⟩ := h3
       obtain ⟨h4a, h4b⟩ := h4
       obtain ⟨Pn, hPn⟩ : ∃ q : Nat, pp = (q : Int) := ⟨pp.toNat, by omega⟩
       subst hPn
       have hdom : domB fr un nn (Pn : Int) = true := by unfold domB; rw [HP3.out, HP4.out]; simp [h0, h1, h2]
       have HUU := Lib.hid (HU.out HP1.out hdom)
       have HRR : Hid (findM u ((asksL (hasK l) fr un nn Pn).find? (fun a => (u a).isSome)) = (S, b, E)) := by
        show _ = _
        have h := HR.out
        unfold findV at h
        rw [HP1.out, hdom] at h
        simp only [Bool.and_self, if_true, Int.toNat_natCast] at h
        exact h
       have hmm := @run_makeMap Try.prog
       go_upto_region 5 with fail
       obtain ⟨w4, hw4⟩ : ∃ x, World.alloc (World.alloc w3 (.map #[] 0)) (.cells #[.slice ad n cap, .map (some w3.heap.size)] 99) = x := ⟨_, rfl⟩
       rw [hw4]
       have hb4 : Below w3.heap.size w3 w4 := by rw [← hw4]; (repeat' (first | (with_reducible first | exact Below.refl _ _ | assumption | exact Bw.out (by assumption) | refine bw_alloc ?_ _ | refine bw_step ?_ (by assumption) | refine Below.alloc ?_ ?_ _ | refine Below.drew ?_ | refine below_drewN ?_ _ | refine Below.setCell ?_ ?_ _ | refine below_step ?_ (by assumption) ?_ | exact Nat.le_refl _) | omega | (simp; omega) | (simp; done)))
       have R_s_4 : Row w4 (w.heap.size + 1) [.int .i64 (0), .int .i64 (0), .int .i64 (0), .int .i64 (0), .int .i64 (0), .int .i64 (0), .int .i64 (0)] := by rw [← hw4]; (repeat' (first | (with_reducible assumption) | (with_reducible refine Row.new' _ _ _ (by first | rfl | (simp; done) | omega)) | (with_reducible first | refine Row.alloc ?_ _ | refine Row.drew ?_ | refine Row.step ?_ (by assumption) | refine Row.drewN ?_ _) | (with_reducible refine Row.set2' ?_ _ _; first | exact ⟨_, _, by assumption⟩ | exact ⟨_, _, Row.alloc (by assumption) _⟩) | (with_reducible refine Row.other ?_ (by first | omega | (simp; omega)) _)))
       have c_s_0_4 := R_s_4.cell 0 rfl
       have c_s_1_4 := R_s_4.cell 1 rfl
       have c_s_2_4 := R_s_4.cell 2 rfl
       have c_s_3_4 := R_s_4.cell 3 rfl
       have c_s_4_4 := R_s_4.cell 4 rfl
       have c_s_5_4 := R_s_4.cell 5 rfl
       have c_s_6_4 := R_s_4.cell 6 rfl
       have z_s_0_4 := R_s_4.frozen 0
       have z_s_1_4 := R_s_4.frozen 1
       have z_s_2_4 := R_s_4.frozen 2
       have z_s_3_4 := R_s_4.frozen 3
       have z_s_4_4 := R_s_4.frozen 4
       have z_s_5_4 := R_s_4.frozen 5
       have z_s_6_4 := R_s_4.frozen 6
       have l_s_4 := R_s_4.lt
       have R_b_4 : Row w4 (w.heap.size + 1 + 1) [.bool false] := by rw [← hw4]; (repeat' (first | (with_reducible assumption) | (with_reducible refine Row.new' _ _ _ (by first | rfl | (simp; done) | omega)) | (with_reducible first | refine Row.alloc ?_ _ | refine Row.drew ?_ | refine Row.step ?_ (by assumption) | refine Row.drewN ?_ _) | (with_reducible refine Row.set2' ?_ _ _; first | exact ⟨_, _, by assumption⟩ | exact ⟨_, _, Row.alloc (by assumption) _⟩) | (with_reducible refine Row.other ?_ (by first | omega | (simp; omega)) _)))
       have c_b_0_4 := R_b_4.cell 0 rfl
       have z_b_0_4 := R_b_4.frozen 0
       have l_b_4 := R_b_4.lt
       have R_e_4 : Row w4 (w.heap.size + 1 + 1 + 1) [.int .i64 (0)] := by rw [← hw4]; (repeat' (first | (with_reducible assumption) | (with_reducible refine Row.new' _ _ _ (by first | rfl | (simp; done) | omega)) | (with_reducible first | refine Row.alloc ?_ _ | refine Row.drew ?_ | refine Row.step ?_ (by assumption) | refine Row.drewN ?_ _) | (with_reducible refine Row.set2' ?_ _ _; first | exact ⟨_, _, by assumption⟩ | exact ⟨_, _, Row.alloc (by assumption) _⟩) | (with_reducible refine Row.other ?_ (by first | omega | (simp; omega)) _)))
       have c_e_0_4 := R_e_4.cell 0 rfl
       have z_e_0_4 := R_e_4.frozen 0
       have l_e_4 := R_e_4.lt
       have R_d_4 : Row w4 (w.heap.size) [.int .i64 fr, .int .i64 un, .int .i64 nn, .int .i64 (Pn : Int)] := by rw [← hw4]; (repeat' (first | (with_reducible assumption) | (with_reducible refine Row.new' _ _ _ (by first | rfl | (simp; done) | omega)) | (with_reducible first | refine Row.alloc ?_ _ | refine Row.drew ?_ | refine Row.step ?_ (by assumption) | refine Row.drewN ?_ _) | (with_reducible refine Row.set2' ?_ _ _; first | exact ⟨_, _, by assumption⟩ | exact ⟨_, _, Row.alloc (by assumption) _⟩) | (with_reducible refine Row.other ?_ (by first | omega | (simp; omega)) _)))
       have c_d_0_4 := R_d_4.cell 0 rfl
       have c_d_1_4 := R_d_4.cell 1 rfl
       have c_d_2_4 := R_d_4.cell 2 rfl
       have c_d_3_4 := R_d_4.cell 3 rfl
       have l_d_4 := R_d_4.lt
       have R_p_4 : Row w4 (w3.heap.size + 1) [.slice ad n cap, .map (some w3.heap.size)] := by rw [← hw4]; (repeat' (first | (with_reducible assumption) | (with_reducible refine Row.new' _ _ _ (by first | rfl | (simp; done) | omega)) | (with_reducible first | refine Row.alloc ?_ _ | refine Row.drew ?_ | refine Row.step ?_ (by assumption) | refine Row.drewN ?_ _) | (with_reducible refine Row.set2' ?_ _ _; first | exact ⟨_, _, by assumption⟩ | exact ⟨_, _, Row.alloc (by assumption) _⟩) | (with_reducible refine Row.other ?_ (by first | omega | (simp; omega)) _)))
       have c_p_0_4 := R_p_4.cell 0 rfl
       have c_p_1_4 := R_p_4.cell 1 rfl
       have l_p_4 := R_p_4.lt
       have HB4 := HB3.trans (hb4.mono HB3.size)
       have hs4 := hb4.size
       have hz4 := HB4.size
       clear R_d_3 c_d_0_3 c_d_1_3 c_d_2_3 c_d_3_3 R_s_3 c_s_0_3 c_s_1_3 c_s_2_3 c_s_3_3 c_s_4_3 c_s_5_3 c_s_6_3 z_s_0_3 z_s_1_3 z_s_2_3 z_s_3_3 z_s_4_3 z_s_5_3 z_s_6_3 R_b_3 c_b_0_3 z_b_0_3 R_e_3 c_e_0_3 z_e_0_3 hb3 HB3
       obtain ⟨m, hm⟩ : ∃ m, w3.heap.size = m := ⟨_, rfl⟩
       have HKM : Hid (KMap (costV l) w4 m []) := by
        show KMap _ _ _ _
        rw [← hw4, ← hm]; exact (KMap.made _ w3).alloc _
       go_wp2_with fail
       refine (asks_any ad n cap l fr un nn (Pn : Int) _ (HS.out.step HB4) (by omega)).mono ?_
       rintro e w5 ⟨rfl, T0, T1, T2, hb5⟩
       have R_s_5 : Row w5 (w.heap.size + 1) [.int .i64 (0), .int .i64 (0), .int .i64 (0), .int .i64 (0), .int .i64 (0), .int .i64 (0), .int .i64 (0)] := by (repeat' (first | (with_reducible assumption) | (with_reducible refine Row.new' _ _ _ (by first | rfl | (simp; done) | omega)) | (with_reducible first | refine Row.alloc ?_ _ | refine Row.drew ?_ | refine Row.step ?_ (by assumption) | refine Row.drewN ?_ _) | (with_reducible refine Row.set2' ?_ _ _; first | exact ⟨_, _, by assumption⟩ | exact ⟨_, _, Row.alloc (by assumption) _⟩) | (with_reducible refine Row.other ?_ (by first | omega | (simp; omega)) _)))
       have c_s_0_5 := R_s_5.cell 0 rfl
       have c_s_1_5 := R_s_5.cell 1 rfl
       have c_s_2_5 := R_s_5.cell 2 rfl
       have c_s_3_5 := R_s_5.cell 3 rfl
       have c_s_4_5 := R_s_5.cell 4 rfl
       have c_s_5_5 := R_s_5.cell 5 rfl
       have c_s_6_5 := R_s_5.cell 6 rfl
       have z_s_0_5 := R_s_5.frozen 0
       have z_s_1_5 := R_s_5.frozen 1
       have z_s_2_5 := R_s_5.frozen 2
       have z_s_3_5 := R_s_5.frozen 3
       have z_s_4_5 := R_s_5.frozen 4
       have z_s_5_5 := R_s_5.frozen 5
       have z_s_6_5 := R_s_5.frozen 6
       have l_s_5 := R_s_5.lt
       have R_b_5 : Row w5 (w.heap.size + 1 + 1) [.bool false] := by (repeat' (first | (with_reducible assumption) | (with_reducible refine Row.new' _ _ _ (by first | rfl | (simp; done) | omega)) | (with_reducible first | refine Row.alloc ?_ _ | refine Row.drew ?_ | refine Row.step ?_ (by assumption) | refine Row.drewN ?_ _) | (with_reducible refine Row.set2' ?_ _ _; first | exact ⟨_, _, by assumption⟩ | exact ⟨_, _, Row.alloc (by assumption) _⟩) | (with_reducible refine Row.other ?_ (by first | omega | (simp; omega)) _)))
       have c_b_0_5 := R_b_5.cell 0 rfl
       have z_b_0_5 := R_b_5.frozen 0
       have l_b_5 := R_b_5.lt
       have R_e_5 : Row w5 (w.heap.size + 1 + 1 + 1) [.int .i64 (0)] := by (repeat' (first | (with_reducible assumption) | (with_reducible refine Row.new' _ _ _ (by first | rfl | (simp; done) | omega)) | (with_reducible first | refine Row.alloc ?_ _ | refine Row.drew ?_ | refine Row.step ?_ (by assumption) | refine Row.drewN ?_ _) | (with_reducible refine Row.set2' ?_ _ _; first | exact ⟨_, _, by assumption⟩ | exact ⟨_, _, Row.alloc (by assumption) _⟩) | (with_reducible refine Row.other ?_ (by first | omega | (simp; omega)) _)))
       have c_e_0_5 := R_e_5.cell 0 rfl
       have z_e_0_5 := R_e_5.frozen 0
       have l_e_5 := R_e_5.lt
       have R_d_5 : Row w5 (w.heap.size) [.int .i64 fr, .int .i64 un, .int .i64 nn, .int .i64 (Pn : Int)] := by (repeat' (first | (with_reducible assumption) | (with_reducible refine Row.new' _ _ _ (by first | rfl | (simp; done) | omega)) | (with_reducible first | refine Row.alloc ?_ _ | refine Row.drew ?_ | refine Row.step ?_ (by assumption) | refine Row.drewN ?_ _) | (with_reducible refine Row.set2' ?_ _ _; first | exact ⟨_, _, by assumption⟩ | exact ⟨_, _, Row.alloc (by assumption) _⟩) | (with_reducible refine Row.other ?_ (by first | omega | (simp; omega)) _)))
       have c_d_0_5 := R_d_5.cell 0 rfl
       have c_d_1_5 := R_d_5.cell 1 rfl
       have c_d_2_5 := R_d_5.cell 2 rfl
       have c_d_3_5 := R_d_5.cell 3 rfl
       have l_d_5 := R_d_5.lt
       have R_p_5 : Row w5 (w3.heap.size + 1) [.slice ad n cap, .map (some w3.heap.size)] := by (repeat' (first | (with_reducible assumption) | (with_reducible refine Row.new' _ _ _ (by first | rfl | (simp; done) | omega)) | (with_reducible first | refine Row.alloc ?_ _ | refine Row.drew ?_ | refine Row.step ?_ (by assumption) | refine Row.drewN ?_ _) | (with_reducible refine Row.set2' ?_ _ _; first | exact ⟨_, _, by assumption⟩ | exact ⟨_, _, Row.alloc (by assumption) _⟩) | (with_reducible refine Row.other ?_ (by first | omega | (simp; omega)) _)))
       have c_p_0_5 := R_p_5.cell 0 rfl
       have c_p_1_5 := R_p_5.cell 1 rfl
       have l_p_5 := R_p_5.lt
       have HB5 : Below w.heap.size w w5 := by (repeat' (first | (with_reducible first | exact Below.refl _ _ | assumption | exact Bw.out (by assumption) | refine bw_alloc ?_ _ | refine bw_step ?_ (by assumption) | refine Below.alloc ?_ ?_ _ | refine Below.drew ?_ | refine below_drewN ?_ _ | refine Below.setCell ?_ ?_ _ | refine below_step ?_ (by assumption) ?_ | exact Nat.le_refl _) | omega | (simp; omega) | (simp; done)))
       clear R_s_4 c_s_0_4 c_s_1_4 c_s_2_4 c_s_3_4 c_s_4_4 c_s_5_4 c_s_6_4 z_s_0_4 z_s_1_4 z_s_2_4 z_s_3_4 z_s_4_4 z_s_5_4 z_s_6_4 R_b_4 c_b_0_4 z_b_0_4 R_e_4 c_e_0_4 z_e_0_4 R_d_4 c_d_0_4 c_d_1_4 c_d_2_4 c_d_3_4 R_p_4 c_p_0_4 c_p_1_4 hb4 hw4
       obtain ⟨g, hg⟩ : ∃ g, w4.heap.size = g := ⟨_, rfl⟩
       have hmg : m + 1 < g := by
        have h := l_p_4
        rw [hm, hg] at h
        exact h
       have hg5 : g + 1 + 1 < w5.heap.size := by have h := T1.lt; rw [hg] at h; exact h
       have hwm : w.heap.size + 1 + 1 + 1 < m := by rw [← hm]; exact l_e_3
       obtain ⟨base, hbase⟩ : ∃ base, w5.heap.size = base := ⟨_, rfl⟩
       have HK5 := Lib.hid (HKM.out.step hb5)
       have RP5 : Row w5 (m + 1) [.slice ad n cap, .map (some m)] := by have h := R_p_5; rw [hm] at h; exact h
       rw [hg] at T0 T1 T2
       have hstops := asks_stops (fun b => b = w.heap.size + 1 ∨ b = w.heap.size + 1 + 1 ∨ b = w.heap.size + 1 + 1 + 1) 5 (by omega) g (g + 1 + 1) (g + 1) fr un nn Pn (kindM l) (hasK l) w5 T0 T1 T2 (fun kd => kindM_look kd l) (fun b hb => by omega) (by omega)
       have HST := Lib.hid hstops
       have hI0 : InvF w (w.heap.size + 1) (m + 1) m base ad n cap l u (L := asksL (hasK l) fr un nn Pn) [] w5 := ⟨fun p hp => by simp at hp, ⟨_, HK5.out⟩, RP5, R_s_5, R_b_5, R_e_5, HB5, by omega⟩
       have HI0 := Lib.hid hI0
       have HMK : Hid (g + 1 < base) := by show _ < _; omega
       clear hstops hI0 T0 T1 T2 RP5 R_d_5 c_d_0_5 c_d_1_5 c_d_2_5 c_d_3_5 l_d_5 R_s_5 c_s_0_5 c_s_1_5 c_s_2_5 c_s_3_5 c_s_4_5 c_s_5_5 c_s_6_5 z_s_0_5 z_s_1_5 z_s_2_5 z_s_3_5 z_s_4_5 z_s_5_5 z_s_6_5 l_s_5 R_b_5 c_b_0_5 z_b_0_5 l_b_5 R_e_5 c_e_0_5 z_e_0_5 l_e_5 R_p_5 c_p_0_5 c_p_1_5 l_p_5 hb5 HB5
       go_wp2_with fail
       refine (wpIn_wide (n := 6)).1 ?_
       refine wpIn_rangeFunc_ownH (w0 := w5) (α := AskT (asksL (hasK l) fr un nn Pn)) rfl (by omega) rfl trivial (enters_of Try.func89 (by kernel_rfl) rfl) HST.out (fun h k => h.trans k)
        (fun Wx l o o' hl ho hc hwk => ⟨KeepsO.putObj o' ho hc (fun k hk => hk), by have := HMK.out; simp [World.putObj, show l ≠ g + 1 by omega]⟩)
        (Below.refl _ _) (fun _ => rfl)
        (InvF w (w.heap.size + 1) (m + 1) m base ad n cap l u) (OutF w (w.heap.size + 1) u)
        (by rw [hbase]; exact invF_own (by omega) (by omega)) (fun cx => by rw [hbase]; exact outF_own (by omega) cx)
        HI0.out
        (fun x a' W' => ∃ G : Nat, a' = { tmps := #[.slice ad n cap, .agg #[.int .i64 fr, .int .i64 un, .int .i64 nn, .int .i64 (Pn : Int)], undef, .pointer (some ⟨w.heap.size, 0, none⟩), .pointer (some ⟨w.heap.size + 1, 0, none⟩), .pointer (some ⟨w.heap.size + 1 + 1, 0, none⟩), .pointer (some ⟨w.heap.size + 1 + 1 + 1, 0, none⟩), .bool true, .pointer (some ⟨m + 1, 0, none⟩), .pointer (some ⟨G, 0, none⟩), undef, undef, .pointer (some ⟨w.heap.size, 0, none⟩), .int .i64 fr, .bool true, .bool true, .pointer (some ⟨w.heap.size, 0, none⟩), .int .i64 fr, .pointer (some ⟨w.heap.size, 1, none⟩), .int .i64 un, .bool true, .bool true, .bool true, .pointer (some ⟨w.heap.size, 1, none⟩), .int .i64 un, .bool true, .bool true, .slice ad n cap, .bool true, .bool false, .bool false, .bool true, .bool false, .bool false, .bool false, .pointer (some ⟨w.heap.size, 2, none⟩), .int .i64 nn, .bool true, .bool false, .bool false, .bool false, .pointer (some ⟨w.heap.size, 3, none⟩), .int .i64 (Pn : Int), .bool true, .bool false, .bool false, undef, .slice ad n cap, .map (some m), .agg #[.slice ad n cap, .map (some m)], .slice ad n cap, .agg #[.int .i64 fr, .int .i64 un, .int .i64 nn, .int .i64 (Pn : Int)], .func (.func 89) #[] #[.pointer (some ⟨g, 0, none⟩), .pointer (some ⟨g + 1 + 1, 0, none⟩)], x.1.key, undef, undef, undef, undef, undef, undef, undef, undef, undef], defers := [] } ∧ base ≤ G ∧ Row W' G [.int .i64 x.1.k, .int .i64 x.1.fr, .int .i64 x.1.un, .int .i64 x.1.ps])
        (fun x a' s A C row hs hg hr => by
         obtain ⟨G, e, hG, h⟩ := hs
         exact ⟨G, e, hG, h.kept hg (fun r e => (hr r e).2)⟩) ?assign ?body ?done ?stop
       case assign =>
        rintro lb pre x W K ⟨q0, ⟨f, q1⟩, q2, q3, q4, q5, q6, q7⟩ hK
        dsimp only [encQ, AskV.key] at hK ⊢
        have HK := Lib.hid hK
        clear hK
        gi_wp2
        have hal : Below W.heap.size W (W.alloc (.cells #[.int .i64 x.1.k, .int .i64 x.1.fr, .int .i64 x.1.un, .int .i64 x.1.ps] 49)) := (Below.refl _ _).alloc (Nat.le_refl _) _
        refine HK.out _ _ ((Ch.alloc (o := fun _ => False) (Ch.refl _ _) _).others (fun _ h => h.elim) |>.from _) ⟨keeps_of_belowZ hal, hal.block _ (by have := HMK.out; omega)⟩ ⟨q0, ⟨f, q1.step hal⟩, q2.alloc _, q3.alloc _, q4.alloc _, q5.alloc _, q6.alloc q6.size _, by simp; omega⟩ ⟨W.heap.size, rfl, by omega, Row.new' _ _ _ rfl⟩
       case body =>
        rintro lx pre x a' W hl hrec ⟨q0, ⟨f, q1⟩, q2, q3, q4, q5, q6, q7⟩ ⟨G, rfl, hG, RG⟩ hpl
        obtain ⟨⟨k, F, U, p⟩, hx⟩ := x
        have hx2 := asksL_mem hx
        simp only at hx2 RG
        dsimp only [AskV.key]
        have HXM := Lib.hid hx
        have HQ0 := Lib.hid q0
        have HQ1 := Lib.hid q1
        have HQ2 := Lib.hid q2
        have HQ3 := Lib.hid q3
        have HQ4 := Lib.hid q4
        have HQ5 := Lib.hid q5
        have HQ6 := Lib.hid q6
        have hsW := q6.size
        have P0 := q2.cell 0 rfl
        have P1 := q2.cell 1 rfl
        have lP := q2.lt
        have G0 := RG.cell 0 rfl
        have G1 := RG.cell 1 rfl
        have G2 := RG.cell 2 rfl
        have G3 := RG.cell 3 rfl
        have lG := RG.lt
        have hmk := HMK.out
        clear hrec hpl q0 q1 q2 q3 q4 q5 q6 RG
        obtain ⟨o, ho⟩ : ∃ o, u ⟨k, F, U, p⟩ = o := ⟨_, rfl⟩
        have hund := HUU.out ⟨k, F, U, p⟩ (by rw [Int.toNat_natCast]; exact hx)
        rw [ho] at hund
        have HO := Lib.hid ho
        clear ho
        cases o with
        | none =>
         gi_wp2_with fail
         refine ⟨trivial, ?_⟩
         refine (callsIn_wide.2 (undercut_pn w ad n cap l k F U p HS.out hn (by omega) m (by omega) f W HQ6.out HQ1.out hund)).mono ?_
         rintro e W2 ⟨rfl, ⟨f2, hk2⟩, hc2⟩
         have HK2 := Lib.hid hk2
         have HC2 : Hid (Ch (fun b => b = m ∨ W.heap.size ≤ b) W W2) := hc2.mono (fun b _ e => Or.inl e)
         clear hk2 hc2 P0 P1 lP G0 G1 G2 G3 lG
         gi_wp2_with fail
         have hal : Below W2.heap.size W2 (W2.alloc (.cells #[.int .i64 0, .int .i64 0, .int .i64 0, .int .i64 0, .int .i64 0, .int .i64 0, .int .i64 0] 67)) := (Below.refl _ _).alloc (Nat.le_refl _) _
         have HC3 := HC2.out.alloc (.cells #[.int .i64 0, .int .i64 0, .int .i64 0, .int .i64 0, .int .i64 0, .int .i64 0, .int .i64 0] 67)
         refine ⟨keepsF (by omega) HC3, kpQ_of HQ1.out.isMap ⟨by omega, by omega⟩ HC3, ?_, ⟨f2, HK2.out.step hal⟩, HQ2.out.ch HC3 (by have := HQ2.out.lt; omega), HQ3.out.ch HC3 (by have := HQ3.out.lt; omega), HQ4.out.ch HC3 (by have := HQ4.out.lt; omega), HQ5.out.ch HC3 (by have := HQ5.out.lt; omega), HC3.below HQ6.out (fun b hb => by omega) hsW, by have := HC3.size; omega⟩
         intro y hy
         rcases List.mem_append.1 hy with h | h
         ·
          exact HQ0.out y h
         ·
          simp at h; subst h; exact HO.out
        | some t =>
         obtain ⟨z, C, xc⟩ := t
         gi_wp2_with fail
         refine ⟨trivial, ?_⟩
         refine (callsIn_wide.2 (undercut_py w ad n cap l k F U p HS.out hn (by omega) m (by omega) f W HQ6.out HQ1.out z C xc hund)).mono ?_
         rintro e W2 ⟨rfl, ⟨f2, hk2⟩, hc2⟩
         have HC2 : Hid (Ch (fun b => b = m ∨ W.heap.size ≤ b) W W2) := hc2.mono (fun b _ e => Or.inl e)
         have hal : Below W2.heap.size W2 (W2.alloc (.cells #[.int .i64 k, .int .i64 F, .int .i64 U, .int .i64 p, .int .i64 z, .int .i64 C, .int .i64 xc] 67)) := (Below.refl _ _).alloc (Nat.le_refl _) _
         have HC3 : Hid (Ch (fun b => b = m ∨ W.heap.size ≤ b) W (W2.alloc (.cells #[.int .i64 k, .int .i64 F, .int .i64 U, .int .i64 p, .int .i64 z, .int .i64 C, .int .i64 xc] 67))) := HC2.out.alloc _
         have HS2 := Lib.hid (HQ3.out.ch HC2.out (by have := HQ3.out.lt; omega))
         have HS3 := Lib.hid (HQ3.out.ch HC3.out (by have := HQ3.out.lt; omega))
         have HT3 := Lib.hid (HQ4.out.ch HC3.out (by have := HQ4.out.lt; omega))
         have HE3 := Lib.hid (HQ5.out.ch HC3.out (by have := HQ5.out.lt; omega))
         have HB2 := Lib.hid (HC2.out.below HQ6.out (fun b hb => by omega) hsW)
         have HB3 := Lib.hid (HC3.out.below HQ6.out (fun b hb => by omega) hsW)
         clear hk2 hc2 P0 P1 lP G0 G1 G2 G3 lG hal
         have s0 := HS3.out.cell 0 rfl
         have s1 := HS3.out.cell 1 rfl
         have s2 := HS3.out.cell 2 rfl
         have s3 := HS3.out.cell 3 rfl
         have s4 := HS3.out.cell 4 rfl
         have s5 := HS3.out.cell 5 rfl
         have s6 := HS3.out.cell 6 rfl
         have sz0 := HS3.out.frozen 0
         have sz1 := HS3.out.frozen 1
         have sz2 := HS3.out.frozen 2
         have sz3 := HS3.out.frozen 3
         have sz4 := HS3.out.frozen 4
         have sz5 := HS3.out.frozen 5
         have sz6 := HS3.out.frozen 6
         have sl := HS3.out.lt
         have t0 := HT3.out.cell 0 rfl
         have tz := HT3.out.frozen 0
         have tl := HT3.out.lt
         have e0 := HE3.out.cell 0 rfl
         have ez := HE3.out.frozen 0
         have el := HE3.out.lt
         gi_wp2_with fail
         have hP := putF_all HS3.out HT3.out HE3.out [.int .i64 k, .int .i64 F, .int .i64 U, .int .i64 p, .int .i64 z, .int .i64 C, .int .i64 xc] rfl (.bool true) (.int .i64 0)
         have hC := (HC3.out.mono (p := fun b => (b = m ∨ W.heap.size ≤ b) ∨ b = w.heap.size + 1 ∨ b = w.heap.size + 1 + 1 ∨ b = w.heap.size + 1 + 1 + 1) (fun b _ h => Or.inl h)).trans (hP.2.2.2.mono (fun b _ h => Or.inr h))
         have hB := hP.2.2.2.below HB3.out (fun b h => by omega) HB3.out.size
         simp only [putF, Go.Proofs.Ytcmodmchnokmgaa.puz, Nat.reduceAdd, Nat.zero_add] at hP hB hC
         obtain ⟨a1, a2, a3, _⟩ := hP
         exact ⟨keepsF2 hC (fun b h => by omega), rfl, pre, _, rfl, HQ0.out, by simp [HO.out], by show Row _ _ _; rw [HO.out]; exact a1, a2, a3, hB⟩
       case done =>
        rintro D xs w6 hD rfl ⟨q0, q1, q2, q3, q4, q5, q6, q7⟩ hKd
        have hf := find_none q0
        have h := HRR.out
        rw [hf] at h
        simp only [findM, Prod.mk.injEq] at h
        obtain ⟨hS, hb, hE⟩ := h
        subst hS hb hE
        have HKW := Lib.hid hKd
        have HQ3 := Lib.hid q3
        have HQ4 := Lib.hid q4
        have HQ5 := Lib.hid q5
        have HQ6 := Lib.hid q6
        have s0 := q3.cell 0 rfl
        have s1 := q3.cell 1 rfl
        have s2 := q3.cell 2 rfl
        have s3 := q3.cell 3 rfl
        have s4 := q3.cell 4 rfl
        have s5 := q3.cell 5 rfl
        have s6 := q3.cell 6 rfl
        have sz0 := q3.frozen 0
        have sz1 := q3.frozen 1
        have sz2 := q3.frozen 2
        have sz3 := q3.frozen 3
        have sz4 := q3.frozen 4
        have sz5 := q3.frozen 5
        have sz6 := q3.frozen 6
        have sl := q3.lt
        have t0 := q4.cell 0 rfl
        have tz := q4.frozen 0
        have tl := q4.lt
        have e0 := q5.cell 0 rfl
        have ez := q5.frozen 0
        have el := q5.lt
        clear hf q0 q1 q2 q3 q4 q5 q6 hKd
        go_wp2_with fail
        have hP := putF_all HQ3.out HQ4.out HQ5.out [.int .i64 0, .int .i64 0, .int .i64 0, .int .i64 0, .int .i64 0, .int .i64 0, .int .i64 0] rfl (.bool false) (.int .i64 0)
        have hB : Below w.heap.size w (putF w6 (w.heap.size + 1) [.int .i64 0, .int .i64 0, .int .i64 0, .int .i64 0, .int .i64 0, .int .i64 0, .int .i64 0] (.bool false) (.int .i64 0)) := hP.2.2.2.below HQ6.out (fun k hk => by omega) HQ6.out.size
        have hKX : (putF w6 (w.heap.size + 1) [.int .i64 0, .int .i64 0, .int .i64 0, .int .i64 0, .int .i64 0, .int .i64 0, .int .i64 0] (.bool false) (.int .i64 0)).heap[D]? = some (.deferred (some [])) := (hP.2.2.2.2.2.2.2 D (Array.getElem?_eq_some_iff.1 HKW.out).1 (fun hk => by omega)).trans HKW.out
        simp only [putF, Go.Proofs.Ytcmodmchnokmgaa.puz, Nat.reduceAdd, Nat.zero_add] at hP hB hKX
        obtain ⟨a1, a2, a3, _⟩ := hP
        have HZS := Lib.hid a1
        have HZB := Lib.hid a2
        have HZE := Lib.hid a3
        have HZW := Lib.hid hB
        have HKX := Lib.hid hKX
        refine ⟨by simp, .inl ⟨_, _, rfl, run_takeDeferred HKX.out, ?_⟩⟩
        have Z1 := HZS.out.putO (o' := .deferred none) HKX.out rfl
        have Z2 := HZB.out.putO (o' := .deferred none) HKX.out rfl
        have Z3 := HZE.out.putO (o' := .deferred none) HKX.out rfl
        refine ⟨.tuple #[aggI ([0, 0, 0, 0, 0, 0, 0]), .bool false, .int .i64 0], results_cell3 Try.results33 _ _ rfl rfl rfl (loadVar_split Z1 (by rfl)) (loadVar_bool Z2) (loadVar_err Z3), ?_⟩
        exact ⟨rfl, HZW.out.trans (below_putZ _ (by have := hD; have := HZW.out.size; omega))⟩
       case stop =>
        rintro D cx pre W hD hpre ⟨rfl, pre', x, rfl, g0, g1, r1, r2, r3, h5⟩ hKd
        refine (wpIn_wide (n := 6)).2 ?_
        have hf := find_some hpre g0 g1
        have h := HRR.out
        rw [hf] at h
        simp only [findM, Prod.mk.injEq] at h
        obtain ⟨hS, hb, hE⟩ := h
        subst hS hb hE
        have HZS := Lib.hid r1
        have HZB := Lib.hid r2
        have HZE := Lib.hid r3
        have HZW := Lib.hid h5
        have HKX := Lib.hid hKd
        clear g0 g1 hf r1 r2 r3 h5 hKd hpre
        go_wp2_with fail
        refine ⟨by simp, .inl ⟨_, _, rfl, run_takeDeferred HKX.out, ?_⟩⟩
        have Z1 := HZS.out.putO (o' := .deferred none) HKX.out rfl
        have Z2 := HZB.out.putO (o' := .deferred none) HKX.out rfl
        have Z3 := HZE.out.putO (o' := .deferred none) HKX.out rfl
        refine ⟨.tuple #[aggI (outS x.1 (u x.1)), .bool true, .int .i64 0], results_cell3 Try.results33 _ _ rfl rfl rfl (loadVar_split Z1 (by rw [List.length_map]; exact outS_length _ _)) (loadVar_bool Z2) (loadVar_err Z3), ?_⟩
        exact ⟨rfl, HZW.out.trans (below_putZ _ (by have := hD; have := HZW.out.size; omega))⟩
   ·
    obtain ⟨rfl, rfl, rfl⟩ := HNO.out (Or.inr (by unfold domB; simp [h2]))
    go_wp2_with fail
    refine (valid_rates_p ad n cap l _ hn (HS.out.step (by (repeat' (first | (with_reducible first | exact Below.refl _ _ | assumption | exact Bw.out (by assumption) | refine bw_alloc ?_ _ | refine bw_step ?_ (by assumption) | refine Below.alloc ?_ ?_ _ | refine Below.drew ?_ | refine below_drewN ?_ _ | refine Below.setCell ?_ ?_ _ | refine below_step ?_ (by assumption) ?_ | exact Nat.le_refl _) | omega | (simp; omega) | (simp; done))))) p1 HP1.out).mono ?_
    rintro e w1 ⟨rfl, hb1⟩
    have R_d_1 : Row w1 (w.heap.size) [.int .i64 (fr), .int .i64 (un), .int .i64 (nn), .int .i64 (pp)] := by (repeat' (first | (with_reducible assumption) | (with_reducible refine Row.new' _ _ _ (by first | rfl | (simp; done) | omega)) | (with_reducible first | refine Row.alloc ?_ _ | refine Row.drew ?_ | refine Row.step ?_ (by assumption) | refine Row.drewN ?_ _) | (with_reducible refine Row.set2' ?_ _ _; first | exact ⟨_, _, by assumption⟩ | exact ⟨_, _, Row.alloc (by assumption) _⟩) | (with_reducible refine Row.other ?_ (by first | omega | (simp; omega)) _)))
    have c_d_0_1 := R_d_1.cell 0 rfl
    have c_d_1_1 := R_d_1.cell 1 rfl
    have c_d_2_1 := R_d_1.cell 2 rfl
    have c_d_3_1 := R_d_1.cell 3 rfl
    have l_d_1 := R_d_1.lt
    have R_s_1 : Row w1 (w.heap.size + 1) [.int .i64 (0), .int .i64 (0), .int .i64 (0), .int .i64 (0), .int .i64 (0), .int .i64 (0), .int .i64 (0)] := by (repeat' (first | (with_reducible assumption) | (with_reducible refine Row.new' _ _ _ (by first | rfl | (simp; done) | omega)) | (with_reducible first | refine Row.alloc ?_ _ | refine Row.drew ?_ | refine Row.step ?_ (by assumption) | refine Row.drewN ?_ _) | (with_reducible refine Row.set2' ?_ _ _; first | exact ⟨_, _, by assumption⟩ | exact ⟨_, _, Row.alloc (by assumption) _⟩) | (with_reducible refine Row.other ?_ (by first | omega | (simp; omega)) _)))
    have c_s_0_1 := R_s_1.cell 0 rfl
    have c_s_1_1 := R_s_1.cell 1 rfl
    have c_s_2_1 := R_s_1.cell 2 rfl
    have c_s_3_1 := R_s_1.cell 3 rfl
    have c_s_4_1 := R_s_1.cell 4 rfl
    have c_s_5_1 := R_s_1.cell 5 rfl
    have c_s_6_1 := R_s_1.cell 6 rfl
    have z_s_0_1 := R_s_1.frozen 0
    have z_s_1_1 := R_s_1.frozen 1
    have z_s_2_1 := R_s_1.frozen 2
    have z_s_3_1 := R_s_1.frozen 3
    have z_s_4_1 := R_s_1.frozen 4
    have z_s_5_1 := R_s_1.frozen 5
    have z_s_6_1 := R_s_1.frozen 6
    have l_s_1 := R_s_1.lt
    have R_b_1 : Row w1 (w.heap.size + 1 + 1) [.bool false] := by (repeat' (first | (with_reducible assumption) | (with_reducible refine Row.new' _ _ _ (by first | rfl | (simp; done) | omega)) | (with_reducible first | refine Row.alloc ?_ _ | refine Row.drew ?_ | refine Row.step ?_ (by assumption) | refine Row.drewN ?_ _) | (with_reducible refine Row.set2' ?_ _ _; first | exact ⟨_, _, by assumption⟩ | exact ⟨_, _, Row.alloc (by assumption) _⟩) | (with_reducible refine Row.other ?_ (by first | omega | (simp; omega)) _)))
    have c_b_0_1 := R_b_1.cell 0 rfl
    have z_b_0_1 := R_b_1.frozen 0
    have l_b_1 := R_b_1.lt
    have R_e_1 : Row w1 (w.heap.size + 1 + 1 + 1) [.int .i64 (0)] := by (repeat' (first | (with_reducible assumption) | (with_reducible refine Row.new' _ _ _ (by first | rfl | (simp; done) | omega)) | (with_reducible first | refine Row.alloc ?_ _ | refine Row.drew ?_ | refine Row.step ?_ (by assumption) | refine Row.drewN ?_ _) | (with_reducible refine Row.set2' ?_ _ _; first | exact ⟨_, _, by assumption⟩ | exact ⟨_, _, Row.alloc (by assumption) _⟩) | (with_reducible refine Row.other ?_ (by first | omega | (simp; omega)) _)))
    have c_e_0_1 := R_e_1.cell 0 rfl
    have z_e_0_1 := R_e_1.frozen 0
    have l_e_1 := R_e_1.lt
    have HB1 : Below w.heap.size w w1 := by (repeat' (first | (with_reducible first | exact Below.refl _ _ | assumption | exact Bw.out (by assumption) | refine bw_alloc ?_ _ | refine bw_step ?_ (by assumption) | refine Below.alloc ?_ ?_ _ | refine Below.drew ?_ | refine below_drewN ?_ _ | refine Below.setCell ?_ ?_ _ | refine below_step ?_ (by assumption) ?_ | exact Nat.le_refl _) | omega | (simp; omega) | (simp; done)))
    cases p1 with
    | false =>
     go_wp2_with fail
     have hP := putF_all R_s_1 R_b_1 R_e_1 [.int .i64 0, .int .i64 0, .int .i64 0, .int .i64 0, .int .i64 0, .int .i64 0, .int .i64 0] rfl (.bool false) (.int .i64 1)
     have hB : Below w.heap.size w (putF w1 (w.heap.size + 1) [.int .i64 0, .int .i64 0, .int .i64 0, .int .i64 0, .int .i64 0, .int .i64 0, .int .i64 0] (.bool false) (.int .i64 1)) := hP.2.2.2.below HB1 (fun k hk => by omega) HB1.size
     simp only [putF, Go.Proofs.Ytcmodmchnokmgaa.puz, Nat.reduceAdd, Nat.zero_add] at hP hB
     obtain ⟨a1, a2, a3, _⟩ := hP
     exact ⟨.tuple #[aggI [0, 0, 0, 0, 0, 0, 0], .bool false, .int .i64 1], results_cell3 Try.results33 _ _ rfl rfl rfl (loadVar_split a1 rfl) (loadVar_bool a2) (loadVar_err a3), rfl, hB⟩
    | true =>
     go_wp2_with fail
     have hP := putF_all R_s_1 R_b_1 R_e_1 [.int .i64 0, .int .i64 0, .int .i64 0, .int .i64 0, .int .i64 0, .int .i64 0, .int .i64 0] rfl (.bool false) (.int .i64 1)
     have hB : Below w.heap.size w (putF w1 (w.heap.size + 1) [.int .i64 0, .int .i64 0, .int .i64 0, .int .i64 0, .int .i64 0, .int .i64 0, .int .i64 0] (.bool false) (.int .i64 1)) := hP.2.2.2.below HB1 (fun k hk => by omega) HB1.size
     simp only [putF, Go.Proofs.Ytcmodmchnokmgaa.puz, Nat.reduceAdd, Nat.zero_add] at hP hB
     obtain ⟨a1, a2, a3, _⟩ := hP
     exact ⟨.tuple #[aggI [0, 0, 0, 0, 0, 0, 0], .bool false, .int .i64 1], results_cell3 Try.results33 _ _ rfl rfl rfl (loadVar_split a1 rfl) (loadVar_bool a2) (loadVar_err a3), rfl, hB⟩
  ·
   obtain ⟨rfl, rfl, rfl⟩ := HNO.out (Or.inr (by unfold domB; simp [h1]))
   go_wp2_with fail
   refine (valid_rates_p ad n cap l _ hn (HS.out.step (by (repeat' (first | (with_reducible first | exact Below.refl _ _ | assumption | exact Bw.out (by assumption) | refine bw_alloc ?_ _ | refine bw_step ?_ (by assumption) | refine Below.alloc ?_ ?_ _ | refine Below.drew ?_ | refine below_drewN ?_ _ | refine Below.setCell ?_ ?_ _ | refine below_step ?_ (by assumption) ?_ | exact Nat.le_refl _) | omega | (simp; omega) | (simp; done))))) p1 HP1.out).mono ?_
   rintro e w1 ⟨rfl, hb1⟩
   have R_d_1 : Row w1 (w.heap.size) [.int .i64 (fr), .int .i64 (un), .int .i64 (nn), .int .i64 (pp)] := by (repeat' (first | (with_reducible assumption) | (with_reducible refine Row.new' _ _ _ (by first | rfl | (simp; done) | omega)) | (with_reducible first | refine Row.alloc ?_ _ | refine Row.drew ?_ | refine Row.step ?_ (by assumption) | refine Row.drewN ?_ _) | (with_reducible refine Row.set2' ?_ _ _; first | exact ⟨_, _, by assumption⟩ | exact ⟨_, _, Row.alloc (by assumption) _⟩) | (with_reducible refine Row.other ?_ (by first | omega | (simp; omega)) _)))
   have c_d_0_1 := R_d_1.cell 0 rfl
   have c_d_1_1 := R_d_1.cell 1 rfl
   have c_d_2_1 := R_d_1.cell 2 rfl
   have c_d_3_1 := R_d_1.cell 3 rfl
   have l_d_1 := R_d_1.lt
   have R_s_1 : Row w1 (w.heap.size + 1) [.int .i64 (0), .int .i64 (0), .int .i64 (0), .int .i64 (0), .int .i64 (0), .int .i64 (0), .int .i64 (0)] := by (repeat' (first | (with_reducible assumption) | (with_reducible refine Row.new' _ _ _ (by first | rfl | (simp; done) | omega)) | (with_reducible first | refine Row.alloc ?_ _ | refine Row.drew ?_ | refine Row.step ?_ (by assumption) | refine Row.drewN ?_ _) | (with_reducible refine Row.set2' ?_ _ _; first | exact ⟨_, _, by assumption⟩ | exact ⟨_, _, Row.alloc (by assumption) _⟩) | (with_reducible refine Row.other ?_ (by first | omega | (simp; omega)) _)))
   have c_s_0_1 := R_s_1.cell 0 rfl
   have c_s_1_1 := R_s_1.cell 1 rfl
   have c_s_2_1 := R_s_1.cell 2 rfl
   have c_s_3_1 := R_s_1.cell 3 rfl
   have c_s_4_1 := R_s_1.cell 4 rfl
   have c_s_5_1 := R_s_1.cell 5 rfl
   have c_s_6_1 := R_s_1.cell 6 rfl
   have z_s_0_1 := R_s_1.frozen 0
   have z_s_1_1 := R_s_1.frozen 1
   have z_s_2_1 := R_s_1.frozen 2
   have z_s_3_1 := R_s_1.frozen 3
   have z_s_4_1 := R_s_1.frozen 4
   have z_s_5_1 := R_s_1.frozen 5
   have z_s_6_1 := R_s_1.frozen 6
   have l_s_1 := R_s_1.lt
   have R_b_1 : Row w1 (w.heap.size + 1 + 1) [.bool false] := by (repeat' (first | (with_reducible assumption) | (with_reducible refine Row.new' _ _ _ (by first | rfl | (simp; done) | omega)) | (with_reducible first | refine Row.alloc ?_ _ | refine Row.drew ?_ | refine Row.step ?_ (by assumption) | refine Row.drewN ?_ _) | (with_reducible refine Row.set2' ?_ _ _; first | exact ⟨_, _, by assumption⟩ | exact ⟨_, _, Row.alloc (by assumption) _⟩) | (with_reducible refine Row.other ?_ (by first | omega | (simp; omega)) _)))
   have c_b_0_1 := R_b_1.cell 0 rfl
   have z_b_0_1 := R_b_1.frozen 0
   have l_b_1 := R_b_1.lt
   have R_e_1 : Row w1 (w.heap.size + 1 + 1 + 1) [.int .i64 (0)] := by (repeat' (first | (with_reducible assumption) | (with_reducible refine Row.new' _ _ _ (by first | rfl | (simp; done) | omega)) | (with_reducible first | refine Row.alloc ?_ _ | refine Row.drew ?_ | refine Row.step ?_ (by assumption) | refine Row.drewN ?_ _) | (with_reducible refine Row.set2' ?_ _ _; first | exact ⟨_, _, by assumption⟩ | exact ⟨_, _, Row.alloc (by assumption) _⟩) | (with_reducible refine Row.other ?_ (by first | omega | (simp; omega)) _)))
   have c_e_0_1 := R_e_1.cell 0 rfl
   have z_e_0_1 := R_e_1.frozen 0
   have l_e_1 := R_e_1.lt
   have HB1 : Below w.heap.size w w1 := by (repeat' (first | (with_reducible first | exact Below.refl _ _ | assumption | exact Bw.out (by assumption) | refine bw_alloc ?_ _ | refine bw_step ?_ (by assumption) | refine Below.alloc ?_ ?_ _ | refine Below.drew ?_ | refine below_drewN ?_ _ | refine Below.setCell ?_ ?_ _ | refine below_step ?_ (by assumption) ?_ | exact Nat.le_refl _) | omega | (simp; omega) | (simp; done)))
   cases p1 with
   | false =>
    go_wp2_with fail
    have hP := putF_all R_s_1 R_b_1 R_e_1 [.int .i64 0, .int .i64 0, .int .i64 0, .int .i64 0, .int .i64 0, .int .i64 0, .int .i64 0] rfl (.bool false) (.int .i64 1)
    have hB : Below w.heap.size w (putF w1 (w.heap.size + 1) [.int .i64 0, .int .i64 0, .int .i64 0, .int .i64 0, .int .i64 0, .int .i64 0, .int .i64 0] (.bool false) (.int .i64 1)) := hP.2.2.2.below HB1 (fun k hk => by omega) HB1.size
    simp only [putF, Go.Proofs.Ytcmodmchnokmgaa.puz, Nat.reduceAdd, Nat.zero_add] at hP hB
    obtain ⟨a1, a2, a3, _⟩ := hP
    exact ⟨.tuple #[aggI [0, 0, 0, 0, 0, 0, 0], .bool false, .int .i64 1], results_cell3 Try.results33 _ _ rfl rfl rfl (loadVar_split a1 rfl) (loadVar_bool a2) (loadVar_err a3), rfl, hB⟩
   | true =>
    go_wp2_with fail
    have hP := putF_all R_s_1 R_b_1 R_e_1 [.int .i64 0, .int .i64 0, .int .i64 0, .int .i64 0, .int .i64 0, .int .i64 0, .int .i64 0] rfl (.bool false) (.int .i64 1)
    have hB : Below w.heap.size w (putF w1 (w.heap.size + 1) [.int .i64 0, .int .i64 0, .int .i64 0, .int .i64 0, .int .i64 0, .int .i64 0, .int .i64 0] (.bool false) (.int .i64 1)) := hP.2.2.2.below HB1 (fun k hk => by omega) HB1.size
    simp only [putF, Go.Proofs.Ytcmodmchnokmgaa.puz, Nat.reduceAdd, Nat.zero_add] at hP hB
    obtain ⟨a1, a2, a3, _⟩ := hP
    exact ⟨.tuple #[aggI [0, 0, 0, 0, 0, 0, 0], .bool false, .int .i64 1], results_cell3 Try.results33 _ _ rfl rfl rfl (loadVar_split a1 rfl) (loadVar_bool a2) (loadVar_err a3), rfl, hB⟩
 ·
  obtain ⟨rfl, rfl, rfl⟩ := HNO.out (Or.inr (by unfold domB; simp [h0]))
  go_wp2_with fail
  refine (valid_rates_p ad n cap l _ hn (HS.out.step (by (repeat' (first | (with_reducible first | exact Below.refl _ _ | assumption | exact Bw.out (by assumption) | refine bw_alloc ?_ _ | refine bw_step ?_ (by assumption) | refine Below.alloc ?_ ?_ _ | refine Below.drew ?_ | refine below_drewN ?_ _ | refine Below.setCell ?_ ?_ _ | refine below_step ?_ (by assumption) ?_ | exact Nat.le_refl _) | omega | (simp; omega) | (simp; done))))) p1 HP1.out).mono ?_
  rintro e w1 ⟨rfl, hb1⟩
  have R_d_1 : Row w1 (w.heap.size) [.int .i64 (fr), .int .i64 (un), .int .i64 (nn), .int .i64 (pp)] := by (repeat' (first | (with_reducible assumption) | (with_reducible refine Row.new' _ _ _ (by first | rfl | (simp; done) | omega)) | (with_reducible first | refine Row.alloc ?_ _ | refine Row.drew ?_ | refine Row.step ?_ (by assumption) | refine Row.drewN ?_ _) | (with_reducible refine Row.set2' ?_ _ _; first | exact ⟨_, _, by assumption⟩ | exact ⟨_, _, Row.alloc (by assumption) _⟩) | (with_reducible refine Row.other ?_ (by first | omega | (simp; omega)) _)))
  have c_d_0_1 := R_d_1.cell 0 rfl
  have c_d_1_1 := R_d_1.cell 1 rfl
  have c_d_2_1 := R_d_1.cell 2 rfl
  have c_d_3_1 := R_d_1.cell 3 rfl
  have l_d_1 := R_d_1.lt
  have R_s_1 : Row w1 (w.heap.size + 1) [.int .i64 (0), .int .i64 (0), .int .i64 (0), .int .i64 (0), .int .i64 (0), .int .i64 (0), .int .i64 (0)] := by (repeat' (first | (with_reducible assumption) | (with_reducible refine Row.new' _ _ _ (by first | rfl | (simp; done) | omega)) | (with_reducible first | refine Row.alloc ?_ _ | refine Row.drew ?_ | refine Row.step ?_ (by assumption) | refine Row.drewN ?_ _) | (with_reducible refine Row.set2' ?_ _ _; first | exact ⟨_, _, by assumption⟩ | exact ⟨_, _, Row.alloc (by assumption) _⟩) | (with_reducible refine Row.other ?_ (by first | omega | (simp; omega)) _)))
  have c_s_0_1 := R_s_1.cell 0 rfl
  have c_s_1_1 := R_s_1.cell 1 rfl
  have c_s_2_1 := R_s_1.cell 2 rfl
  have c_s_3_1 := R_s_1.cell 3 rfl
  have c_s_4_1 := R_s_1.cell 4 rfl
  have c_s_5_1 := R_s_1.cell 5 rfl
  have c_s_6_1 := R_s_1.cell 6 rfl
  have z_s_0_1 := R_s_1.frozen 0
  have z_s_1_1 := R_s_1.frozen 1
  have z_s_2_1 := R_s_1.frozen 2
  have z_s_3_1 := R_s_1.frozen 3
  have z_s_4_1 := R_s_1.frozen 4
  have z_s_5_1 := R_s_1.frozen 5
  have z_s_6_1 := R_s_1.frozen 6
  have l_s_1 := R_s_1.lt
  have R_b_1 : Row w1 (w.heap.size + 1 + 1) [.bool false] := by (repeat' (first | (with_reducible assumption) | (with_reducible refine Row.new' _ _ _ (by first | rfl | (simp; done) | omega)) | (with_reducible first | refine Row.alloc ?_ _ | refine Row.drew ?_ | refine Row.step ?_ (by assumption) | refine Row.drewN ?_ _) | (with_reducible refine Row.set2' ?_ _ _; first | exact ⟨_, _, by assumption⟩ | exact ⟨_, _, Row.alloc (by assumption) _⟩) | (with_reducible refine Row.other ?_ (by first | omega | (simp; omega)) _)))
  have c_b_0_1 := R_b_1.cell 0 rfl
  have z_b_0_1 := R_b_1.frozen 0
  have l_b_1 := R_b_1.lt
  have R_e_1 : Row w1 (w.heap.size + 1 + 1 + 1) [.int .i64 (0)] := by (repeat' (first | (with_reducible assumption) | (with_reducible refine Row.new' _ _ _ (by first | rfl | (simp; done) | omega)) | (with_reducible first | refine Row.alloc ?_ _ | refine Row.drew ?_ | refine Row.step ?_ (by assumption) | refine Row.drewN ?_ _) | (with_reducible refine Row.set2' ?_ _ _; first | exact ⟨_, _, by assumption⟩ | exact ⟨_, _, Row.alloc (by assumption) _⟩) | (with_reducible refine Row.other ?_ (by first | omega | (simp; omega)) _)))
  have c_e_0_1 := R_e_1.cell 0 rfl
  have z_e_0_1 := R_e_1.frozen 0
  have l_e_1 := R_e_1.lt
  have HB1 : Below w.heap.size w w1 := by (repeat' (first | (with_reducible first | exact Below.refl _ _ | assumption | exact Bw.out (by assumption) | refine bw_alloc ?_ _ | refine bw_step ?_ (by assumption) | refine Below.alloc ?_ ?_ _ | refine Below.drew ?_ | refine below_drewN ?_ _ | refine Below.setCell ?_ ?_ _ | refine below_step ?_ (by assumption) ?_ | exact Nat.le_refl _) | omega | (simp; omega) | (simp; done)))
  cases p1 with
  | false =>
   go_wp2_with fail
   have hP := putF_all R_s_1 R_b_1 R_e_1 [.int .i64 0, .int .i64 0, .int .i64 0, .int .i64 0, .int .i64 0, .int .i64 0, .int .i64 0] rfl (.bool false) (.int .i64 1)
   have hB : Below w.heap.size w (putF w1 (w.heap.size + 1) [.int .i64 0, .int .i64 0, .int .i64 0, .int .i64 0, .int .i64 0, .int .i64 0, .int .i64 0] (.bool false) (.int .i64 1)) := hP.2.2.2.below HB1 (fun k hk => by omega) HB1.size
   simp only [putF, Go.Proofs.Ytcmodmchnokmgaa.puz, Nat.reduceAdd, Nat.zero_add] at hP hB
   obtain ⟨a1, a2, a3, _⟩ := hP
   exact ⟨.tuple #[aggI [0, 0, 0, 0, 0, 0, 0], .bool false, .int .i64 1], results_cell3 Try.results33 _ _ rfl rfl rfl (loadVar_split a1 rfl) (loadVar_bool a2) (loadVar_err a3), rfl, hB⟩
  | true =>
   go_wp2_with fail
   have hP := putF_all R_s_1 R_b_1 R_e_1 [.int .i64 0, .int .i64 0, .int .i64 0, .int .i64 0, .int .i64 0, .int .i64 0, .int .i64 0] rfl (.bool false) (.int .i64 1)
   have hB : Below w.heap.size w (putF w1 (w.heap.size + 1) [.int .i64 0, .int .i64 0, .int .i64 0, .int .i64 0, .int .i64 0, .int .i64 0, .int .i64 0] (.bool false) (.int .i64 1)) := hP.2.2.2.below HB1 (fun k hk => by omega) HB1.size
   simp only [putF, Go.Proofs.Ytcmodmchnokmgaa.puz, Nat.reduceAdd, Nat.zero_add] at hP hB
   obtain ⟨a1, a2, a3, _⟩ := hP
   exact ⟨.tuple #[aggI [0, 0, 0, 0, 0, 0, 0], .bool false, .int .i64 1], results_cell3 Try.results33 _ _ rfl rfl rfl (loadVar_split a1 rfl) (loadVar_bool a2) (loadVar_err a3), rfl, hB⟩
end
section
set_option linter.unusedSimpArgs false
set_option linter.unusedVariables false
open Go.RowKit
/-- What Best answers, where x is the best way. -/
def bestO (l : List RateV) (a : AskV) (x : WayV) : Int × List Int × Int := if validR l && askB a then (if x.s then (x.c, x.cuts, 0) else (0, [], 4)) else (0, [], 1)
set_option maxRecDepth 100000 in
set_option maxHeartbeats 3200000 in
theorem Best_any (ad : Option Addr) (n cap : Nat) (l : List RateV) (k fr un ps : Int) (V : Int → WayV) (w : World) (hs : SlR w ad n l) (hn : n ≤ 9223372036854775807) (hV : askB ⟨k, fr, un, ps⟩ = true → RecW l ⟨k, fr, un, ps⟩ V) (x : WayV) (hx : V fr = x) (N E : Int) (Cs : List Int) (hR : bestO l ⟨k, fr, un, ps⟩ x = (N, Cs, E)) :
  Calls Try.prog 58 #[.slice ad n cap, .agg #[.int .i64 k, .int .i64 fr, .int .i64 un, .int .i64 ps]] w fun e w' => ∃ v, e = .returned (.tuple #[.int .i64 N, v, .int .i64 E]) ∧ SlV w' v Cs ∧ Below w.heap.size w w' := by
 have HS := Lib.hid hs
 have HX := Lib.hid hx
 obtain ⟨p1, hp1⟩ : ∃ p, validR l = p := ⟨_, rfl⟩
 obtain ⟨p2, hp2⟩ : ∃ p, askB ⟨k, fr, un, ps⟩ = p := ⟨_, rfl⟩
 unfold bestO at hR
 rw [hp1, hp2] at hR
 have HP1 := Lib.hid hp1
 have HP2 := Lib.hid hp2
 have HV := Lib.hid hV
 have HR := Lib.hid hR
 clear hs hx hp1 hp2 hV hR
 go_enter Try.func58, Try.ntmps58
 go_wp2_with fail
 refine (valid_rates_p ad n cap l _ hn (HS.out.step ((Below.refl w.heap.size w).alloc (Nat.le_refl _) _)) p1 HP1.out).mono ?_
 rintro e w1 ⟨rfl, hb1⟩
 have R_a_1 : Row w1 (w.heap.size) [.int .i64 (k), .int .i64 (fr), .int .i64 (un), .int .i64 (ps)] := by (repeat' (first | (with_reducible assumption) | (with_reducible refine Row.new' _ _ _ (by first | rfl | (simp; done) | omega)) | (with_reducible first | refine Row.alloc ?_ _ | refine Row.drew ?_ | refine Row.step ?_ (by assumption) | refine Row.drewN ?_ _) | (with_reducible refine Row.set2' ?_ _ _; first | exact ⟨_, _, by assumption⟩ | exact ⟨_, _, Row.alloc (by assumption) _⟩) | (with_reducible refine Row.other ?_ (by first | omega | (simp; omega)) _)))
 have c_a_0_1 := R_a_1.cell 0 rfl
 have c_a_1_1 := R_a_1.cell 1 rfl
 have c_a_2_1 := R_a_1.cell 2 rfl
 have c_a_3_1 := R_a_1.cell 3 rfl
 have l_a_1 := R_a_1.lt
 have HB1 : Below w.heap.size w w1 := by (repeat' (first | (with_reducible first | exact Below.refl _ _ | assumption | exact Bw.out (by assumption) | refine bw_alloc ?_ _ | refine bw_step ?_ (by assumption) | refine Below.alloc ?_ ?_ _ | refine Below.drew ?_ | refine below_drewN ?_ _ | refine Below.setCell ?_ ?_ _ | refine below_step ?_ (by assumption) ?_ | exact Nat.le_refl _) | omega | (simp; omega) | (simp; done)))
 cases p1 with
 | false =>
  have h := HR.out
  simp only [Bool.false_and, Bool.false_eq_true, if_false, Prod.mk.injEq] at h
  obtain ⟨rfl, rfl, rfl⟩ := h
  go_wp2_with fail
  go_returns
  refine ⟨_, rfl, SlV.nil _, ?_⟩
  (repeat' (first | (with_reducible first | exact Below.refl _ _ | assumption | exact Bw.out (by assumption) | refine bw_alloc ?_ _ | refine bw_step ?_ (by assumption) | refine Below.alloc ?_ ?_ _ | refine Below.drew ?_ | refine below_drewN ?_ _ | refine Below.setCell ?_ ?_ _ | refine below_step ?_ (by assumption) ?_ | exact Nat.le_refl _) | omega | (simp; omega) | (simp; done)))
 | true =>
  go_wp2_with fail
  refine (sright_p k fr un ps p2 HP2.out _).mono ?_
  rintro e w2 ⟨rfl, hb2⟩
  have R_a_2 : Row w2 (w.heap.size) [.int .i64 (k), .int .i64 (fr), .int .i64 (un), .int .i64 (ps)] := by (repeat' (first | (with_reducible assumption) | (with_reducible refine Row.new' _ _ _ (by first | rfl | (simp; done) | omega)) | (with_reducible first | refine Row.alloc ?_ _ | refine Row.drew ?_ | refine Row.step ?_ (by assumption) | refine Row.drewN ?_ _) | (with_reducible refine Row.set2' ?_ _ _; first | exact ⟨_, _, by assumption⟩ | exact ⟨_, _, Row.alloc (by assumption) _⟩) | (with_reducible refine Row.other ?_ (by first | omega | (simp; omega)) _)))
  have c_a_0_2 := R_a_2.cell 0 rfl
  have c_a_1_2 := R_a_2.cell 1 rfl
  have c_a_2_2 := R_a_2.cell 2 rfl
  have c_a_3_2 := R_a_2.cell 3 rfl
  have l_a_2 := R_a_2.lt
  have HB2 : Below w.heap.size w w2 := by (repeat' (first | (with_reducible first | exact Below.refl _ _ | assumption | exact Bw.out (by assumption) | refine bw_alloc ?_ _ | refine bw_step ?_ (by assumption) | refine Below.alloc ?_ ?_ _ | refine Below.drew ?_ | refine below_drewN ?_ _ | refine Below.setCell ?_ ?_ _ | refine below_step ?_ (by assumption) ?_ | exact Nat.le_refl _) | omega | (simp; omega) | (simp; done)))
  clear R_a_1 c_a_0_1 c_a_1_1 c_a_2_1 c_a_3_1 hb1 HB1
  cases p2 with
  | false =>
   have h := HR.out
   simp only [Bool.and_false, Bool.false_eq_true, if_false, Prod.mk.injEq] at h
   obtain ⟨rfl, rfl, rfl⟩ := h
   go_wp2_with fail
   go_returns
   refine ⟨_, rfl, SlV.nil _, ?_⟩
   (repeat' (first | (with_reducible first | exact Below.refl _ _ | assumption | exact Bw.out (by assumption) | refine bw_alloc ?_ _ | refine bw_step ?_ (by assumption) | refine Below.alloc ?_ ?_ _ | refine Below.drew ?_ | refine below_drewN ?_ _ | refine Below.setCell ?_ ?_ _ | refine below_step ?_ (by assumption) ?_ | exact Nat.le_refl _) | omega | (simp; omega) | (simp; done)))
  | true =>
   obtain ⟨⟨b1, b2, b3, b4⟩, _, _⟩ := askB_in HP2.out
   simp only at b1 b2 b3 b4
   have hmm := @run_makeMap Try.prog
   have HBB := Lib.hid HB2
   have hsz2 := HB2.size
   have hal : Below w2.heap.size w2 (w2.alloc (.map #[] 0)) := (Below.refl _ _).alloc (Nat.le_refl _) _
   have HAL := Lib.hid hal
   clear hal
   go_wp2_with fail
   refine (best_any w ad n cap l k fr un ps V HS.out hn (HV.out HP2.out) b1 b2 b3 w2.heap.size hsz2 [] (w2.alloc (.map #[] 0)) (HBB.out.trans (HAL.out.mono hsz2)) (KMap.made _ w2) x HX.out).mono ?_
   rintro e w3 ⟨v, rfl, hv, ⟨f3, hk3⟩, hc3⟩
   obtain ⟨ua, un2, uc, hun2, rfl, hsl⟩ := hv.form
   have HSL := Lib.hid hsl
   have HB3 : Hid (Below w.heap.size w w3) := hc3.below (HBB.out.trans (HAL.out.mono hsz2)) (fun b e => by omega) (by have := HAL.out.size; omega)
   have HN2 := Lib.hid hun2
   have h := HR.out
   clear hv hun2 hsl hk3 hc3
   simp only [Bool.and_self, if_true] at h
   cases hxs : x.s with
   | false =>
    rw [hxs] at h
    simp only [Bool.false_eq_true, if_false, Prod.mk.injEq] at h
    obtain ⟨rfl, rfl, rfl⟩ := h
    go_wp2_with fail
    go_returns
    refine ⟨_, rfl, SlV.nil _, ?_⟩
    exact HB3.out.alloc HB3.out.size _
   | true =>
    rw [hxs] at h
    simp only [if_true, Prod.mk.injEq] at h
    obtain ⟨hN, hCs, rfl⟩ := h
    subst hN hCs
    obtain ⟨w4, hw4⟩ : ∃ X, World.alloc w3 (.cells #[.int .i64 x.c, .bool true, .slice ua un2 uc] 130) = X := ⟨_, rfl⟩
    have hb4 : Below w3.heap.size w3 w4 := by rw [← hw4]; exact (Below.refl _ _).alloc (Nat.le_refl _) _
    have hR4 : Row w4 w3.heap.size [.int .i64 x.c, .bool true, .slice ua un2 uc] := by rw [← hw4]; exact Row.new' _ _ _ rfl
    have HSL4 := Lib.hid (HSL.out.step hb4).1
    have HB4 : Hid (Below w.heap.size w w4) := HB3.out.trans (hb4.mono HB3.out.size)
    have c0 := hR4.cell 0 rfl
    have c1 := hR4.cell 1 rfl
    have c2 := hR4.cell 2 rfl
    have cl := hR4.lt
    clear hb4 hR4 hxs
    go_upto_region 4 with fail
    try rw [hw4]
    clear hw4
    go_upto_region 6 with fail
    go_quiet (fail)
    go_wp2_with fail
    go_returns
    exact ⟨_, rfl, HSL4.out.step (below_drewN (Below.refl _ _) _), (below_drewN HB4.out _ : Below _ _ _)⟩
set_option maxRecDepth 100000 in
set_option maxHeartbeats 3200000 in
theorem Shows_bad (ad : Option Addr) (n cap : Nat) (l : List RateV) (k fr un ps z C x : Int) (w : World) (hs : SlR w ad n l) (hn : n ≤ 9223372036854775807) (h : (validR l && askB ⟨k, fr, un, ps⟩) = false) :
  Calls Try.prog 59 #[.slice ad n cap, .agg #[.int .i64 k, .int .i64 fr, .int .i64 un, .int .i64 ps, .int .i64 z, .int .i64 C, .int .i64 x]] w fun e w' => e = .returned (.tuple #[.bool false, .int .i64 1]) ∧ Below w.heap.size w w' := by
 have HS := Lib.hid hs
 obtain ⟨p1, hp1⟩ : ∃ p, validR l = p := ⟨_, rfl⟩
 obtain ⟨p2, hp2⟩ : ∃ p, askB ⟨k, fr, un, ps⟩ = p := ⟨_, rfl⟩
 rw [hp1, hp2] at h
 have HP1 := Lib.hid hp1
 have HP2 := Lib.hid hp2
 have HH := Lib.hid h
 clear hs hp1 hp2 h
 go_enter Try.func59, Try.ntmps59
 go_wp2_with fail
 refine (valid_rates_p ad n cap l _ hn (HS.out.step ((Below.refl w.heap.size w).alloc (Nat.le_refl _) _)) p1 HP1.out).mono ?_
 rintro e w1 ⟨rfl, hb1⟩
 have R_a_1 : Row w1 (w.heap.size) [.int .i64 (k), .int .i64 (fr), .int .i64 (un), .int .i64 (ps), .int .i64 (z), .int .i64 (C), .int .i64 (x)] := by (repeat' (first | (with_reducible assumption) | (with_reducible refine Row.new' _ _ _ (by first | rfl | (simp; done) | omega)) | (with_reducible first | refine Row.alloc ?_ _ | refine Row.drew ?_ | refine Row.step ?_ (by assumption) | refine Row.drewN ?_ _) | (with_reducible refine Row.set2' ?_ _ _; first | exact ⟨_, _, by assumption⟩ | exact ⟨_, _, Row.alloc (by assumption) _⟩) | (with_reducible refine Row.other ?_ (by first | omega | (simp; omega)) _)))
 have c_a_0_1 := R_a_1.cell 0 rfl
 have c_a_1_1 := R_a_1.cell 1 rfl
 have c_a_2_1 := R_a_1.cell 2 rfl
 have c_a_3_1 := R_a_1.cell 3 rfl
 have c_a_4_1 := R_a_1.cell 4 rfl
 have c_a_5_1 := R_a_1.cell 5 rfl
 have c_a_6_1 := R_a_1.cell 6 rfl
 have l_a_1 := R_a_1.lt
 have HB1 : Below w.heap.size w w1 := by (repeat' (first | (with_reducible first | exact Below.refl _ _ | assumption | exact Bw.out (by assumption) | refine bw_alloc ?_ _ | refine bw_step ?_ (by assumption) | refine Below.alloc ?_ ?_ _ | refine Below.drew ?_ | refine below_drewN ?_ _ | refine Below.setCell ?_ ?_ _ | refine below_step ?_ (by assumption) ?_ | exact Nat.le_refl _) | omega | (simp; omega) | (simp; done)))
 cases p1 with
 | false =>
  go_wp2_with fail
  go_returns
  refine ⟨rfl, ?_⟩
  (repeat' (first | (with_reducible first | exact Below.refl _ _ | assumption | exact Bw.out (by assumption) | refine bw_alloc ?_ _ | refine bw_step ?_ (by assumption) | refine Below.alloc ?_ ?_ _ | refine Below.drew ?_ | refine below_drewN ?_ _ | refine Below.setCell ?_ ?_ _ | refine below_step ?_ (by assumption) ?_ | exact Nat.le_refl _) | omega | (simp; omega) | (simp; done)))
 | true =>
  obtain rfl : p2 = false := by have h := HH.out; simpa using h
  go_wp2_with fail
  refine (sright_p k fr un ps false HP2.out _).mono ?_
  rintro e w2 ⟨rfl, hb2⟩
  have R_a_2 : Row w2 (w.heap.size) [.int .i64 (k), .int .i64 (fr), .int .i64 (un), .int .i64 (ps), .int .i64 (z), .int .i64 (C), .int .i64 (x)] := by (repeat' (first | (with_reducible assumption) | (with_reducible refine Row.new' _ _ _ (by first | rfl | (simp; done) | omega)) | (with_reducible first | refine Row.alloc ?_ _ | refine Row.drew ?_ | refine Row.step ?_ (by assumption) | refine Row.drewN ?_ _) | (with_reducible refine Row.set2' ?_ _ _; first | exact ⟨_, _, by assumption⟩ | exact ⟨_, _, Row.alloc (by assumption) _⟩) | (with_reducible refine Row.other ?_ (by first | omega | (simp; omega)) _)))
  have c_a_0_2 := R_a_2.cell 0 rfl
  have c_a_1_2 := R_a_2.cell 1 rfl
  have c_a_2_2 := R_a_2.cell 2 rfl
  have c_a_3_2 := R_a_2.cell 3 rfl
  have c_a_4_2 := R_a_2.cell 4 rfl
  have c_a_5_2 := R_a_2.cell 5 rfl
  have c_a_6_2 := R_a_2.cell 6 rfl
  have l_a_2 := R_a_2.lt
  have HB2 : Below w.heap.size w w2 := by (repeat' (first | (with_reducible first | exact Below.refl _ _ | assumption | exact Bw.out (by assumption) | refine bw_alloc ?_ _ | refine bw_step ?_ (by assumption) | refine Below.alloc ?_ ?_ _ | refine Below.drew ?_ | refine below_drewN ?_ _ | refine Below.setCell ?_ ?_ _ | refine below_step ?_ (by assumption) ?_ | exact Nat.le_refl _) | omega | (simp; omega) | (simp; done)))
  clear R_a_1 c_a_0_1 c_a_1_1 c_a_2_1 c_a_3_1 c_a_4_1 c_a_5_1 c_a_6_1 hb1 HB1
  go_wp2_with fail
  go_returns
  refine ⟨rfl, ?_⟩
  (repeat' (first | (with_reducible first | exact Below.refl _ _ | assumption | exact Bw.out (by assumption) | refine bw_alloc ?_ _ | refine bw_step ?_ (by assumption) | refine Below.alloc ?_ ?_ _ | refine Below.drew ?_ | refine below_drewN ?_ _ | refine Below.setCell ?_ ?_ _ | refine below_step ?_ (by assumption) ?_ | exact Nat.le_refl _) | omega | (simp; omega) | (simp; done)))
set_option maxRecDepth 100000 in
set_option maxHeartbeats 3200000 in
theorem Shows_yes (ad : Option Addr) (n cap : Nat) (l : List RateV) (k fr un ps z C x : Int) (w : World) (hs : SlR w ad n l) (hn : n ≤ 9223372036854775807) (h : (validR l && askB ⟨k, fr, un, ps⟩) = true) (hu : UndAt l ⟨k, fr, un, ps⟩ (some (z, C, x))) :
  Calls Try.prog 59 #[.slice ad n cap, .agg #[.int .i64 k, .int .i64 fr, .int .i64 un, .int .i64 ps, .int .i64 z, .int .i64 C, .int .i64 x]] w fun e w' => e = .returned (.tuple #[.bool true, .int .i64 0]) ∧ Below w.heap.size w w' := by
 have HS := Lib.hid hs
 rw [Bool.and_eq_true] at h
 have HP1 := Lib.hid h.1
 have HP2 := Lib.hid h.2
 have HU := Lib.hid hu
 obtain ⟨⟨b1, b2, b3, b4⟩, _, _⟩ := askB_in h.2
 simp only at b1 b2 b3 b4
 clear hs h hu
 go_enter Try.func59, Try.ntmps59
 go_wp2_with fail
 refine (valid_rates_p ad n cap l _ hn (HS.out.step ((Below.refl w.heap.size w).alloc (Nat.le_refl _) _)) true HP1.out).mono ?_
 rintro e w1 ⟨rfl, hb1⟩
 have R_a_1 : Row w1 (w.heap.size) [.int .i64 (k), .int .i64 (fr), .int .i64 (un), .int .i64 (ps), .int .i64 (z), .int .i64 (C), .int .i64 (x)] := by (repeat' (first | (with_reducible assumption) | (with_reducible refine Row.new' _ _ _ (by first | rfl | (simp; done) | omega)) | (with_reducible first | refine Row.alloc ?_ _ | refine Row.drew ?_ | refine Row.step ?_ (by assumption) | refine Row.drewN ?_ _) | (with_reducible refine Row.set2' ?_ _ _; first | exact ⟨_, _, by assumption⟩ | exact ⟨_, _, Row.alloc (by assumption) _⟩) | (with_reducible refine Row.other ?_ (by first | omega | (simp; omega)) _)))
 have c_a_0_1 := R_a_1.cell 0 rfl
 have c_a_1_1 := R_a_1.cell 1 rfl
 have c_a_2_1 := R_a_1.cell 2 rfl
 have c_a_3_1 := R_a_1.cell 3 rfl
 have c_a_4_1 := R_a_1.cell 4 rfl
 have c_a_5_1 := R_a_1.cell 5 rfl
 have c_a_6_1 := R_a_1.cell 6 rfl
 have l_a_1 := R_a_1.lt
 have HB1 : Below w.heap.size w w1 := by (repeat' (first | (with_reducible first | exact Below.refl _ _ | assumption | exact Bw.out (by assumption) | refine bw_alloc ?_ _ | refine bw_step ?_ (by assumption) | refine Below.alloc ?_ ?_ _ | refine Below.drew ?_ | refine below_drewN ?_ _ | refine Below.setCell ?_ ?_ _ | refine below_step ?_ (by assumption) ?_ | exact Nat.le_refl _) | omega | (simp; omega) | (simp; done)))
 go_wp2_with fail
 refine (sright_p k fr un ps true HP2.out _).mono ?_
 rintro e w2 ⟨rfl, hb2⟩
 have R_a_2 : Row w2 (w.heap.size) [.int .i64 (k), .int .i64 (fr), .int .i64 (un), .int .i64 (ps), .int .i64 (z), .int .i64 (C), .int .i64 (x)] := by (repeat' (first | (with_reducible assumption) | (with_reducible refine Row.new' _ _ _ (by first | rfl | (simp; done) | omega)) | (with_reducible first | refine Row.alloc ?_ _ | refine Row.drew ?_ | refine Row.step ?_ (by assumption) | refine Row.drewN ?_ _) | (with_reducible refine Row.set2' ?_ _ _; first | exact ⟨_, _, by assumption⟩ | exact ⟨_, _, Row.alloc (by assumption) _⟩) | (with_reducible refine Row.other ?_ (by first | omega | (simp; omega)) _)))
 have c_a_0_2 := R_a_2.cell 0 rfl
 have c_a_1_2 := R_a_2.cell 1 rfl
 have c_a_2_2 := R_a_2.cell 2 rfl
 have c_a_3_2 := R_a_2.cell 3 rfl
 have c_a_4_2 := R_a_2.cell 4 rfl
 have c_a_5_2 := R_a_2.cell 5 rfl
 have c_a_6_2 := R_a_2.cell 6 rfl
 have l_a_2 := R_a_2.lt
 have HB2 : Below w.heap.size w w2 := by (repeat' (first | (with_reducible first | exact Below.refl _ _ | assumption | exact Bw.out (by assumption) | refine bw_alloc ?_ _ | refine bw_step ?_ (by assumption) | refine Below.alloc ?_ ?_ _ | refine Below.drew ?_ | refine below_drewN ?_ _ | refine Below.setCell ?_ ?_ _ | refine below_step ?_ (by assumption) ?_ | exact Nat.le_refl _) | omega | (simp; omega) | (simp; done)))
 clear R_a_1 c_a_0_1 c_a_1_1 c_a_2_1 c_a_3_1 c_a_4_1 c_a_5_1 c_a_6_1 hb1 HB1
 have hmm := @run_makeMap Try.prog
 have HBB := Lib.hid HB2
 have hsz2 := HB2.size
 have hal : Below w2.heap.size w2 (w2.alloc (.map #[] 0)) := (Below.refl _ _).alloc (Nat.le_refl _) _
 have HAL := Lib.hid hal
 have HRA := Lib.hid (R_a_2.alloc (.map #[] 0))
 clear hal
 go_wp2_with fail
 refine (undercut_py w ad n cap l k fr un ps HS.out hn ⟨⟨b1, b2⟩, b3⟩ w2.heap.size hsz2 [] (w2.alloc (.map #[] 0)) (HBB.out.trans (HAL.out.mono hsz2)) (KMap.made _ w2) z C x HU.out).mono ?_
 rintro e w3 ⟨rfl, _, hc3⟩
 have HB3 : Hid (Below w.heap.size w w3) := hc3.below (HBB.out.trans (HAL.out.mono hsz2)) (fun b e => by omega) (by have := HAL.out.size; omega)
 have HRA3 := Lib.hid (HRA.out.ch hc3 (show ¬ w.heap.size = w2.heap.size by omega))
 clear hc3
 have a0 := HRA3.out.cell 0 rfl
 have a1 := HRA3.out.cell 1 rfl
 have a2 := HRA3.out.cell 2 rfl
 have a3 := HRA3.out.cell 3 rfl
 have a4 := HRA3.out.cell 4 rfl
 have a5 := HRA3.out.cell 5 rfl
 have a6 := HRA3.out.cell 6 rfl
 have al := HRA3.out.lt
 clear c_a_0_2 c_a_1_2 c_a_2_2 c_a_3_2 c_a_4_2 c_a_5_2 c_a_6_2 l_a_2
 go_wp2_with fail
 go_returns
 refine ⟨rfl, ?_⟩
 exact HB3.out.alloc HB3.out.size _
end
end Go.Proofs.Ytcmodmchnokmgaa
