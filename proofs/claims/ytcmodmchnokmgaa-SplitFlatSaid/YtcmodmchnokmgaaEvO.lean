/-
 The walks of package rate: priced.
-/
import Derived.Test.YtcmodmchnokmgaaEvM
import Derived.Test.YtcmodmchnokmgaaEvN
import Derived.Test.YtcmodmchnokmgaaLdS
namespace Go.Proofs.Ytcmodmchnokmgaa
set_option linter.unusedSimpArgs false
set_option linter.unusedVariables false
open Go.RowKit Go.Shelf
attribute [local go_sem ↓] ld_eq st_eq
attribute [local go_sem] ldR_run ldV_drew ldV_alloc ldV_at16 stR_run sz16_rate stB_drew stB_at16 stW_at16 stB_set ldV_set stW_cell stW_frozen ldV_stW stB_stW
attribute [local go_sem] Oper.semAt_some
/-- No rate: level -1. -/
def mR : RateV := ⟨0, -1, 0, 0, 0, 0, 0, 0, 0, 0, .node 0 0 none 0 [], .node 0 0 none 0 []⟩
def bestV (o : Option RateV) : RateV := o.getD mR
theorem upd1_best {o : Option RateV} {r : RateV} (h0 : 0 ≤ r.lv) (ho : ∀ x, o = some x → 0 ≤ x.lv) : bestV (upd1 o r) = if btr r (bestV o) = true then r else bestV o := by
 cases o with
 | none =>
  have : btr r mR = true := by unfold btr mR; simp; omega
  unfold bestV upd1
  simp [this]
 | some x =>
  unfold bestV upd1
  simp only [Option.getD_some]
  split <;> rfl
/-- What holds between two rounds of the range. -/
def InvT (w : World) (k fr un ps : Int) (base : Nat) {l : List RateV} {a : AskV} {nt : Int} (pre : List (ThT l a nt)) (W : World) : Prop :=
 okP (pre.map Subtype.val) ∧ Row W (w.heap.size + 1 + 1 + 1 + 1) (bestV (topP (pre.map Subtype.val))).cells ∧ Row W w.heap.size [.int .i64 k, .int .i64 fr, .int .i64 un, .int .i64 ps] ∧ Row W (w.heap.size + 1) [.int .i64 0] ∧ Row W (w.heap.size + 1 + 1) [.int .i64 0, .int .i64 0, .int .i64 0, .int .i64 0, .int .i64 0, .int .i64 0, .int .i64 0, .int .i64 0, .int .i64 0, .int .i64 0, .int .i64 0, .int .i64 0, .slice none 0 0, .int .i64 0, .int .i64 0, .slice none 0 0] ∧ Row W (w.heap.size + 1 + 1 + 1) [.int .i64 0] ∧ Below w.heap.size w W ∧ base ≤ W.heap.size
/-- Where the range is left by an error. -/
def OutT (w : World) {l : List RateV} {a : AskV} {nt : Int} (cx : Code) (pre : List (ThT l a nt)) (W : World) : Prop :=
 cx = .ret ∧ ∃ pre' x, pre = pre' ++ [x] ∧ okP (pre'.map Subtype.val) ∧ x.1.2 ≠ 0 ∧ Row W (w.heap.size + 1) [.int .i64 0] ∧ Row W (w.heap.size + 1 + 1) [.int .i64 0, .int .i64 0, .int .i64 0, .int .i64 0, .int .i64 0, .int .i64 0, .int .i64 0, .int .i64 0, .int .i64 0, .int .i64 0, .int .i64 0, .int .i64 0, .slice none 0 0, .int .i64 0, .int .i64 0, .slice none 0 0] ∧ Row W (w.heap.size + 1 + 1 + 1) [.int .i64 x.1.2] ∧ Below w.heap.size w W
theorem invT_own {w : World} {k fr un ps : Int} {base : Nat} {l : List RateV} {a : AskV} {nt : Int} (hw : w.heap.size ≤ base) : OwnFrom base (InvT w k fr un ps base (l := l) (a := a) (nt := nt)) := by
 rintro s A C row ⟨h0, h1, h2, h3, h4, h5, h6, h7⟩ hg hr
 have hk : ∀ r, row = some r → ∃ o : Obj, A.heap[r]? = some o ∧ o.isCells = false := fun r e => (hr r e).2
 exact ⟨h0, h1.kept hg hk, h2.kept hg hk, h3.kept hg hk, h4.kept hg hk, h5.kept hg hk, h6.grown hg h6.size (fun r e => by have := (hr r e).1; omega), Nat.le_trans h7 hg.size⟩
theorem outT_own {w : World} {base : Nat} {l : List RateV} {a : AskV} {nt : Int} (hw : w.heap.size ≤ base) (cx : Code) : OwnFrom base (OutT w (l := l) (a := a) (nt := nt) cx) := by
 rintro s A C row ⟨h0, pre', x, e, g0, g1, h3, h4, h5, h6⟩ hg hr
 have hk : ∀ r, row = some r → ∃ o : Obj, A.heap[r]? = some o ∧ o.isCells = false := fun r e => (hr r e).2
 exact ⟨h0, pre', x, e, g0, g1, h3.kept hg hk, h4.kept hg hk, h5.kept hg hk, h6.grown hg h6.size (fun r e => by have := (hr r e).1; omega)⟩
theorem AnyJ.beginM {P : Program} {ops : Array Oper} {Q : Exit → Act → World → Prop} {id : Nat} {a : Act} {w : World} (S : World → Prop) (J : Nat → Bool) (hm : P.follows .mixedOrders = true) (hS : S w.drew)
  (h : S w.drew → AnyJ P .any ops (fun e a w => e = .normal ∧ Q .normal a w) S J ops.size (Array.replicate ops.size false) a w.drew) : (Code.region id ops true).wp P Q a w :=
 Code.wp_mono (fun e a w h => by obtain ⟨rfl, h⟩ := h; exact h) (AnyJ.beginP S J hm hS h)
theorem Row.put0 {w : World} {b : Nat} {u : Value} (h : Row w b [u]) (v : Value) : Row (w.setCell ⟨b, 0, none⟩ v) b [v] := by
 obtain ⟨T, hT⟩ := h
 exact ⟨T, by simp [World.setCell, Array.getElem?_modify, hT]⟩
theorem Row.putO {w : World} {b D : Nat} {cs : List Value} {o o' : Obj} (h : Row w b cs) (hl : w.heap[D]? = some o) (ho : o.isCells = false) : Row (w.putObj D o') b cs :=
 h.keepsO (KeepsO.putObj (own := fun _ _ => False) _ hl ho (fun _ h => h)) (fun h => h)
theorem below_putZ {w : World} {b D : Nat} (o' : Obj) (hD : b ≤ D) : Below b w (w.putObj D o') :=
 ⟨(grownBy_putObj' w D o').os, (grownBy_putObj' w D o').tape, (grownBy_putObj' w D o').output, (grownBy_putObj' w D o').size, fun k hk => by simp [World.putObj, show D ≠ k by omega]⟩
/-- The three result cells stored one behind the other. -/
def put3 (W : World) (n : Nat) (u : Value) (cs : Array Value) (v : Value) : World := (stW (W.setCell ⟨n, 0, none⟩ u) (.pointer (some ⟨n + 1, 0, none⟩)) (.agg cs)).setCell ⟨n + 1 + 1, 0, none⟩ v
theorem put3_row {W : World} {n : Nat} {x y : Value} {zs : List Value} (hn : Row W n [x]) (hr : Row W (n + 1) zs) (he : Row W (n + 1 + 1) [y]) (hz : zs.length = 16) (u v : Value) (cs : Array Value) (hc : cs.size = 16) :
  Row (put3 W n u cs v) n [u] ∧ Row (put3 W n u cs v) (n + 1) cs.toList ∧ Row (put3 W n u cs v) (n + 1 + 1) [v] ∧ Ch (fun k => k = n ∨ k = n + 1 ∨ k = n + 1 + 1) W (put3 W n u cs v) := by
 have a1 := hn.put0 u
 have c1 : Ch (fun k => k = n ∨ k = n + 1 ∨ k = n + 1 + 1) W (W.setCell ⟨n, 0, none⟩ u) := (Ch.refl _ W).setCell (p := ⟨n, 0, none⟩) (Or.inl rfl) u
 have b1 := hr.of_block (Below.heap_setCell W ⟨n, 0, none⟩ u _ (show n + 1 ≠ n by omega))
 have e1 := he.of_block (Below.heap_setCell W ⟨n, 0, none⟩ u _ (show n + 1 + 1 ≠ n by omega))
 obtain ⟨b2, c2⟩ := stW_row b1 hz cs hc
 have a2 := a1.ch c2 (by omega)
 have e2 := e1.ch c2 (by omega)
 have c3 := c1.trans (c2.mono (p := fun k => k = n ∨ k = n + 1 ∨ k = n + 1 + 1) (fun k _ hk => Or.inr (Or.inl hk)))
 unfold put3
 exact ⟨a2.of_block (Below.heap_setCell _ _ _ _ (show n ≠ n + 1 + 1 by omega)), b2.of_block (Below.heap_setCell _ _ _ _ (show n + 1 ≠ n + 1 + 1 by omega)), e2.put0 v, c3.setCell (p := ⟨n + 1 + 1, 0, none⟩) (Or.inr (Or.inr rfl)) v⟩
theorem rstep {w w1 : World} {b : Nat} {cs : List Value} (h : Hid (Row w b cs)) (hb : Below w.heap.size w w1) : Hid (Row w1 b cs) := h.out.step hb
theorem rdrew {w : World} {b : Nat} {cs : List Value} (h : Hid (Row w b cs)) : Hid (Row w.drew b cs) := h.out.drew
/-- No rate: all zero. -/
def zR : RateV := ⟨0, 0, 0, 0, 0, 0, 0, 0, 0, 0, .node 0 0 none 0 [], .node 0 0 none 0 []⟩
theorem topP_in {l : List RateV} {a : AskV} {nt : Int} {r : RateV} (h : topP (thP a nt l) = some r) : r ∈ l := by
 rcases topP_mem _ none r h with h1 | ⟨p, hp, rfl⟩
 ·
  cases h1
 ·
  unfold thP at hp
  obtain ⟨x, hx, e⟩ := List.mem_filterMap.1 hp
  split at e
  ·
   cases e; exact hx
  ·
   cases e
theorem rateB_lv {r : RateV} (h : rateB r = true) : 0 ≤ r.lv := by
 have := (rateB_form h).1
 unfold formB inE at this
 simp only [Bool.and_eq_true, decide_eq_true_eq] at this
 omega
set_option maxRecDepth 100000 in
set_option maxHeartbeats 6400000 in
theorem priced_any (ad : Option Addr) (n cap : Nat) (l : List RateV) (k fr un ps nt : Int) (w : World) (hs : SlR w ad n l) (hn : n ≤ 1000000) (hf : ∀ r ∈ l, rateB r = true) (ha : askB ⟨k, fr, un, ps⟩ = true) (hnt : fr ≤ nt ∧ nt < un) (N E : Int) (b : Option RateV) (hR : priceN l ⟨k, fr, un, ps⟩ nt = (N, b, E)) :
  Calls Try.prog 55 #[.slice ad n cap, .agg #[.int .i64 k, .int .i64 fr, .int .i64 un, .int .i64 ps], .int .i64 nt] w fun e w' => e = .returned (.tuple #[.int .i64 N, (b.getD zR).val, .int .i64 E]) ∧ Below w.heap.size w w' := by
 have HS := Lib.hid hs
 have HF := Lib.hid hf
 have HA := Lib.hid ha
 have HNT := Lib.hid hnt
 have HR := Lib.hid hR
 clear hs hf ha hnt hR
 refine calls_of_wp_marks Try.func55 rfl ?_
 simp only [Try.ntmps55, List.size_toArray, List.length_cons, List.length_nil, Nat.reduceAdd, Nat.reduceSub, Array.replicate_succ, Array.replicate_zero, List.push_toArray, List.append_toArray, List.nil_append, List.cons_append]
 go_wp2_with fail
 refine (those_any ad n cap k fr un ps nt _).mono ?_
 rintro e w1 ⟨rfl, T0, T1, T2, hb1⟩
 have R_a_1 : Row w1 (w.heap.size) [.int .i64 (k), .int .i64 (fr), .int .i64 (un), .int .i64 (ps)] := by (repeat' (first | (with_reducible assumption) | (with_reducible refine Row.new' _ _ _ (by first | rfl | (simp; done) | omega)) | (with_reducible first | refine Row.alloc ?_ _ | refine Row.drew ?_ | refine Row.step ?_ (by assumption) | refine Row.drewN ?_ _) | (with_reducible refine Row.set2' ?_ _ _; first | exact ⟨_, _, by assumption⟩ | exact ⟨_, _, Row.alloc (by assumption) _⟩) | (with_reducible refine Row.other ?_ (by first | omega | (simp; omega)) _)))
 have c_a_0_1 := R_a_1.cell 0 rfl
 have c_a_1_1 := R_a_1.cell 1 rfl
 have c_a_2_1 := R_a_1.cell 2 rfl
 have c_a_3_1 := R_a_1.cell 3 rfl
 have l_a_1 := R_a_1.lt
 have R_n_1 : Row w1 (w.heap.size + 1) [.int .i64 (0)] := by (repeat' (first | (with_reducible assumption) | (with_reducible refine Row.new' _ _ _ (by first | rfl | (simp; done) | omega)) | (with_reducible first | refine Row.alloc ?_ _ | refine Row.drew ?_ | refine Row.step ?_ (by assumption) | refine Row.drewN ?_ _) | (with_reducible refine Row.set2' ?_ _ _; first | exact ⟨_, _, by assumption⟩ | exact ⟨_, _, Row.alloc (by assumption) _⟩) | (with_reducible refine Row.other ?_ (by first | omega | (simp; omega)) _)))
 have c_n_0_1 := R_n_1.cell 0 rfl
 have z_n_0_1 := R_n_1.frozen 0
 have l_n_1 := R_n_1.lt
 have R_r_1 : Row w1 (w.heap.size + 1 + 1) [.int .i64 (0), .int .i64 (0), .int .i64 (0), .int .i64 (0), .int .i64 (0), .int .i64 (0), .int .i64 (0), .int .i64 (0), .int .i64 (0), .int .i64 (0), .int .i64 (0), .int .i64 (0), .slice none 0 0, .int .i64 (0), .int .i64 (0), .slice none 0 0] := by (repeat' (first | (with_reducible assumption) | (with_reducible refine Row.new' _ _ _ (by first | rfl | (simp; done) | omega)) | (with_reducible first | refine Row.alloc ?_ _ | refine Row.drew ?_ | refine Row.step ?_ (by assumption) | refine Row.drewN ?_ _) | (with_reducible refine Row.set2' ?_ _ _; first | exact ⟨_, _, by assumption⟩ | exact ⟨_, _, Row.alloc (by assumption) _⟩) | (with_reducible refine Row.other ?_ (by first | omega | (simp; omega)) _)))
 have c_r_0_1 := R_r_1.cell 0 rfl
 have c_r_1_1 := R_r_1.cell 1 rfl
 have c_r_2_1 := R_r_1.cell 2 rfl
 have c_r_3_1 := R_r_1.cell 3 rfl
 have c_r_4_1 := R_r_1.cell 4 rfl
 have c_r_5_1 := R_r_1.cell 5 rfl
 have c_r_6_1 := R_r_1.cell 6 rfl
 have c_r_7_1 := R_r_1.cell 7 rfl
 have c_r_8_1 := R_r_1.cell 8 rfl
 have c_r_9_1 := R_r_1.cell 9 rfl
 have c_r_10_1 := R_r_1.cell 10 rfl
 have c_r_11_1 := R_r_1.cell 11 rfl
 have c_r_12_1 := R_r_1.cell 12 rfl
 have c_r_13_1 := R_r_1.cell 13 rfl
 have c_r_14_1 := R_r_1.cell 14 rfl
 have c_r_15_1 := R_r_1.cell 15 rfl
 have z_r_0_1 := R_r_1.frozen 0
 have z_r_1_1 := R_r_1.frozen 1
 have z_r_2_1 := R_r_1.frozen 2
 have z_r_3_1 := R_r_1.frozen 3
 have z_r_4_1 := R_r_1.frozen 4
 have z_r_5_1 := R_r_1.frozen 5
 have z_r_6_1 := R_r_1.frozen 6
 have z_r_7_1 := R_r_1.frozen 7
 have z_r_8_1 := R_r_1.frozen 8
 have z_r_9_1 := R_r_1.frozen 9
 have z_r_10_1 := R_r_1.frozen 10
 have z_r_11_1 := R_r_1.frozen 11
 have z_r_12_1 := R_r_1.frozen 12
 have z_r_13_1 := R_r_1.frozen 13
 have z_r_14_1 := R_r_1.frozen 14
 have z_r_15_1 := R_r_1.frozen 15
 have d_r_1 := ldV_row R_r_1 rfl
 have s_r_1 := stB_row R_r_1 rfl
 have l_r_1 := R_r_1.lt
 have R_e_1 : Row w1 (w.heap.size + 1 + 1 + 1) [.int .i64 (0)] := by (repeat' (first | (with_reducible assumption) | (with_reducible refine Row.new' _ _ _ (by first | rfl | (simp; done) | omega)) | (with_reducible first | refine Row.alloc ?_ _ | refine Row.drew ?_ | refine Row.step ?_ (by assumption) | refine Row.drewN ?_ _) | (with_reducible refine Row.set2' ?_ _ _; first | exact ⟨_, _, by assumption⟩ | exact ⟨_, _, Row.alloc (by assumption) _⟩) | (with_reducible refine Row.other ?_ (by first | omega | (simp; omega)) _)))
 have c_e_0_1 := R_e_1.cell 0 rfl
 have z_e_0_1 := R_e_1.frozen 0
 have l_e_1 := R_e_1.lt
 have R_b_1 : Row w1 (w.heap.size + 1 + 1 + 1 + 1) [.int .i64 (0), .int .i64 (-1), .int .i64 (0), .int .i64 (0), .int .i64 (0), .int .i64 (0), .int .i64 (0), .int .i64 (0), .int .i64 (0), .int .i64 (0), .int .i64 (0), .int .i64 (0), .slice none 0 0, .int .i64 (0), .int .i64 (0), .slice none 0 0] := by (repeat' (first | (with_reducible assumption) | (with_reducible refine Row.new' _ _ _ (by first | rfl | (simp; done) | omega)) | (with_reducible first | refine Row.alloc ?_ _ | refine Row.drew ?_ | refine Row.step ?_ (by assumption) | refine Row.drewN ?_ _) | (with_reducible refine Row.set2' ?_ _ _; first | exact ⟨_, _, by assumption⟩ | exact ⟨_, _, Row.alloc (by assumption) _⟩) | (with_reducible refine Row.other ?_ (by first | omega | (simp; omega)) _)))
 have c_b_0_1 := R_b_1.cell 0 rfl
 have c_b_1_1 := R_b_1.cell 1 rfl
 have c_b_2_1 := R_b_1.cell 2 rfl
 have c_b_3_1 := R_b_1.cell 3 rfl
 have c_b_4_1 := R_b_1.cell 4 rfl
 have c_b_5_1 := R_b_1.cell 5 rfl
 have c_b_6_1 := R_b_1.cell 6 rfl
 have c_b_7_1 := R_b_1.cell 7 rfl
 have c_b_8_1 := R_b_1.cell 8 rfl
 have c_b_9_1 := R_b_1.cell 9 rfl
 have c_b_10_1 := R_b_1.cell 10 rfl
 have c_b_11_1 := R_b_1.cell 11 rfl
 have c_b_12_1 := R_b_1.cell 12 rfl
 have c_b_13_1 := R_b_1.cell 13 rfl
 have c_b_14_1 := R_b_1.cell 14 rfl
 have c_b_15_1 := R_b_1.cell 15 rfl
 have z_b_0_1 := R_b_1.frozen 0
 have z_b_1_1 := R_b_1.frozen 1
 have z_b_2_1 := R_b_1.frozen 2
 have z_b_3_1 := R_b_1.frozen 3
 have z_b_4_1 := R_b_1.frozen 4
 have z_b_5_1 := R_b_1.frozen 5
 have z_b_6_1 := R_b_1.frozen 6
 have z_b_7_1 := R_b_1.frozen 7
 have z_b_8_1 := R_b_1.frozen 8
 have z_b_9_1 := R_b_1.frozen 9
 have z_b_10_1 := R_b_1.frozen 10
 have z_b_11_1 := R_b_1.frozen 11
 have z_b_12_1 := R_b_1.frozen 12
 have z_b_13_1 := R_b_1.frozen 13
 have z_b_14_1 := R_b_1.frozen 14
 have z_b_15_1 := R_b_1.frozen 15
 have d_b_1 := ldV_row R_b_1 rfl
 have s_b_1 := stB_row R_b_1 rfl
 have l_b_1 := R_b_1.lt
 have HB1 : Below w.heap.size w w1 := by (repeat' (first | (with_reducible first | exact Below.refl _ _ | assumption | exact Bw.out (by assumption) | refine bw_alloc ?_ _ | refine bw_step ?_ (by assumption) | refine Below.alloc ?_ ?_ _ | refine Below.drew ?_ | refine below_drewN ?_ _ | refine Below.setCell ?_ ?_ _ | refine below_step ?_ (by assumption) ?_ | exact Nat.le_refl _) | omega | (simp; omega) | (simp; done)))
 have hsz0 : w.heap.size + 1 + 1 + 1 + 1 < w1.heap.size := l_b_1
 obtain ⟨base, hbase⟩ : ∃ base, w1.heap.size = base := ⟨_, rfl⟩
 have U0 : Row w1 (w.heap.size + 1 + 1 + 1 + 1 + 1) [.slice ad n cap] := by simpa using T0
 have U1 : Row w1 (w.heap.size + 1 + 1 + 1 + 1 + 1 + 1) [.int .i64 k, .int .i64 fr, .int .i64 un, .int .i64 ps] := by simpa using T1
 have U2 : Row w1 (w.heap.size + 1 + 1 + 1 + 1 + 1 + 1 + 1) [.int .i64 nt] := by simpa using T2
 have hl0 := U0.lt
 have hl1 := U1.lt
 have hl2 := U2.lt
 have HBB := Lib.hid HB1
 have hstops := those_stops (fun b => b = w.heap.size + 1 ∨ b = w.heap.size + 1 + 1 ∨ b = w.heap.size + 1 + 1 + 1 ∨ b = w.heap.size + 1 + 1 + 1 + 1) 5 (by omega) w.heap.size (w.heap.size + 1 + 1 + 1 + 1 + 1) (w.heap.size + 1 + 1 + 1 + 1 + 1 + 1) (w.heap.size + 1 + 1 + 1 + 1 + 1 + 1 + 1) ad n cap l k fr un ps nt w1 U0 U1 U2
  (fun b hb => by omega) (fun W h => SlR.lo ((Lo.of_below' HBB.out).trans h) (Nat.le_refl _) HS.out) hn (fun r hr => (rateB_form (HF.out r hr)).1) HA.out HNT.out
 have HST := Lib.hid hstops
 have hI0 : InvT w k fr un ps base (l := l) (a := ⟨k, fr, un, ps⟩) (nt := nt) [] w1 := ⟨fun p hp => by simp at hp, R_b_1, R_a_1, R_n_1, R_r_1, R_e_1, HBB.out, by omega⟩
 have HI0 := Lib.hid hI0
 clear hstops T0 T1 T2 U0 U1 U2 hb1 HB1 hI0 R_b_1 R_a_1 R_n_1 R_r_1 R_e_1 c_a_0_1 c_a_1_1 c_a_2_1 c_a_3_1 c_n_0_1 z_n_0_1 c_e_0_1 z_e_0_1 d_r_1 s_r_1 c_r_0_1 z_r_0_1 c_r_1_1 z_r_1_1 c_r_2_1 z_r_2_1 c_r_3_1 z_r_3_1 c_r_4_1 z_r_4_1 c_r_5_1 z_r_5_1 c_r_6_1 z_r_6_1 c_r_7_1 z_r_7_1 c_r_8_1 z_r_8_1 c_r_9_1 z_r_9_1 c_r_10_1 z_r_10_1 c_r_11_1 z_r_11_1 c_r_12_1 z_r_12_1 c_r_13_1 z_r_13_1 c_r_14_1 z_r_14_1 c_r_15_1 z_r_15_1 c_b_0_1 z_b_0_1 c_b_1_1 z_b_1_1 c_b_2_1 z_b_2_1 c_b_3_1 z_b_3_1 c_b_4_1 z_b_4_1 c_b_5_1 z_b_5_1 c_b_6_1 z_b_6_1 c_b_7_1 z_b_7_1 c_b_8_1 z_b_8_1 c_b_9_1 z_b_9_1 c_b_10_1 z_b_10_1 c_b_11_1 z_b_11_1 c_b_12_1 z_b_12_1 c_b_13_1 z_b_13_1 c_b_14_1 z_b_14_1 c_b_15_1 z_b_15_1
 go_wp2_with fail
 refine (wpIn_wide (n := 6)).1 ?_
 refine wpIn_rangeFunc_ownH (w0 := w1) (α := ThT l ⟨k, fr, un, ps⟩ nt) rfl (by omega) rfl trivial (enters_of Try.func102 (by kernel_rfl) rfl) HST.out (fun h k => h.trans k)
  (fun Wx l o o' hl ho hc hwk => KeepsO.putObj o' ho hc (fun k hk => hk))
  (Below.refl _ _) (fun _ => rfl)
  (InvT w k fr un ps base) (OutT w)
  (by rw [hbase]; exact invT_own (by omega)) (fun cx => by rw [hbase]; exact outT_own (by omega) cx)
  HI0.out
  (fun x a' W' => ∃ G : Nat, a' = { tmps := List.toArray (Value.slice ad n cap :: .agg #[.int .i64 k, .int .i64 fr, .int .i64 un, .int .i64 ps] :: .int .i64 nt :: undef :: .pointer (some ⟨w.heap.size, 0, none⟩) :: undef :: .pointer (some ⟨w.heap.size + 1, 0, none⟩) :: .pointer (some ⟨w.heap.size + 1 + 1, 0, none⟩) :: .pointer (some ⟨w.heap.size + 1 + 1 + 1, 0, none⟩) :: .pointer (some ⟨w.heap.size + 1 + 1 + 1 + 1, 0, none⟩) :: .pointer (some ⟨G, 0, none⟩) :: .int .i64 x.1.2 :: undef :: undef :: undef :: undef :: .agg #[.int .i64 0, .int .i64 (-1), .int .i64 0, .int .i64 0, .int .i64 0, .int .i64 0, .int .i64 0, .int .i64 0, .int .i64 0, .int .i64 0, .int .i64 0, .int .i64 0, .slice none 0 0, .int .i64 0, .int .i64 0, .slice none 0 0] :: .slice ad n cap :: .agg #[.int .i64 k, .int .i64 fr, .int .i64 un, .int .i64 ps] :: .int .i64 nt :: .func (.func 102) #[] #[.pointer (some ⟨w.heap.size + 1 + 1 + 1 + 1 + 1, 0, none⟩), .pointer (some ⟨w.heap.size + 1 + 1 + 1 + 1 + 1 + 1, 0, none⟩), .pointer (some ⟨w.heap.size + 1 + 1 + 1 + 1 + 1 + 1 + 1, 0, none⟩)] :: x.1.1.val :: .int .i64 x.1.2 :: undef :: undef :: undef :: undef :: undef :: undef :: undef :: undef :: undef :: undef :: undef :: undef :: undef :: undef :: undef :: undef :: undef :: undef :: undef :: undef :: undef :: undef :: undef :: undef :: undef :: undef :: undef :: undef :: undef :: undef :: undef :: undef :: undef :: undef :: undef :: undef :: undef :: undef :: undef :: undef :: undef :: undef :: undef :: undef :: undef :: undef :: undef :: undef :: undef :: undef :: undef :: []), defers := [] } ∧ base ≤ G ∧ Row W' G x.1.1.cells)
  (fun x a' s A C row hs hg hr => by
   obtain ⟨G, e, hG, h⟩ := hs
   exact ⟨G, e, hG, h.kept hg (fun r e => (hr r e).2)⟩) ?assign ?body ?done ?stop
 case assign =>
  rintro lb pre x W K ⟨q0, q1, q2, q3, q4, q5, q6, q7⟩ hK
  obtain ⟨p, hp⟩ : ∃ p, x.1 = p := ⟨_, rfl⟩
  dsimp only [encT] at hK ⊢
  rw [hp] at hK ⊢
  obtain ⟨r, ee⟩ := p
  dsimp only [RateV.val] at hK ⊢
  clear hp
  have HK := Lib.hid hK
  clear hK
  gi_wp2
  refine HK.out _ _ ((Ch.alloc (o := fun _ => False) (Ch.refl _ _) _).others (fun _ h => h.elim) |>.from _) (keeps_of_belowZ ((Below.refl _ _).alloc (Nat.le_refl _) _)) ⟨q0, q1.alloc _, q2.alloc _, q3.alloc _, q4.alloc _, q5.alloc _, q6.alloc q6.size _, by simp; omega⟩ ⟨W.heap.size, rfl, by omega, Row.new' _ _ _ rfl⟩
 case body =>
  rintro lx pre x a' W hl hrec ⟨q0, q1, q2, q3, q4, q5, q6, q7⟩ ⟨G, rfl, hG, RG⟩ hpl
  obtain ⟨v, hv⟩ : ∃ v, bestV (topP (pre.map Subtype.val)) = v := ⟨_, rfl⟩
  obtain ⟨r, hrx⟩ : ∃ r, x.1.1 = r := ⟨_, rfl⟩
  obtain ⟨ee, hee⟩ : ∃ e, x.1.2 = e := ⟨_, rfl⟩
  have q1' : Row W (w.heap.size + 1 + 1 + 1 + 1) [.int .i64 v.id, .int .i64 v.lv, .int .i64 v.kd, .int .i64 v.fr, .int .i64 v.un, .int .i64 v.ls, .int .i64 v.ms, .int .i64 v.ar, .int .i64 v.kn, .int .i64 v.kk, .int .i64 v.wh.op, .int .i64 v.wh.n, .slice v.wh.at' v.wh.ks.length v.wh.cap, .int .i64 v.pr.op, .int .i64 v.pr.n, .slice v.pr.at' v.pr.ks.length v.pr.cap] := by have := q1; rw [hv] at this; exact this
  have RG' : Row W G [.int .i64 r.id, .int .i64 r.lv, .int .i64 r.kd, .int .i64 r.fr, .int .i64 r.un, .int .i64 r.ls, .int .i64 r.ms, .int .i64 r.ar, .int .i64 r.kn, .int .i64 r.kk, .int .i64 r.wh.op, .int .i64 r.wh.n, .slice r.wh.at' r.wh.ks.length r.wh.cap, .int .i64 r.pr.op, .int .i64 r.pr.n, .slice r.pr.at' r.pr.ks.length r.pr.cap] := by have := RG; rw [hrx] at this; exact this
  rw [hrx, hee]
  dsimp only [RateV.val]
  have HX := Lib.hid (And.intro hrx hee)
  have HV := Lib.hid hv
  have HQ0 := Lib.hid q0
  have HQ6 := Lib.hid q6
  clear hrec hpl hv hrx hee q0 q1 q6 RG
  by_cases he : ee = 0
  ·
   have he' : (ee != 0) = false := by simpa using he
   have HE := Lib.hid he
   clear he
   have hl := RG'.lt
   have dG := ldV_row RG' rfl
   have g0 := RG'.cell 0 rfl
   have g1 := RG'.cell 1 rfl
   have b0 := q1'.cell 0 rfl
   have b1 := q1'.cell 1 rfl
   have dB := ldV_row q1' rfl
   have sB := stB_row q1' rfl
   have bl := q1'.lt
   have HB1 := Lib.hid q1'
   have HB2 := Lib.hid q2
   have HB3 := Lib.hid q3
   have HB4 := Lib.hid q4
   have HB5 := Lib.hid q5
   have HOK : Hid (okP ((pre ++ [x]).map Subtype.val)) := fun p hp => by
    rw [List.map_append] at hp
    rcases List.mem_append.1 hp with hp | hp
    ·
     exact HQ0.out p hp
    ·
     simp at hp; rw [hp, HX.out.2]; exact HE.out
   have HTOP : Hid (bestV (topP ((pre ++ [x]).map Subtype.val)) = if btr r v = true then r else v) := by
    show _ = _
    rw [List.map_append, List.map_cons, List.map_nil, topP_snoc, upd1_best, HX.out.1, HV.out]
    ·
     rw [HX.out.1]
     exact rateB_lv (HF.out r (by have := x.2.1; rw [HX.out.1] at this; exact this))
    ·
     intro y hy
     rcases topP_mem _ none y hy with h | ⟨p, hp, rfl⟩
     ·
      cases h
     ·
      obtain ⟨z, hz, rfl⟩ := List.mem_map.1 hp
      exact rateB_lv (HF.out _ z.2.1)
   clear q1' q2 q3 q4 q5 RG'
   by_cases h1 : v.lv < r.lv
   ·
    have hb' : btr r v = true := by unfold btr; simp; omega
    gi_wp2_with fail
    obtain ⟨k1, k2⟩ := stW_row HB1.out rfl #[.int .i64 r.id, .int .i64 r.lv, .int .i64 r.kd, .int .i64 r.fr, .int .i64 r.un, .int .i64 r.ls, .int .i64 r.ms, .int .i64 r.ar, .int .i64 r.kn, .int .i64 r.kk, .int .i64 r.wh.op, .int .i64 r.wh.n, .slice r.wh.at' r.wh.ks.length r.wh.cap, .int .i64 r.pr.op, .int .i64 r.pr.n, .slice r.pr.at' r.pr.ks.length r.pr.cap] rfl
    rw [hb', if_pos rfl] at HTOP
    exact ⟨(k2.others (fun k hk => by subst hk; obtain ⟨T, hT⟩ := HB1.out; exact ⟨_, _, _, hT⟩)).from _, ⟨k2.size, fun k cs T fr hk hno => k2.2.2.2.2 k (Array.getElem?_eq_some_iff.1 hk).1 (fun e => hno (Or.inr (Or.inr (Or.inr e)))), fun k _ hk => hk⟩, HOK.out, by rw [HTOP.out]; exact k1, HB2.out.ch k2 (by omega), HB3.out.ch k2 (by omega), HB4.out.ch k2 (by omega), HB5.out.ch k2 (by omega), k2.below HQ6.out (fun k hk => by omega) HQ6.out.size, Nat.le_trans q7 k2.size⟩
   ·
    by_cases h2 : r.lv = v.lv
    ·
     have h2' : (r.lv == v.lv) = true := by simpa using h2
     by_cases h3 : r.id < v.id
     ·
      have hb' : btr r v = true := by unfold btr; simp; omega
      clear h2
      gi_wp2_with fail
      obtain ⟨k1, k2⟩ := stW_row HB1.out rfl #[.int .i64 r.id, .int .i64 r.lv, .int .i64 r.kd, .int .i64 r.fr, .int .i64 r.un, .int .i64 r.ls, .int .i64 r.ms, .int .i64 r.ar, .int .i64 r.kn, .int .i64 r.kk, .int .i64 r.wh.op, .int .i64 r.wh.n, .slice r.wh.at' r.wh.ks.length r.wh.cap, .int .i64 r.pr.op, .int .i64 r.pr.n, .slice r.pr.at' r.pr.ks.length r.pr.cap] rfl
      rw [hb', if_pos rfl] at HTOP
      exact ⟨(k2.others (fun k hk => by subst hk; obtain ⟨T, hT⟩ := HB1.out; exact ⟨_, _, _, hT⟩)).from _, ⟨k2.size, fun k cs T fr hk hno => k2.2.2.2.2 k (Array.getElem?_eq_some_iff.1 hk).1 (fun e => hno (Or.inr (Or.inr (Or.inr e)))), fun k _ hk => hk⟩, HOK.out, by rw [HTOP.out]; exact k1, HB2.out.ch k2 (by omega), HB3.out.ch k2 (by omega), HB4.out.ch k2 (by omega), HB5.out.ch k2 (by omega), k2.below HQ6.out (fun k hk => by omega) HQ6.out.size, Nat.le_trans q7 k2.size⟩
     ·
      have hb' : btr r v = false := by unfold btr; simp; omega
      clear h2
      gi_wp2_with fail
      rw [hb', if_neg (by simp)] at HTOP
      exact ⟨(KeepsOthers.refl _).from _, ⟨Nat.le_refl _, fun _ _ _ _ _ _ => rfl, fun _ _ h => h⟩, HOK.out, by rw [HTOP.out]; exact HB1.out, HB2.out, HB3.out, HB4.out, HB5.out, HQ6.out, q7⟩
    ·
     have hb' : btr r v = false := by unfold btr; simp; omega
     gi_wp2_with fail
     rw [hb', if_neg (by simp)] at HTOP
     exact ⟨(KeepsOthers.refl _).from _, ⟨Nat.le_refl _, fun _ _ _ _ _ _ => rfl, fun _ _ h => h⟩, HOK.out, by rw [HTOP.out]; exact HB1.out, HB2.out, HB3.out, HB4.out, HB5.out, HQ6.out, q7⟩
  ·
   have he' : (ee != 0) = true := by simpa using he
   have HE := Lib.hid he
   clear he
   have d4 := ldV_row q4 rfl
   have s4 := stB_row q4 rfl
   have l4 := q4.lt
   have n0 := q3.cell 0 rfl
   have nz := q3.frozen 0
   have nl := q3.lt
   have e0 := q5.cell 0 rfl
   have ez := q5.frozen 0
   have el := q5.lt
   have HB2 := Lib.hid q2
   have HB3 := Lib.hid q3
   have HB4 := Lib.hid q4
   have HB5 := Lib.hid q5
   clear q1' q2 q3 q4 q5 RG'
   gi_wp2_with fail
   have HRN := HB3
   have HRR := HB4
   have HRE := HB5
   obtain ⟨X, hX⟩ : ∃ X, put3 W (w.heap.size + 1) (.int .i64 0) (#[.int .i64 0, .int .i64 0, .int .i64 0, .int .i64 0, .int .i64 0, .int .i64 0, .int .i64 0, .int .i64 0, .int .i64 0, .int .i64 0, .int .i64 0, .int .i64 0, .slice none 0 0, .int .i64 0, .int .i64 0, .slice none 0 0]) (.int .i64 ee) = X := ⟨_, rfl⟩
   have hX' := hX
   unfold put3 at hX'
   rw [hX']
   clear hX'
   obtain ⟨p1, p2, p3, p4⟩ := put3_row HRN.out HRR.out HRE.out rfl (.int .i64 0) (.int .i64 ee) (#[.int .i64 0, .int .i64 0, .int .i64 0, .int .i64 0, .int .i64 0, .int .i64 0, .int .i64 0, .int .i64 0, .int .i64 0, .int .i64 0, .int .i64 0, .int .i64 0, .slice none 0 0, .int .i64 0, .int .i64 0, .slice none 0 0]) rfl
   rw [hX] at p1 p2 p3 p4
   clear hX
   refine ⟨(p4.others (fun k hk => ?_)).from _, rfl, pre, x, rfl, HQ0.out, by rw [HX.out.2]; exact HE.out, p1, p2, (by rw [HX.out.2]; exact p3), p4.below HQ6.out (fun k hk => by omega) HQ6.out.size⟩
   rcases hk with rfl | rfl | rfl
   ·
    obtain ⟨T, e⟩ := HRN.out; exact ⟨_, _, _, e⟩
   ·
    obtain ⟨T, e⟩ := HRR.out; exact ⟨_, _, _, e⟩
   ·
    obtain ⟨T, e⟩ := HRE.out; exact ⟨_, _, _, e⟩
 case done =>
  rintro D xs w3 hD rfl ⟨q0, q1, q2, q3, q4, q5, q6, q7⟩ hKd
  rw [thK_val, List.take_length] at q0 q1
  obtain ⟨tp, htp⟩ : ∃ t, topP (thP ⟨k, fr, un, ps⟩ nt l) = t := ⟨_, rfl⟩
  rw [htp] at q1
  have hbest : bestR ⟨k, fr, un, ps⟩ nt none l = (tp, 0) := by rw [bestR_goP, goP_all q0, htp]
  have HRN := Lib.hid q3
  have HRR := Lib.hid q4
  have HRE := Lib.hid q5
  have HBX := Lib.hid q6
  have HKW := Lib.hid hKd
  have n0 := q3.cell 0 rfl
  have nz := q3.frozen 0
  have nl := q3.lt
  have d4 := ldV_row q4 rfl
  have s4 := stB_row q4 rfl
  have l4 := q4.lt
  have e0 := q5.cell 0 rfl
  have ez := q5.frozen 0
  have el := q5.lt
  have hD' : w.heap.size + 1 + 1 + 1 + 1 < D := by omega
  cases tp with
  | none =>
   have hres : N = 0 ∧ b = none ∧ E = 4 := by
    have := HR.out
    unfold priceN at this
    rw [hbest] at this
    simp at this
    exact ⟨this.1.symm, this.2.1.symm, this.2.2.symm⟩
   obtain ⟨rfl, rfl, rfl⟩ := hres
   have b1 := q1.cell 1 rfl
   dsimp only [bestV, Option.getD, mR] at b1
   clear hbest htp q0 q1 q2 q3 q4 q5 q6 q7 hKd
   go_wp2_with fail
   obtain ⟨X, hX⟩ : ∃ X, put3 w3 (w.heap.size + 1) (.int .i64 0) (#[.int .i64 0, .int .i64 0, .int .i64 0, .int .i64 0, .int .i64 0, .int .i64 0, .int .i64 0, .int .i64 0, .int .i64 0, .int .i64 0, .int .i64 0, .int .i64 0, .slice none 0 0, .int .i64 0, .int .i64 0, .slice none 0 0]) (.int .i64 4) = X := ⟨_, rfl⟩
   have hX' := hX
   unfold put3 at hX'
   rw [hX']
   clear hX'
   obtain ⟨p1, p2, p3, p4⟩ := put3_row HRN.out HRR.out HRE.out rfl (.int .i64 0) (.int .i64 4) (#[.int .i64 0, .int .i64 0, .int .i64 0, .int .i64 0, .int .i64 0, .int .i64 0, .int .i64 0, .int .i64 0, .int .i64 0, .int .i64 0, .int .i64 0, .int .i64 0, .slice none 0 0, .int .i64 0, .int .i64 0, .slice none 0 0]) rfl
   rw [hX] at p1 p2 p3 p4
   clear hX
   have HZN := Lib.hid p1
   have HZR := Lib.hid p2
   have HZE := Lib.hid p3
   have HZB : Hid (Below w.heap.size w X) := p4.below HBX.out (fun k hk => by omega) HBX.out.size
   have HKX : Hid (X.heap[D]? = some (.deferred (some []))) := (p4.2.2.2.2 D (Array.getElem?_eq_some_iff.1 HKW.out).1 (fun hk => by omega)).trans HKW.out
   clear p1 p2 p3 p4 n0 nz nl d4 s4 l4 e0 ez el b1
   refine ⟨by simp, .inl ⟨_, _, rfl, run_takeDeferred HKX.out, ?_⟩⟩
   have Z1 := HZN.out.putO (o' := .deferred none) HKX.out rfl
   have Z2 := HZR.out.putO (o' := .deferred none) HKX.out rfl
   have Z3 := HZE.out.putO (o' := .deferred none) HKX.out rfl
   refine ⟨.tuple #[.int .i64 0, zR.val, .int .i64 4], results_cell3 Try.results55 _ _ rfl rfl rfl (loadVar_int Z1) (loadVar_rate Z2 rfl) (loadVar_err Z3), ?_⟩
   exact ⟨rfl, HZB.out.trans (below_putZ _ (by have := hD; have := HZB.out.size; omega))⟩
  | some r =>
   have hmem : r ∈ l := topP_in htp
   have hrb := HF.out r hmem
   have hlv := rateB_lv hrb
   have hIN : Hid (r.In w3) := by
    obtain ⟨i, hi⟩ := List.mem_iff_getElem?.1 hmem
    exact (SlR.lo (Lo.of_below' q6) (Nat.le_refl _) HS.out).2 i r hi |>.1
   obtain ⟨N1, D1, E1, hev⟩ : ∃ N D F, r.pr.ev (var4 (un - fr) ps (nt - fr) (dayI nt)) = (N, D, F) := ⟨_, _, _, rfl⟩
   have hgood : Good (N1, D1, E1) := by have := r.pr.good (var4 (un - fr) ps (nt - fr) (dayI nt)); rw [hev] at this; exact this
   obtain ⟨R, hRd⟩ : ∃ R, rdVal N1 D1 3 = R := ⟨_, rfl⟩
   have hrn : E1 = 0 → rnd 3 N1 D1 = R := fun h => by rw [← hRd, (rd_ok ⟨hgood.1 h, by omega, by omega⟩).1]
   have hcost : priceN l ⟨k, fr, un, ps⟩ nt = if (costR ⟨k, fr, un, ps⟩ nt r).2 ≠ 0 then (0, none, (costR ⟨k, fr, un, ps⟩ nt r).2) else ((costR ⟨k, fr, un, ps⟩ nt r).1, some r, 0) := by
    unfold priceN
    rw [hbest, if_neg (by simp)]
   have hcv : costR ⟨k, fr, un, ps⟩ nt r = if E1 ≠ 0 then (0, E1) else if rnd 3 N1 D1 < 0 then (0, 22) else (rnd 3 N1 D1, 0) := by
    unfold costR
    rw [show (⟨k, fr, un, ps⟩ : AskV).vars nt = var4 (un - fr) ps (nt - fr) (dayI nt) from rfl, hev]
   have hc1 : E1 ≠ 0 → N = 0 ∧ b = none ∧ E = E1 := fun h => by
    have h2 := HR.out
    rw [hcost, hcv, if_pos h, if_pos h] at h2
    simp only [Prod.mk.injEq] at h2
    exact ⟨h2.1.symm, h2.2.1.symm, h2.2.2.symm⟩
   have hc2 : E1 = 0 → R < 0 → N = 0 ∧ b = none ∧ E = 22 := fun h h' => by
    have h2 := HR.out
    have h3 : costR ⟨k, fr, un, ps⟩ nt r = (0, 22) := by rw [hcv, if_neg (by simpa using h), hrn h, if_pos h']
    rw [hcost, h3, if_pos (by simp)] at h2
    simp only [Prod.mk.injEq] at h2
    exact ⟨h2.1.symm, h2.2.1.symm, h2.2.2.symm⟩
   have hc3 : E1 = 0 → ¬ R < 0 → N = R ∧ b = some r ∧ E = 0 := fun h h' => by
    have h2 := HR.out
    have h3 : costR ⟨k, fr, un, ps⟩ nt r = (R, 0) := by rw [hcv, if_neg (by simpa using h), hrn h, if_neg h']
    rw [hcost, h3, if_neg (by simp)] at h2
    simp only [Prod.mk.injEq] at h2
    exact ⟨h2.1.symm, h2.2.1.symm, h2.2.2.symm⟩
   have HC1 := Lib.hid hc1
   have HC2 := Lib.hid hc2
   have HC3 := Lib.hid hc3
   have HEV := Lib.hid hev
   have HRD := Lib.hid hRd
   have HWV := Lib.hid (validE_ok (formB_valid (rateB_form hrb).1).2)
   have HAV := Lib.hid (fun w => vars_any k fr un ps nt w HA.out HNT.out)
   have HIN : Hid (r.pr.In w3) := hIN.out.2
   have HRB : Hid (Row w3 (w.heap.size + 1 + 1 + 1 + 1) [.int .i64 r.id, .int .i64 r.lv, .int .i64 r.kd, .int .i64 r.fr, .int .i64 r.un, .int .i64 r.ls, .int .i64 r.ms, .int .i64 r.ar, .int .i64 r.kn, .int .i64 r.kk, .int .i64 r.wh.op, .int .i64 r.wh.n, .slice r.wh.at' r.wh.ks.length r.wh.cap, .int .i64 r.pr.op, .int .i64 r.pr.n, .slice r.pr.at' r.pr.ks.length r.pr.cap]) := q1
   have HRA := Lib.hid q2
   obtain ⟨⟨a1, a2, a3, a4⟩, _, _⟩ := askB_in HA.out
   simp only at a1 a2 a3 a4
   have b1 := HRB.out.cell 1 rfl
   have hlv' : ¬ r.lv < 0 := by omega
   have bl := HRB.out.lt
   have al := q2.lt
   clear hbest htp q0 q1 q2 q3 q4 q5 q6 q7 hKd hgood hrn hcost hcv hc1 hc2 hc3 hev hRd hIN hrb hmem
   go_upto_region 11 with fail
   clear b1
   have HS : Hid (∀ W, Below w3.heap.size w3 W → W.cell? ⟨w.heap.size + 1 + 1 + 1 + 1, 13, none⟩ = some (.int .i64 r.pr.op) ∧ W.cell? ⟨w.heap.size + 1 + 1 + 1 + 1, 14, none⟩ = some (.int .i64 r.pr.n) ∧ W.cell? ⟨w.heap.size + 1 + 1 + 1 + 1, 15, none⟩ = some (.slice r.pr.at' r.pr.ks.length r.pr.cap) ∧ W.cell? ⟨w.heap.size, 0, none⟩ = some (.int .i64 k) ∧ W.cell? ⟨w.heap.size, 1, none⟩ = some (.int .i64 fr) ∧ W.cell? ⟨w.heap.size, 2, none⟩ = some (.int .i64 un) ∧ W.cell? ⟨w.heap.size, 3, none⟩ = some (.int .i64 ps)) := fun W h =>
    ⟨(HRB.out.step h).cell 13 rfl, (HRB.out.step h).cell 14 rfl, (HRB.out.step h).cell 15 rfl, (HRA.out.step h).cell 0 rfl, (HRA.out.step h).cell 1 rfl, (HRA.out.step h).cell 2 rfl, (HRA.out.step h).cell 3 rfl⟩
   go_cut [12, 13] from 51 to 59 (fun v u wx => ∃ A : Nat, v = .pointer (some ⟨A, 0, none⟩) ∧ u = .int .i64 E1 ∧ Row wx A [.int .i64 N1, .int .i64 D1] ∧ Below w3.heap.size w3 wx)
   case first =>
    clear n0 nz nl d4 s4 l4 e0 ez el
    refine AnyJ.beginM (fun W => W.cell? ⟨w.heap.size + 1 + 1 + 1 + 1, 13, none⟩ = some (.int .i64 r.pr.op) ∧ W.cell? ⟨w.heap.size + 1 + 1 + 1 + 1, 14, none⟩ = some (.int .i64 r.pr.n) ∧ W.cell? ⟨w.heap.size + 1 + 1 + 1 + 1, 15, none⟩ = some (.slice r.pr.at' r.pr.ks.length r.pr.cap) ∧ W.cell? ⟨w.heap.size, 0, none⟩ = some (.int .i64 k) ∧ W.cell? ⟨w.heap.size, 1, none⟩ = some (.int .i64 fr) ∧ W.cell? ⟨w.heap.size, 2, none⟩ = some (.int .i64 un) ∧ W.cell? ⟨w.heap.size, 3, none⟩ = some (.int .i64 ps)) (fun j => decide (j ≤ 10)) (by kernel_rfl) (HS.out _ (Below.refl _ _).drew) (fun hS => ?_)
    obtain ⟨w4, hw4⟩ : ∃ X, World.drew w3 = X := ⟨_, rfl⟩
    have hbw4 : Below w3.heap.size w3 w4 := by rw [← hw4]; exact (Below.refl _ _).drew
    rw [hw4] at hS ⊢
    clear hw4
    refine AnyJ.takeD (i := 0) (d := some 52) (v := ?_) rfl (by kernel_rfl) (by kernel_rfl) (by kernel_rfl) (by kernel_rfl) (by kernel_rfl) (fun _ _ _ h => by cases h.1) (Or.inl ⟨by kernel_rfl, ?_⟩) hS ?_
    rotate_left
    ·
     intro w' hS
     obtain ⟨sE0, sE1, sE2, sA0, sA1, sA2, sA3⟩ := hS
     go_simp
     try with_reducible rfl
    refine AnyJ.takeD (i := 1) (d := some 53) (v := ?_) rfl (by kernel_rfl) (by kernel_rfl) (by kernel_rfl) (by kernel_rfl) (by kernel_rfl) (fun _ _ _ h => by cases h.1) (Or.inl ⟨by kernel_rfl, ?_⟩) hS ?_
    rotate_left
    ·
     intro w' hS
     obtain ⟨sE0, sE1, sE2, sA0, sA1, sA2, sA3⟩ := hS
     go_simp
     try with_reducible rfl
    refine AnyJ.takeD (i := 2) (d := some 54) (v := ?_) rfl (by kernel_rfl) (by kernel_rfl) (by kernel_rfl) (by kernel_rfl) (by kernel_rfl) (fun _ _ _ h => by cases h.1) (Or.inl ⟨by kernel_rfl, ?_⟩) hS ?_
    rotate_left
    ·
     intro w' hS
     obtain ⟨sE0, sE1, sE2, sA0, sA1, sA2, sA3⟩ := hS
     go_simp
     try with_reducible rfl
    refine AnyJ.takeD (i := 3) (d := some 55) (v := ?_) rfl (by kernel_rfl) (by kernel_rfl) (by kernel_rfl) (by kernel_rfl) (by kernel_rfl) (fun _ _ _ h => by cases h.1) (Or.inl ⟨by kernel_rfl, ?_⟩) hS ?_
    rotate_left
    ·
     intro w' hS
     obtain ⟨sE0, sE1, sE2, sA0, sA1, sA2, sA3⟩ := hS
     go_simp
     try with_reducible rfl
    clear hS
    refine AnyJ.two (i := 4) (j := 9) (by kernel_rfl) rfl rfl (fun Kz hKz => ?_) (fun Kz hKz => ?_)
    ·
     go_simp
     refine (HAV.out w4).mono ?_
     rintro e w5 ⟨rfl, hsw5⟩
     have hbw5 : Below w3.heap.size w3 w5 := hbw4.trans (hsw5.mono hbw4.size)
     refine hKz _ _ (fun _ => HS.out _ hbw5) ?_
     clear hKz Kz
     refine AnyJ.two (i := 5) (j := 9) (by kernel_rfl) rfl rfl (fun Kz hKz => ?_) (fun Kz hKz => ?_)
     ·
      go_simp
      refine (value_p r.pr (un - fr) ps (nt - fr) (dayI nt) w5 (HIN.out.step hbw5) HWV.out N1 D1 E1 HEV.out).mono ?_
      rintro e w6 ⟨rfl, hsw6⟩
      have hbw6 : Below w3.heap.size w3 w6 := hbw5.trans (hsw6.mono hbw5.size)
      have hS := HS.out _ hbw6
      refine hKz _ _ (fun _ => hS) ?_
      clear hKz Kz
      refine AnyJ.takeD (i := 6) (d := some 51) (v := ?_) rfl (by kernel_rfl) (by kernel_rfl) (by kernel_rfl) (by kernel_rfl) (by kernel_rfl) (fun _ _ _ h => by cases h.1) (Or.inl ⟨by kernel_rfl, ?_⟩) hS ?_
      rotate_left
      ·
       intro w' hS
       obtain ⟨sE0, sE1, sE2, sA0, sA1, sA2, sA3⟩ := hS
       go_simp
       try with_reducible rfl
      refine AnyJ.takeD (i := 7) (d := some 58) (v := ?_) rfl (by kernel_rfl) (by kernel_rfl) (by kernel_rfl) (by kernel_rfl) (by kernel_rfl) (fun _ _ _ h => by cases h.1) (Or.inl ⟨by kernel_rfl, ?_⟩) hS ?_
      rotate_left
      ·
       intro w' hS
       obtain ⟨sE0, sE1, sE2, sA0, sA1, sA2, sA3⟩ := hS
       go_simp
       try with_reducible rfl
      refine AnyJ.takeD (i := 8) (d := some 59) (v := ?_) rfl (by kernel_rfl) (by kernel_rfl) (by kernel_rfl) (by kernel_rfl) (by kernel_rfl) (fun _ _ _ h => by cases h.1) (Or.inl ⟨by kernel_rfl, ?_⟩) hS ?_
      rotate_left
      ·
       intro w' hS
       obtain ⟨sE0, sE1, sE2, sA0, sA1, sA2, sA3⟩ := hS
       go_simp
       try with_reducible rfl
      clear hS
      refine AnyJ.one (i := 9) (by kernel_rfl) rfl (fun Kz hKz => ?_)
      go_simp
      obtain ⟨w7, hww7⟩ : ∃ X, World.alloc w6 (.cells #[.int .i64 0, .int .i64 0] 28) = X := ⟨_, rfl⟩
      rw [hww7]
      have hsw7 : Below w6.heap.size w6 w7 := by rw [← hww7]; exact (Below.refl _ _).alloc (Nat.le_refl _) _
      have hbw7 : Below w3.heap.size w3 w7 := hbw6.trans (hsw7.mono hbw6.size)
      have hA : w3.heap.size ≤ w6.heap.size := hbw6.size
      have RA : Row w7 w6.heap.size [.int .i64 0, .int .i64 0] := by rw [← hww7]; exact Row.new' _ _ _ rfl
      clear hww7
      refine hKz _ _ (fun _ => HS.out _ hbw7) ?_
      clear hKz Kz
      have a0 := RA.cell 0 rfl
      have a1 := RA.cell 1 rfl
      have f0 := RA.frozen 0
      have f1 := RA.frozen 1
      have fl := RA.lt
      refine AnyJ.one (i := 10) (by kernel_rfl) rfl (fun Kz hKz => ?_)
      go_simp
      refine hKz _ _ (fun _ => HS.out _ ((hbw7.setCell (hp := hA) (p := ⟨w6.heap.size, 0, none⟩) _).setCell (hp := hA) (p := ⟨w6.heap.size, 1, none⟩) _)) ?_
      clear hKz Kz
      refine AnyJ.one (i := 11) (by kernel_rfl) rfl (fun Kz hKz => ?_)
      go_simp
      refine hKz _ _ (fun h => by cases h) ?_
      clear hKz Kz
      refine AnyJ.done (by kernel_rfl) ⟨rfl, ?_⟩ _
      try simp only [Act.put, List.setIfInBounds_toArray, List.set_cons_zero, List.set_cons_succ]
      clear a0 a1 f0 f1 fl
      go_wp2_with fail
      go_meet
      exact ⟨_, rfl, rfl, RA.set2 _ _, (hbw7.setCell (hp := hA) (p := ⟨w6.heap.size, 0, none⟩) _).setCell (hp := hA) (p := ⟨w6.heap.size, 1, none⟩) _⟩
     ·
      go_simp
      obtain ⟨w6, hww6⟩ : ∃ X, World.alloc w5 (.cells #[.int .i64 0, .int .i64 0] 28) = X := ⟨_, rfl⟩
      rw [hww6]
      have hsw6 : Below w5.heap.size w5 w6 := by rw [← hww6]; exact (Below.refl _ _).alloc (Nat.le_refl _) _
      have hbw6 : Below w3.heap.size w3 w6 := hbw5.trans (hsw6.mono hbw5.size)
      have hA : w3.heap.size ≤ w5.heap.size := hbw5.size
      have RA : Row w6 w5.heap.size [.int .i64 0, .int .i64 0] := by rw [← hww6]; exact Row.new' _ _ _ rfl
      clear hww6
      refine hKz _ _ (fun _ => HS.out _ hbw6) ?_
      clear hKz Kz
      refine AnyJ.one (i := 5) (by kernel_rfl) rfl (fun Kz hKz => ?_)
      go_simp
      refine (value_p r.pr (un - fr) ps (nt - fr) (dayI nt) w6 (HIN.out.step hbw6) HWV.out N1 D1 E1 HEV.out).mono ?_
      rintro e w7 ⟨rfl, hsw7⟩
      have hbw7 : Below w3.heap.size w3 w7 := hbw6.trans (hsw7.mono hbw6.size)
      have hS := HS.out _ hbw7
      refine hKz _ _ (fun _ => hS) ?_
      clear hKz Kz
      refine AnyJ.takeD (i := 6) (d := some 51) (v := ?_) rfl (by kernel_rfl) (by kernel_rfl) (by kernel_rfl) (by kernel_rfl) (by kernel_rfl) (fun _ _ _ h => by cases h.1) (Or.inl ⟨by kernel_rfl, ?_⟩) hS ?_
      rotate_left
      ·
       intro w' hS
       obtain ⟨sE0, sE1, sE2, sA0, sA1, sA2, sA3⟩ := hS
       go_simp
       try with_reducible rfl
      refine AnyJ.takeD (i := 7) (d := some 58) (v := ?_) rfl (by kernel_rfl) (by kernel_rfl) (by kernel_rfl) (by kernel_rfl) (by kernel_rfl) (fun _ _ _ h => by cases h.1) (Or.inl ⟨by kernel_rfl, ?_⟩) hS ?_
      rotate_left
      ·
       intro w' hS
       obtain ⟨sE0, sE1, sE2, sA0, sA1, sA2, sA3⟩ := hS
       go_simp
       try with_reducible rfl
      refine AnyJ.takeD (i := 8) (d := some 59) (v := ?_) rfl (by kernel_rfl) (by kernel_rfl) (by kernel_rfl) (by kernel_rfl) (by kernel_rfl) (fun _ _ _ h => by cases h.1) (Or.inl ⟨by kernel_rfl, ?_⟩) hS ?_
      rotate_left
      ·
       intro w' hS
       obtain ⟨sE0, sE1, sE2, sA0, sA1, sA2, sA3⟩ := hS
       go_simp
       try with_reducible rfl
      clear hS
      replace RA := RA.step hsw7
      have a0 := RA.cell 0 rfl
      have a1 := RA.cell 1 rfl
      have f0 := RA.frozen 0
      have f1 := RA.frozen 1
      have fl := RA.lt
      refine AnyJ.one (i := 10) (by kernel_rfl) rfl (fun Kz hKz => ?_)
      go_simp
      refine hKz _ _ (fun _ => HS.out _ ((hbw7.setCell (hp := hA) (p := ⟨w5.heap.size, 0, none⟩) _).setCell (hp := hA) (p := ⟨w5.heap.size, 1, none⟩) _)) ?_
      clear hKz Kz
      refine AnyJ.one (i := 11) (by kernel_rfl) rfl (fun Kz hKz => ?_)
      go_simp
      refine hKz _ _ (fun h => by cases h) ?_
      clear hKz Kz
      refine AnyJ.done (by kernel_rfl) ⟨rfl, ?_⟩ _
      try simp only [Act.put, List.setIfInBounds_toArray, List.set_cons_zero, List.set_cons_succ]
      clear a0 a1 f0 f1 fl
      go_wp2_with fail
      go_meet
      exact ⟨_, rfl, rfl, RA.set2 _ _, (hbw7.setCell (hp := hA) (p := ⟨w5.heap.size, 0, none⟩) _).setCell (hp := hA) (p := ⟨w5.heap.size, 1, none⟩) _⟩
    ·
     go_simp
     obtain ⟨w5, hww5⟩ : ∃ X, World.alloc w4 (.cells #[.int .i64 0, .int .i64 0] 28) = X := ⟨_, rfl⟩
     rw [hww5]
     have hsw5 : Below w4.heap.size w4 w5 := by rw [← hww5]; exact (Below.refl _ _).alloc (Nat.le_refl _) _
     have hbw5 : Below w3.heap.size w3 w5 := hbw4.trans (hsw5.mono hbw4.size)
     have hA : w3.heap.size ≤ w4.heap.size := hbw4.size
     have RA : Row w5 w4.heap.size [.int .i64 0, .int .i64 0] := by rw [← hww5]; exact Row.new' _ _ _ rfl
     clear hww5
     refine hKz _ _ (fun _ => HS.out _ hbw5) ?_
     clear hKz Kz
     refine AnyJ.one (i := 4) (by kernel_rfl) rfl (fun Kz hKz => ?_)
     go_simp
     refine (HAV.out w5).mono ?_
     rintro e w6 ⟨rfl, hsw6⟩
     have hbw6 : Below w3.heap.size w3 w6 := hbw5.trans (hsw6.mono hbw5.size)
     refine hKz _ _ (fun _ => HS.out _ hbw6) ?_
     clear hKz Kz
     refine AnyJ.one (i := 5) (by kernel_rfl) rfl (fun Kz hKz => ?_)
     go_simp
     refine (value_p r.pr (un - fr) ps (nt - fr) (dayI nt) w6 (HIN.out.step hbw6) HWV.out N1 D1 E1 HEV.out).mono ?_
     rintro e w7 ⟨rfl, hsw7⟩
     have hbw7 : Below w3.heap.size w3 w7 := hbw6.trans (hsw7.mono hbw6.size)
     have hS := HS.out _ hbw7
     refine hKz _ _ (fun _ => hS) ?_
     clear hKz Kz
     refine AnyJ.takeD (i := 6) (d := some 51) (v := ?_) rfl (by kernel_rfl) (by kernel_rfl) (by kernel_rfl) (by kernel_rfl) (by kernel_rfl) (fun _ _ _ h => by cases h.1) (Or.inl ⟨by kernel_rfl, ?_⟩) hS ?_
     rotate_left
     ·
      intro w' hS
      obtain ⟨sE0, sE1, sE2, sA0, sA1, sA2, sA3⟩ := hS
      go_simp
      try with_reducible rfl
     refine AnyJ.takeD (i := 7) (d := some 58) (v := ?_) rfl (by kernel_rfl) (by kernel_rfl) (by kernel_rfl) (by kernel_rfl) (by kernel_rfl) (fun _ _ _ h => by cases h.1) (Or.inl ⟨by kernel_rfl, ?_⟩) hS ?_
     rotate_left
     ·
      intro w' hS
      obtain ⟨sE0, sE1, sE2, sA0, sA1, sA2, sA3⟩ := hS
      go_simp
      try with_reducible rfl
     refine AnyJ.takeD (i := 8) (d := some 59) (v := ?_) rfl (by kernel_rfl) (by kernel_rfl) (by kernel_rfl) (by kernel_rfl) (by kernel_rfl) (fun _ _ _ h => by cases h.1) (Or.inl ⟨by kernel_rfl, ?_⟩) hS ?_
     rotate_left
     ·
      intro w' hS
      obtain ⟨sE0, sE1, sE2, sA0, sA1, sA2, sA3⟩ := hS
      go_simp
      try with_reducible rfl
     clear hS
     replace RA := (RA.step hsw6).step hsw7
     have a0 := RA.cell 0 rfl
     have a1 := RA.cell 1 rfl
     have f0 := RA.frozen 0
     have f1 := RA.frozen 1
     have fl := RA.lt
     refine AnyJ.one (i := 10) (by kernel_rfl) rfl (fun Kz hKz => ?_)
     go_simp
     refine hKz _ _ (fun _ => HS.out _ ((hbw7.setCell (hp := hA) (p := ⟨w4.heap.size, 0, none⟩) _).setCell (hp := hA) (p := ⟨w4.heap.size, 1, none⟩) _)) ?_
     clear hKz Kz
     refine AnyJ.one (i := 11) (by kernel_rfl) rfl (fun Kz hKz => ?_)
     go_simp
     refine hKz _ _ (fun h => by cases h) ?_
     clear hKz Kz
     refine AnyJ.done (by kernel_rfl) ⟨rfl, ?_⟩ _
     try simp only [Act.put, List.setIfInBounds_toArray, List.set_cons_zero, List.set_cons_succ]
     clear a0 a1 f0 f1 fl
     go_wp2_with fail
     go_meet
     exact ⟨_, rfl, rfl, RA.set2 _ _, (hbw7.setCell (hp := hA) (p := ⟨w4.heap.size, 0, none⟩) _).setCell (hp := hA) (p := ⟨w4.heap.size, 1, none⟩) _⟩
   case' rest =>
    obtain ⟨A, rfl, rfl, RA, hb4⟩ := hcut
    obtain ⟨w4, hw4⟩ : ∃ wd, wd = wc := ⟨_, rfl⟩
    subst hw4
    replace HRN := rstep HRN hb4
    replace HRR := rstep HRR hb4
    replace HRE := rstep HRE hb4
    replace HRB := rstep HRB hb4
    replace HBX : Hid (Below w.heap.size w w4) := HBX.out.trans (hb4.mono HBX.out.size)
    replace HKW : Hid (w4.heap[D]? = some (.deferred (some []))) := (hb4.block D (Array.getElem?_eq_some_iff.1 HKW.out).1).trans HKW.out
    clear n0 nz nl d4 s4 l4 e0 ez el HS HRA bl al hb4
    have ca0 := RA.cell 0 rfl
    have ca1 := RA.cell 1 rfl
    have cal := RA.lt
    by_cases hE1 : E1 = 0
    ·
     have hE1' : (E1 != 0) = false := by simpa using hE1
     have hE2 := HC2.out hE1
     have hE3 := HC3.out hE1
     have HE2 := Lib.hid hE2
     have HE3 := Lib.hid hE3
     clear hE1 hE2 hE3
     have hRnd := Round_any N1 D1 3 w4
     rw [HRD.out] at hRnd
     have HRND := Lib.hid hRnd
     clear hRnd
     go_wp2_with fail
     refine HRND.out.mono ?_
     rintro e w5 ⟨rfl, hb5⟩
     replace HRN := rstep HRN hb5
     replace HRR := rstep HRR hb5
     replace HRE := rstep HRE hb5
     replace HRB := rstep HRB hb5
     replace HBX : Hid (Below w.heap.size w w5) := HBX.out.trans (hb5.mono HBX.out.size)
     replace HKW : Hid (w5.heap[D]? = some (.deferred (some []))) := (hb5.block D (Array.getElem?_eq_some_iff.1 HKW.out).1).trans HKW.out
     clear ca0 ca1 cal RA hb5
     have n0 := HRN.out.cell 0 rfl
     have nz := HRN.out.frozen 0
     have nl := HRN.out.lt
     have d4 := ldV_row HRR.out rfl
     have s4 := stB_row HRR.out rfl
     have l4 := HRR.out.lt
     have e0 := HRE.out.cell 0 rfl
     have ez := HRE.out.frozen 0
     have el := HRE.out.lt
     by_cases hR0 : R < 0
     ·
      obtain ⟨rfl, rfl, rfl⟩ := HE2.out hR0
      go_wp2_with fail
      obtain ⟨X, hX⟩ : ∃ X, put3 w5 (w.heap.size + 1) (.int .i64 0) (#[.int .i64 0, .int .i64 0, .int .i64 0, .int .i64 0, .int .i64 0, .int .i64 0, .int .i64 0, .int .i64 0, .int .i64 0, .int .i64 0, .int .i64 0, .int .i64 0, .slice none 0 0, .int .i64 0, .int .i64 0, .slice none 0 0]) (.int .i64 22) = X := ⟨_, rfl⟩
      have hX' := hX
      unfold put3 at hX'
      rw [hX']
      clear hX'
      obtain ⟨p1, p2, p3, p4⟩ := put3_row HRN.out HRR.out HRE.out rfl (.int .i64 0) (.int .i64 22) (#[.int .i64 0, .int .i64 0, .int .i64 0, .int .i64 0, .int .i64 0, .int .i64 0, .int .i64 0, .int .i64 0, .int .i64 0, .int .i64 0, .int .i64 0, .int .i64 0, .slice none 0 0, .int .i64 0, .int .i64 0, .slice none 0 0]) rfl
      rw [hX] at p1 p2 p3 p4
      clear hX
      have HZN := Lib.hid p1
      have HZR := Lib.hid p2
      have HZE := Lib.hid p3
      have HZB : Hid (Below w.heap.size w X) := p4.below HBX.out (fun k hk => by omega) HBX.out.size
      have HKX : Hid (X.heap[D]? = some (.deferred (some []))) := (p4.2.2.2.2 D (Array.getElem?_eq_some_iff.1 HKW.out).1 (fun hk => by omega)).trans HKW.out
      clear p1 p2 p3 p4 n0 nz nl d4 s4 l4 e0 ez el
      refine ⟨by simp, .inl ⟨_, _, rfl, run_takeDeferred HKX.out, ?_⟩⟩
      have Z1 := HZN.out.putO (o' := .deferred none) HKX.out rfl
      have Z2 := HZR.out.putO (o' := .deferred none) HKX.out rfl
      have Z3 := HZE.out.putO (o' := .deferred none) HKX.out rfl
      refine ⟨.tuple #[.int .i64 0, zR.val, .int .i64 22], results_cell3 Try.results55 _ _ rfl rfl rfl (loadVar_int Z1) (loadVar_rate Z2 rfl) (loadVar_err Z3), ?_⟩
      exact ⟨rfl, HZB.out.trans (below_putZ _ (by have := hD; have := HZB.out.size; omega))⟩
     ·
      obtain ⟨rfl, rfl, rfl⟩ := HE3.out (by omega)
      have dB := ldV_row HRB.out rfl
      go_upto_region 17 with fail
      refine AnyJ.beginM (fun W' => ldV W' (.pointer (some ⟨w.heap.size + 1 + 1 + 1 + 1, 0, none⟩)) = some (.agg #[.int .i64 r.id, .int .i64 r.lv, .int .i64 r.kd, .int .i64 r.fr, .int .i64 r.un, .int .i64 r.ls, .int .i64 r.ms, .int .i64 r.ar, .int .i64 r.kn, .int .i64 r.kk, .int .i64 r.wh.op, .int .i64 r.wh.n, .slice r.wh.at' r.wh.ks.length r.wh.cap, .int .i64 r.pr.op, .int .i64 r.pr.n, .slice r.pr.at' r.pr.ks.length r.pr.cap])) (fun j => decide (j ≤ 2)) (by kernel_rfl) (show ldV w5.drew _ = _ from dB) (fun hS => ?_)
      refine AnyJ.takeD (i := 0) (d := some 72) (v := ?_) rfl (by kernel_rfl) (by kernel_rfl) (by kernel_rfl) (by kernel_rfl) (by kernel_rfl) (fun _ _ _ h => by cases h.1) (Or.inl ⟨by kernel_rfl, ?_⟩) hS ?_
      rotate_left
      ·
       intro w' hS
       go_simp
       try with_reducible rfl
      refine AnyJ.takeD (i := 1) (d := some 73) (v := ?_) rfl (by kernel_rfl) (by kernel_rfl) (by kernel_rfl) (by kernel_rfl) (by kernel_rfl) (fun _ _ _ h => by cases h.1) (Or.inl ⟨by kernel_rfl, ?_⟩) hS ?_
      rotate_left
      ·
       intro w' hS
       go_simp
       try with_reducible rfl
      clear hS n0 nz nl d4 s4 l4 e0 ez el
      obtain ⟨wd, hwd⟩ : ∃ X, World.drew w5 = X := ⟨_, rfl⟩
      rw [hwd]
      replace HRN := rdrew HRN
      replace HRR := rdrew HRR
      replace HRE := rdrew HRE
      replace HBX : Hid (Below w.heap.size w w5.drew) := HBX.out.drew
      replace HKW : Hid (w5.drew.heap[D]? = some (.deferred (some []))) := HKW
      rw [hwd] at HRN HRR HRE HBX HKW
      replace dB : ldV wd (.pointer (some ⟨w.heap.size + 1 + 1 + 1 + 1, 0, none⟩)) = some (.agg #[.int .i64 r.id, .int .i64 r.lv, .int .i64 r.kd, .int .i64 r.fr, .int .i64 r.un, .int .i64 r.ls, .int .i64 r.ms, .int .i64 r.ar, .int .i64 r.kn, .int .i64 r.kk, .int .i64 r.wh.op, .int .i64 r.wh.n, .slice r.wh.at' r.wh.ks.length r.wh.cap, .int .i64 r.pr.op, .int .i64 r.pr.n, .slice r.pr.at' r.pr.ks.length r.pr.cap]) := by rw [← hwd]; exact dB
      clear hwd
      have n0 := HRN.out.cell 0 rfl
      have nz := HRN.out.frozen 0
      have nl := HRN.out.lt
      have d4 := ldV_row HRR.out rfl
      have s4 := stB_row HRR.out rfl
      have l4 := HRR.out.lt
      have e0 := HRE.out.cell 0 rfl
      have ez := HRE.out.frozen 0
      have el := HRE.out.lt
      refine AnyJ.one (i := 2) (by kernel_rfl) rfl (fun Kz hKz => ?_)
      go_simp
      refine hKz _ _ (fun _ => by show ldV _ _ = _; rw [ldV_set _ _ _ _ _ _ (by omega)]; exact dB) ?_
      clear hKz Kz
      refine AnyJ.one (i := 3) (by kernel_rfl) rfl (fun Kz hKz => ?_)
      go_simp
      refine hKz _ _ (fun h => by simp at h) ?_
      clear hKz Kz
      refine AnyJ.one (i := 4) (by kernel_rfl) rfl (fun Kz hKz => ?_)
      go_simp
      refine hKz _ _ (fun h => by simp at h) ?_
      clear hKz Kz
      refine AnyJ.done (by kernel_rfl) ⟨rfl, ?_⟩ _
      try simp only [Act.put, List.setIfInBounds_toArray, List.set_cons_zero, List.set_cons_succ]
      go_wp2_with fail
      obtain ⟨X, hX⟩ : ∃ X, put3 wd (w.heap.size + 1) (.int .i64 N) (#[.int .i64 r.id, .int .i64 r.lv, .int .i64 r.kd, .int .i64 r.fr, .int .i64 r.un, .int .i64 r.ls, .int .i64 r.ms, .int .i64 r.ar, .int .i64 r.kn, .int .i64 r.kk, .int .i64 r.wh.op, .int .i64 r.wh.n, .slice r.wh.at' r.wh.ks.length r.wh.cap, .int .i64 r.pr.op, .int .i64 r.pr.n, .slice r.pr.at' r.pr.ks.length r.pr.cap]) (.int .i64 0) = X := ⟨_, rfl⟩
      have hX' := hX
      unfold put3 at hX'
      rw [hX']
      clear hX'
      obtain ⟨p1, p2, p3, p4⟩ := put3_row HRN.out HRR.out HRE.out rfl (.int .i64 N) (.int .i64 0) (#[.int .i64 r.id, .int .i64 r.lv, .int .i64 r.kd, .int .i64 r.fr, .int .i64 r.un, .int .i64 r.ls, .int .i64 r.ms, .int .i64 r.ar, .int .i64 r.kn, .int .i64 r.kk, .int .i64 r.wh.op, .int .i64 r.wh.n, .slice r.wh.at' r.wh.ks.length r.wh.cap, .int .i64 r.pr.op, .int .i64 r.pr.n, .slice r.pr.at' r.pr.ks.length r.pr.cap]) rfl
      rw [hX] at p1 p2 p3 p4
      clear hX
      have HZN := Lib.hid p1
      have HZR := Lib.hid p2
      have HZE := Lib.hid p3
      have HZB : Hid (Below w.heap.size w X) := p4.below HBX.out (fun k hk => by omega) HBX.out.size
      have HKX : Hid (X.heap[D]? = some (.deferred (some []))) := (p4.2.2.2.2 D (Array.getElem?_eq_some_iff.1 HKW.out).1 (fun hk => by omega)).trans HKW.out
      clear p1 p2 p3 p4 n0 nz nl d4 s4 l4 e0 ez el dB
      refine ⟨by simp, .inl ⟨_, _, rfl, run_takeDeferred HKX.out, ?_⟩⟩
      have Z1 := HZN.out.putO (o' := .deferred none) HKX.out rfl
      have Z2 := HZR.out.putO (o' := .deferred none) HKX.out rfl
      have Z3 := HZE.out.putO (o' := .deferred none) HKX.out rfl
      refine ⟨.tuple #[.int .i64 N, .agg #[.int .i64 r.id, .int .i64 r.lv, .int .i64 r.kd, .int .i64 r.fr, .int .i64 r.un, .int .i64 r.ls, .int .i64 r.ms, .int .i64 r.ar, .int .i64 r.kn, .int .i64 r.kk, .int .i64 r.wh.op, .int .i64 r.wh.n, .slice r.wh.at' r.wh.ks.length r.wh.cap, .int .i64 r.pr.op, .int .i64 r.pr.n, .slice r.pr.at' r.pr.ks.length r.pr.cap], .int .i64 0], results_cell3 Try.results55 _ _ rfl rfl rfl (loadVar_int Z1) (loadVar_rate Z2 rfl) (loadVar_err Z3), ?_⟩
      exact ⟨rfl, HZB.out.trans (below_putZ _ (by have := hD; have := HZB.out.size; omega))⟩
    ·
     have hE1' : (E1 != 0) = true := by simpa using hE1
     obtain ⟨rfl, rfl, rfl⟩ := HC1.out hE1
     clear hE1
     have n0 := HRN.out.cell 0 rfl
     have nz := HRN.out.frozen 0
     have nl := HRN.out.lt
     have d4 := ldV_row HRR.out rfl
     have s4 := stB_row HRR.out rfl
     have l4 := HRR.out.lt
     have e0 := HRE.out.cell 0 rfl
     have ez := HRE.out.frozen 0
     have el := HRE.out.lt
     go_wp2_with fail
     obtain ⟨X, hX⟩ : ∃ X, put3 w4 (w.heap.size + 1) (.int .i64 0) (#[.int .i64 0, .int .i64 0, .int .i64 0, .int .i64 0, .int .i64 0, .int .i64 0, .int .i64 0, .int .i64 0, .int .i64 0, .int .i64 0, .int .i64 0, .int .i64 0, .slice none 0 0, .int .i64 0, .int .i64 0, .slice none 0 0]) (.int .i64 E) = X := ⟨_, rfl⟩
     have hX' := hX
     unfold put3 at hX'
     rw [hX']
     clear hX'
     obtain ⟨p1, p2, p3, p4⟩ := put3_row HRN.out HRR.out HRE.out rfl (.int .i64 0) (.int .i64 E) (#[.int .i64 0, .int .i64 0, .int .i64 0, .int .i64 0, .int .i64 0, .int .i64 0, .int .i64 0, .int .i64 0, .int .i64 0, .int .i64 0, .int .i64 0, .int .i64 0, .slice none 0 0, .int .i64 0, .int .i64 0, .slice none 0 0]) rfl
     rw [hX] at p1 p2 p3 p4
     clear hX
     have HZN := Lib.hid p1
     have HZR := Lib.hid p2
     have HZE := Lib.hid p3
     have HZB : Hid (Below w.heap.size w X) := p4.below HBX.out (fun k hk => by omega) HBX.out.size
     have HKX : Hid (X.heap[D]? = some (.deferred (some []))) := (p4.2.2.2.2 D (Array.getElem?_eq_some_iff.1 HKW.out).1 (fun hk => by omega)).trans HKW.out
     clear p1 p2 p3 p4 n0 nz nl d4 s4 l4 e0 ez el
     refine ⟨by simp, .inl ⟨_, _, rfl, run_takeDeferred HKX.out, ?_⟩⟩
     have Z1 := HZN.out.putO (o' := .deferred none) HKX.out rfl
     have Z2 := HZR.out.putO (o' := .deferred none) HKX.out rfl
     have Z3 := HZE.out.putO (o' := .deferred none) HKX.out rfl
     refine ⟨.tuple #[.int .i64 0, zR.val, .int .i64 E], results_cell3 Try.results55 _ _ rfl rfl rfl (loadVar_int Z1) (loadVar_rate Z2 rfl) (loadVar_err Z3), ?_⟩
     exact ⟨rfl, HZB.out.trans (below_putZ _ (by have := hD; have := HZB.out.size; omega))⟩
 case stop =>
  rintro D cx pre W hD hpre ⟨rfl, pre', x, rfl, g0, g1, r1, r2, r3, h5⟩ hKd
  refine (wpIn_wide (n := 6)).2 ?_
  obtain ⟨rest, hrest⟩ := hpre
  have hth : thP ⟨k, fr, un, ps⟩ nt l = pre'.map Subtype.val ++ x.1 :: rest.map Subtype.val := by
   have h := thK_val l ⟨k, fr, un, ps⟩ nt l.length
   rw [List.take_length] at h
   rw [← h, ← hrest]
   simp
  have hbest : bestR ⟨k, fr, un, ps⟩ nt none l = (none, x.1.2) := by rw [bestR_goP, hth, goP_err g0 g1]
  have hres : N = 0 ∧ b = none ∧ E = x.1.2 := by
   have h2 := HR.out
   unfold priceN at h2
   rw [hbest, if_pos g1] at h2
   simp only [Prod.mk.injEq] at h2
   exact ⟨h2.1.symm, h2.2.1.symm, h2.2.2.symm⟩
  obtain ⟨rfl, rfl, hE⟩ := hres
  rw [← hE] at r3
  have HZN := Lib.hid r1
  have HZR := Lib.hid r2
  have HZE := Lib.hid r3
  have HZB := Lib.hid h5
  have HKX := Lib.hid hKd
  clear g0 g1 hrest hth hbest hE r1 r2 r3 h5 hKd
  go_wp2_with fail
  refine ⟨by simp, .inl ⟨_, _, rfl, run_takeDeferred HKX.out, ?_⟩⟩
  have Z1 := HZN.out.putO (o' := .deferred none) HKX.out rfl
  have Z2 := HZR.out.putO (o' := .deferred none) HKX.out rfl
  have Z3 := HZE.out.putO (o' := .deferred none) HKX.out rfl
  refine ⟨.tuple #[.int .i64 0, zR.val, .int .i64 E], results_cell3 Try.results55 _ _ rfl rfl rfl (loadVar_int Z1) (loadVar_rate Z2 rfl) (loadVar_err Z3), ?_⟩
  exact ⟨rfl, HZB.out.trans (below_putZ _ (by have := hD; have := HZB.out.size; omega))⟩
end Go.Proofs.Ytcmodmchnokmgaa
