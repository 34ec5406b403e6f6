/-
 The walks of package span: combine, for Meet.
-/
import Derived.Test.YtlmajlfhjbhdpaaGreatZM
namespace Go.Proofs.YtlmajlfhjbhdpaaGreat
set_option linter.unusedSimpArgs false
set_option linter.unusedVariables false
open Go.RowKit Go.Shelf
attribute [local go_sem] Oper.semAt_some
/-- A region within a round that draws and does not panic. -/
theorem AnyJ.beginI {P : Program} {ops : Array Oper} {Q : Exit → Act → World → Prop} {l n id : Nat} {a : Act} {w : World} (S : World → Prop) (J : Nat → Bool) (hm : P.follows .mixedOrders = true) (ht : tameOps ops = true) (hS : S w.drew)
  (h : S w.drew → AnyJ P .any ops (fun e a w => e = .normal ∧ Q .normal a w) S J ops.size (Array.replicate ops.size false) a w.drew) : (Code.region id ops true).wpIn (Fence.wide.inRound l) n P Q a w :=
 wpIn_mono (AnyJ.begin S J hm ht (by rintro ⟨a, w, h, _⟩; cases h) (h hS)) (fun e a w h => by obtain ⟨rfl, h⟩ := h; exact h)
/-- What the body of combine's loop may change: where its result lies, and slices of spans. -/
def ownS (Bq base : Nat) : World → Nat → Prop := fun A g => g = Bq ∨ ∃ cs fr, A.heap[g]? = some (Obj.cells cs 83 fr) ∧ base ≤ g
theorem ownS_out {Bq base : Nat} {W Y : World} {T : TypeId} {cs : List Value} (hq : RowT W Bq T cs) (hC : Ch (ownS Bq base W) W Y) : KeepsOthers W Y ∧ KeepsO (ownS Bq base) W Y := by
 refine ⟨hC.others (fun k hk => ?_), hC.size, fun k cs' T' fr hk hno => hC.2.2.2.2 k (Array.getElem?_eq_some_iff.1 hk).1 hno, fun k hk ho => ?_⟩
 ·
  rcases hk with rfl | ⟨c, fr, h, _⟩
  ·
   exact ⟨_, _, _, hq⟩
  ·
   exact ⟨_, _, _, h⟩
 ·
  by_cases hw : ownS Bq base W k
  ·
   exact hw
  ·
   rcases ho with h | ⟨c, fr, h, hb⟩
   ·
    exact Or.inl h
   ·
    exact Or.inr ⟨c, fr, (hC.2.2.2.2 k hk hw).symm.trans h, hb⟩
theorem ownS_put {Bq base l : Nat} {W : World} {o o' : Obj} (ho : W.heap[l]? = some o) (hc' : o'.isCells = false) {k : Nat} (hk : ownS Bq base (W.putObj l o') k) : ownS Bq base W k := by
 rcases hk with h | ⟨cs, fr, h, hb⟩
 ·
  exact Or.inl h
 ·
  by_cases hkl : l = k
  ·
   subst hkl
   rw [World.putObj_heap_same (Array.getElem?_eq_some_iff.1 ho).1] at h
   cases h
   simp [Obj.isCells] at hc'
  ·
   rw [World.putObj_heap_other (fun e => hkl e.symm)] at h
   exact Or.inr ⟨cs, fr, h, hb⟩
theorem Row.putObj {W : World} {l b : Nat} {o o' : Obj} {cs : List Value} (h : Row W b cs) (ho : W.heap[l]? = some o) (hc : o.isCells = false) : Row (W.putObj l o') b cs := by
 obtain ⟨T, hT⟩ := h
 refine ⟨T, ?_⟩
 rw [World.putObj_heap_other (fun e => ?_)]
 ·
  exact hT
 ·
  subst e
  rw [hT] at ho
  cases ho
  simp [Obj.isCells] at hc
/-- What combine's loop holds. -/
def CombI (w : World) (B5 Bq base : Nat) (pre : List (Int × Int × Bool × Bool)) (W : World) : Prop := ∃ (ad : Option Addr) (m cp : Nat) (L : List (Int × Int)), RowT W Bq 40 [.slice ad m cp] ∧ OwnG spE 83 W base (.slice ad m cp) L ∧ decide (m = 0) = !pre.any wantB ∧ m ≤ pre.length ∧ Row W B5 [.func (.func 89) #[] #[]] ∧ Below w.heap.size w W ∧ base ≤ W.heap.size
theorem combI_abide {w : World} {B5 Bq base : Nat} (h1 : w.heap.size ≤ base) (h2 : B5 < base) (h3 : Bq < base) : AbideT 83 base (CombI w B5 Bq base) := by
 rintro pre A C ⟨ad, m, cp, L, q1, q2, q3, q4, q5, q6, q7⟩ hb ht
 refine ⟨ad, m, cp, L, q1.below hb h3, ⟨q2.1, ?_⟩, q3, q4, q5.below hb h2, q6.trans (hb.mono h1), Nat.le_trans q7 hb.size⟩
 rcases q2.2 with h | ⟨g, c, cur, e1, e2, e3, e4⟩
 ·
  exact Or.inl h
 ·
  exact Or.inr ⟨g, c, cur, e1, e2, (ht g _ _ e3).trans e3, e4⟩
theorem Ch.ofB {o : Nat → Prop} {A C : World} (h : Below A.heap.size A C) : Ch o A C := ⟨h.os, h.tape, h.output, h.size, fun k hk _ => h.block k hk⟩
theorem comb_out {w : World} {B5 Bq base : Nat} {pre : List (Int × Int × Bool × Bool)} {W Y : World} (hI : CombI w B5 Bq base pre W) (hb : Below W.heap.size W Y) : KeepsOthers W Y ∧ KeepsO (ownS Bq base) W Y := by
 obtain ⟨ad, m, cp, L, q1, _⟩ := hI
 exact ownS_out q1 (Ch.ofB hb)
theorem any_snoc {α : Type} (p : α → Bool) (l : List α) (x : α) : (l ++ [x]).any p = (l.any p || p x) := by simp
theorem comb_fin {w : World} {B5 Bq base : Nat} {pre : List (Int × Int × Bool × Bool)} {x : Int × Int × Bool × Bool} {W Y : World} {ad : Option Addr} {m cp : Nat} {L : List (Int × Int)} (hwb : w.heap.size ≤ base) (h5 : B5 < base) (h5q : B5 ≠ Bq) (hwq : w.heap.size ≤ Bq) (hI : CombI w B5 Bq base pre W)
  (hC : Ch (fun k => ownS Bq base W k ∨ W.heap.size ≤ k) W Y) (r : RowT Y Bq 40 [.slice ad m cp]) (o : OwnG spE 83 Y base (.slice ad m cp) L) (h0 : 0 < m) (hl : m ≤ pre.length + 1) (hx : wantB x = true) :
  KeepsOthers W Y ∧ KeepsO (ownS Bq base) W Y ∧ CombI w B5 Bq base (pre ++ [x]) Y := by
 obtain ⟨ad1, m1, cp1, L1, q1, q2, q3, q4, q5, q6, q7⟩ := hI
 obtain ⟨k1, k2⟩ := ownS_out q1 (hC.mono (fun k hk h => h.resolve_right (by omega)))
 refine ⟨k1, k2, ad, m, cp, L, r, o, ?_, by rw [List.length_append]; exact hl, q5.ch hC (fun h => ?_), hC.below q6 (fun k hk => ?_) q6.size, Nat.le_trans q7 hC.size⟩
 ·
  rw [any_snoc, hx, Bool.or_true, decide_eq_false (by omega)]
  rfl
 ·
  rcases h with (h | ⟨_, _, _, h⟩) | h
  ·
   exact h5q h
  ·
   omega
  ·
   have := q5.lt; omega
 ·
  rcases hk with (h | ⟨_, _, _, h⟩) | h
  ·
   omega
  ·
   omega
  ·
   exact Nat.le_trans q6.size h
theorem comb_blk {Bq base : Nat} {W W2 : World} (hb : Below W.heap.size W W2) {v : Value} {L : List (Int × Int)} (o : OwnG spE 83 W2 base v L) : ∀ k, v.ownBlock = some k → ownS Bq base W k ∨ W.heap.size ≤ k := fun k hk => by
 by_cases hlt : k < W.heap.size
 ·
  obtain ⟨_, h2⟩ := o
  rcases h2 with ⟨rfl, h2⟩ | ⟨g, cap, cur, rfl, e2, e3, e4⟩
  ·
   simp [Value.ownBlock] at hk
  ·
   simp [Value.ownBlock] at hk
   subst hk
   exact Or.inl (Or.inr ⟨_, _, (hb.block _ hlt).symm.trans e3, e2⟩)
 ·
  exact Or.inr (by omega)
set_option maxRecDepth 100000 in
set_option maxHeartbeats 6400000 in
theorem combine_any (a b : Option Addr) (n1 n2 c1 c2 : Nat) (la lb : List (Int × Int)) (w : World) (hs1 : SlG spE w a n1 la) (hs2 : SlG spE w b n2 lb) (hn1 : n1 ≤ 1000) (hn2 : n2 ≤ 1000) (h0 : 0 < n2) (hv1 : validS la = true) (hv2 : validS lb = true) :
  Calls Tryz.prog 88 #[.slice a n1 c1, .slice b n2 c2, .func (.func 89) #[] #[]] w fun e w' => ∃ (ad : Option Addr) (m cp : Nat) (E : Int), e = .returned (.tuple #[.slice ad m cp, .int .i64 E]) ∧ decide (E = 0 ∧ m = 0) = !(pcL la lb).any wantB ∧ Below w.heap.size w w' := by
 have HS1 := Lib.hid hs1
 have HS2 := Lib.hid hs2
 have HV1 := Lib.hid hv1
 have HV2 := Lib.hid hv2
 clear hs1 hs2 hv1 hv2
 refine calls_of_wp_marks Tryz.func88 rfl ?_
 simp only [Tryz.ntmps88, List.size_toArray, List.length_cons, List.length_nil, Nat.reduceAdd, Nat.reduceSub, Array.replicate_succ, Array.replicate_zero, List.push_toArray, List.append_toArray, List.nil_append, List.cons_append]
 go_wp2_with fail
 refine (spValid_any a n1 c1 la _ (by omega) (HS1.out.step (by (repeat' (first | (with_reducible first | exact Below.refl _ _ | assumption | exact Bw.out (by assumption) | refine bw_alloc ?_ _ | refine bw_step ?_ (by assumption) | refine Below.alloc ?_ ?_ _ | refine Below.drew ?_ | refine below_drewN ?_ _ | refine Below.setCell ?_ ?_ _ | refine below_step ?_ (by assumption) ?_ | exact Nat.le_refl _) | omega | (simp; omega) | (simp; done))))) true HV1.out).mono ?_
 rintro e w1 ⟨rfl, hb1⟩
 have R_f_1 : Row w1 (w.heap.size) [.func (.func 89) #[] #[]] := by (repeat' (first | (with_reducible assumption) | (with_reducible refine Row.new' _ _ _ (by first | rfl | (simp; done) | omega)) | (with_reducible first | refine Row.alloc ?_ _ | refine Row.drew ?_ | refine Row.step ?_ (by assumption) | refine Row.drewN ?_ _) | (with_reducible refine Row.set2' ?_ _ _; first | exact ⟨_, _, by assumption⟩ | exact ⟨_, _, Row.alloc (by assumption) _⟩) | (with_reducible refine Row.other ?_ (by first | omega | (simp; omega)) _)))
 have c_f_0_1 := R_f_1.cell 0 rfl
 have z_f_0_1 := R_f_1.frozen 0
 have l_f_1 := R_f_1.lt
 have HB1 : Below w.heap.size w w1 := by (repeat' (first | (with_reducible first | exact Below.refl _ _ | assumption | exact Bw.out (by assumption) | refine bw_alloc ?_ _ | refine bw_step ?_ (by assumption) | refine Below.alloc ?_ ?_ _ | refine Below.drew ?_ | refine below_drewN ?_ _ | refine Below.setCell ?_ ?_ _ | refine below_step ?_ (by assumption) ?_ | exact Nat.le_refl _) | omega | (simp; omega) | (simp; done)))
 go_wp2_with fail
 refine (spValid_any b n2 c2 lb _ (by omega) (HS2.out.step (by (repeat' (first | (with_reducible first | exact Below.refl _ _ | assumption | exact Bw.out (by assumption) | refine bw_alloc ?_ _ | refine bw_step ?_ (by assumption) | refine Below.alloc ?_ ?_ _ | refine Below.drew ?_ | refine below_drewN ?_ _ | refine Below.setCell ?_ ?_ _ | refine below_step ?_ (by assumption) ?_ | exact Nat.le_refl _) | omega | (simp; omega) | (simp; done))))) true HV2.out).mono ?_
 rintro e w2 ⟨rfl, hb2⟩
 have R_f_2 : Row w2 (w.heap.size) [.func (.func 89) #[] #[]] := by (repeat' (first | (with_reducible assumption) | (with_reducible refine Row.new' _ _ _ (by first | rfl | (simp; done) | omega)) | (with_reducible first | refine Row.alloc ?_ _ | refine Row.drew ?_ | refine Row.step ?_ (by assumption) | refine Row.drewN ?_ _) | (with_reducible refine Row.set2' ?_ _ _; first | exact ⟨_, _, by assumption⟩ | exact ⟨_, _, Row.alloc (by assumption) _⟩) | (with_reducible refine Row.other ?_ (by first | omega | (simp; omega)) _)))
 have c_f_0_2 := R_f_2.cell 0 rfl
 have z_f_0_2 := R_f_2.frozen 0
 have l_f_2 := R_f_2.lt
 have HB2 : Below w.heap.size w w2 := by (repeat' (first | (with_reducible first | exact Below.refl _ _ | assumption | exact Bw.out (by assumption) | refine bw_alloc ?_ _ | refine bw_step ?_ (by assumption) | refine Below.alloc ?_ ?_ _ | refine Below.drew ?_ | refine below_drewN ?_ _ | refine Below.setCell ?_ ?_ _ | refine below_step ?_ (by assumption) ?_ | exact Nat.le_refl _) | omega | (simp; omega) | (simp; done)))
 clear R_f_1 c_f_0_1 z_f_0_1 hb1 HB1
 obtain ⟨Bq, hBq⟩ : ∃ q, w2.heap.size = q := ⟨_, rfl⟩
 have R8 : RowT (w2.alloc (.cells #[.slice none 0 0] 40)) Bq 40 [.slice none 0 0] := by rw [← hBq]; exact RowT.new _ _ _
 have R5 : Row (w2.alloc (.cells #[.slice none 0 0] 40)) w.heap.size [.func (.func 89) #[] #[]] := R_f_2.alloc _
 have HB3 : Below w.heap.size w (w2.alloc (.cells #[.slice none 0 0] 40)) := by (repeat' (first | (with_reducible first | exact Below.refl _ _ | assumption | exact Bw.out (by assumption) | refine bw_alloc ?_ _ | refine bw_step ?_ (by assumption) | refine Below.alloc ?_ ?_ _ | refine Below.drew ?_ | refine below_drewN ?_ _ | refine Below.setCell ?_ ?_ _ | refine below_step ?_ (by assumption) ?_ | exact Nat.le_refl _) | omega | (simp; omega) | (simp; done)))
 have hs3 : (w2.alloc (.cells #[.slice none 0 0] 40)).heap.size = Bq + 1 := by simp [hBq]
 go_wp2_with fail
 refine (pieces_any a b n1 n2 c1 c2 _).mono ?_
 rintro e w4 ⟨B1, B2, rfl, hB1, hB2, hb4⟩
 have R84 := R8.step hb4
 have R54 := R5.step hb4
 have HB4 : Below w.heap.size w w4 := HB3.trans (hb4.mono HB3.size)
 have hs4 := hb4.size
 have hst := pieces_stops (ownS Bq w4.heap.size) 5 (by omega) B1 B2 a b n1 n2 c1 c2 la lb w4 hB1 hB2 (HS1.out.step HB4) (HS2.out.step HB4) hn1 hn2 h0 (fun A g cs fr T h1 h2 h3 ho => by
  rcases ho with ho | ⟨cs', fr', ho, _⟩
  ·
   omega
  ·
   rw [h1] at ho
   rcases h3 with rfl | rfl <;> simp at ho)
 have HST := Lib.hid hst
 clear hst hb4 R8 R5 hB1 hB2 HB3
 go_wp2_with fail
 refine (wpIn_wide (n := 6)).1 ?_
 obtain ⟨base, hbase⟩ : ∃ base, w4.heap.size = base := ⟨_, rfl⟩
 have hwb : w.heap.size < base := by have := hs3; have := HB2.size; omega
 have hqb : Bq < base := by omega
 have hwb' : w.heap.size ≤ base := by omega
 rw [hbase] at HST
 refine range_ownX (T := 83) (w0 := w4) (α := Int × Int × Bool × Bool) rfl (by omega) rfl trivial (enters_of Tryz.func128 (by kernel_rfl) rfl) HST.out (fun h k => h.trans k)
  (fun Wx l o o' hl ho hc hwk hc' => KeepsO.putObj o' ho hc (fun k hk => ownS_put ho hc' hk))
  (Below.refl _ _) (fun _ => rfl)
  (CombI w w.heap.size Bq base) (fun cx pre wr => False)
  (by rw [hbase]; exact combI_abide hwb' hwb hqb) (fun cx s W l o o' _ _ _ h => h)
  ⟨none, 0, 0, [], R84, OwnG.nil _ _ _ _, rfl, Nat.le_refl _, R54, HB4, by omega⟩
  (fun x a' W => ∃ Bs Bi : Nat, base ≤ Bs ∧ base ≤ Bi ∧ Row W Bs [.int .i64 x.1, .int .i64 x.2.1] ∧ Row W Bi [.bool x.2.2.1, .bool x.2.2.2] ∧ a' = { tmps := #[.slice a n1 c1, .slice b n2 c2, .func (.func 89) #[] #[], undef, undef, .pointer (some ⟨w.heap.size, 0, none⟩), .slice none 0 0, .int .i64 0, .pointer (some ⟨Bq, 0, none⟩), .pointer (some ⟨Bs, 0, none⟩), .pointer (some ⟨Bi, 0, none⟩), undef, .slice a n1 c1, .bool true, .bool false, .bool false, .slice b n2 c2, .bool true, .bool false, .bool false, .slice a n1 c1, .slice b n2 c2, .func (.func 128) #[] #[.pointer (some ⟨B1, 0, none⟩), .pointer (some ⟨B2, 0, none⟩)], .agg #[.int .i64 x.1, .int .i64 x.2.1], .agg #[.bool x.2.2.1, .bool x.2.2.2], undef, undef, undef, undef, undef, undef, undef, undef, undef, undef, undef, undef, undef, undef, undef, undef, undef, undef, undef, undef, undef, undef, undef, undef, undef, undef, undef, undef, undef, undef, undef, undef, undef, undef], defers := [] })
  (fun x a' W l o o' hl ho hc h => by
   obtain ⟨Bs, Bi, e1, e2, r1, r2, e⟩ := h
   exact ⟨Bs, Bi, e1, e2, r1.putObj ho hc, r2.putObj ho hc, e⟩) ?assign ?body ?done ?stop
 case assign =>
  rintro lx pre ⟨x1, x2, x3, x4⟩ W K hI hK
  gi_wp2
  have hal : Below W.heap.size W ((W.alloc (.cells #[.int .i64 x1, .int .i64 x2] 83)).alloc (.cells #[.bool x3, .bool x4] 130)) := ((Below.refl _ W).alloc (Nat.le_refl _) _).alloc (by simp) _
  obtain ⟨k1, k2⟩ := comb_out hI hal
  have hI7 := hI.choose_spec.choose_spec.choose_spec.choose_spec.2.2.2.2.2.2
  refine hK _ _ k1 k2 (combI_abide hwb' hwb hqb _ _ _ hI (hal.mono hI7) (KeepT.of_below hal)) ⟨W.heap.size, W.heap.size + 1, hI7, by omega, (Row.new' _ _ _ rfl).alloc _, Row.new' _ _ _ (by simp), rfl⟩
 case body =>
  rintro lx pre ⟨xf, xu, y0, y1⟩ a' W ⟨ad, m, cp, L, q1, q2, q3, q4, q5, q6, q7⟩ ⟨Bs, Bi, hBs, hBi, x1, x2, rfl⟩ hsp hpl
  dsimp only at x1 x2 ⊢
  have HSN := Lib.hid (any_snoc wantB pre (xf, xu, y0, y1))
  have c5 := q5.cell 0 rfl
  have cs0 := x1.cell 0 rfl
  have cs1 := x1.cell 1 rfl
  have ci0 := x2.cell 0 rfl
  have ci1 := x2.cell 1 rfl
  have c8 := q1.row.cell 0 rfl
  have Q3 := Lib.hid q3
  have Q6 := Lib.hid q6
  have hls := x1.lt
  have hq1 := q1.row.lt
  clear q3 q6
  have HW := Lib.hid (want_any y0 y1 W)
  have hI0 : CombI w w.heap.size Bq base pre W := ⟨ad, m, cp, L, q1, q2, Q3.out, q4, q5, Q6.out, q7⟩
  have HI0 := Lib.hid hI0
  clear hI0
  gi_wp2_with fail
  refine ⟨trivial, ?_⟩
  refine (calls_in lx HW.out).mono ?_
  rintro e W2 ⟨rfl, hb2⟩
  have hI2 := combI_abide hwb' hwb hqb _ _ _ HI0.out (hb2.mono q7) (KeepT.of_below hb2)
  obtain ⟨y, hy⟩ : ∃ y, (y0 && y1) = y := ⟨_, rfl⟩
  rw [hy]
  have hwx : wantB (xf, xu, y0, y1) = y := hy
  rw [hwx] at HSN
  have HWY := Lib.hid hy
  clear hwx hy
  have HB2 := Lib.hid hb2
  cases y with
  | false =>
   obtain ⟨k1, k2⟩ := comb_out HI0.out hb2
   have HQ : Hid (KeepsOthers W W2 ∧ KeepsO (ownS Bq base) W W2) := ⟨k1, k2⟩
   have HF : Hid (CombI w w.heap.size Bq base (pre ++ [(xf, xu, y0, y1)]) W2) := by
    obtain ⟨ad', m', cp', L', e1, e2, e3, e4, e5, e6, e7⟩ := hI2
    exact ⟨ad', m', cp', L', e1, e2, by rw [HSN.out, Bool.or_false]; exact e3, by rw [List.length_append]; omega, e5, e6, e7⟩
   clear hI2 k1 k2
   gi_wp2_with fail
   exact ⟨HQ.out.1, HQ.out.2, HF.out⟩
  | true =>
   obtain ⟨ad', m', cp', L', e1, e2, e3, e4, e5, e6, e7⟩ := hI2
   have c8 := e1.row.cell 0 rfl
   have hlq := e1.row.lt
   have z8 := e1.row.frozen 0
   have x1' := x1.step hb2
   have cs0 := x1'.cell 0 rfl
   have cs1 := x1'.cell 1 rfl
   have hls := x1'.lt
   have hsz := e2.sizes
   have E1 := Lib.hid e1
   have E2 := Lib.hid e2
   have X1 := Lib.hid x1'
   clear e1 e3 e5 e6 q1 q2 q4 q5 x1 x2
   have hwq : w.heap.size < Bq := by have := HB2.out; omega
   by_cases hm0 : m' = 0
   ·
    subst hm0
    gi_wp2_with fail
    refine AnyJ.beginI (fun w' : World => w'.cell? ⟨Bq, 0, none⟩ = some (.slice ad' 0 cp') ∧ w'.cell? ⟨Bs, 0, none⟩ = some (.int .i64 xf)) (fun _ => true) (by kernel_rfl) (by kernel_rfl) ⟨c8, cs0⟩ (fun hS => ?_)
    refine AnyJ.takeD (i := 0) (d := some 31) (v := ?_) rfl (by kernel_rfl) (by kernel_rfl) (by kernel_rfl) (by kernel_rfl) (by kernel_rfl) (fun _ _ _ h => (by cases h.1)) (Or.inl ⟨by kernel_rfl, ?_⟩) hS ?_
    rotate_left
    ·
     intro w' hS
     obtain ⟨f0, f1⟩ := hS
     go_simp
     try with_reducible rfl
    refine AnyJ.takeD (i := 1) (d := some 32) (v := ?_) rfl (by kernel_rfl) (by kernel_rfl) (by kernel_rfl) (by kernel_rfl) (by kernel_rfl) (fun _ _ _ h => (by cases h.1)) (Or.inl ⟨by kernel_rfl, ?_⟩) hS ?_
    rotate_left
    ·
     intro w' hS
     obtain ⟨f0, f1⟩ := hS
     go_simp
     try with_reducible rfl
    refine AnyJ.takeD (i := 2) (d := some 33) (v := ?_) rfl (by kernel_rfl) (by kernel_rfl) (by kernel_rfl) (by kernel_rfl) (by kernel_rfl) (fun _ _ _ h => (by cases h.1)) (Or.inl ⟨by kernel_rfl, ?_⟩) hS ?_
    rotate_left
    ·
     intro w' hS
     obtain ⟨f0, f1⟩ := hS
     go_simp
     try with_reducible rfl
    refine AnyJ.takeD (i := 3) (d := some 34) (v := undef) rfl (by kernel_rfl) (by kernel_rfl) (by kernel_rfl) (by kernel_rfl) (by kernel_rfl) (fun _ _ _ h => (by cases h.1)) (Or.inr ⟨by kernel_rfl, rfl⟩) hS ?_
    refine AnyJ.takeD (i := 4) (d := some 35) (v := undef) rfl (by kernel_rfl) (by kernel_rfl) (by kernel_rfl) (by kernel_rfl) (by kernel_rfl) (fun _ _ _ h => (by cases h.1)) (Or.inr ⟨by kernel_rfl, rfl⟩) hS ?_
    refine AnyJ.takeD (i := 5) (d := some 36) (v := undef) rfl (by kernel_rfl) (by kernel_rfl) (by kernel_rfl) (by kernel_rfl) (by kernel_rfl) (fun _ _ _ h => (by cases h.1)) (Or.inr ⟨by kernel_rfl, rfl⟩) hS ?_
    refine AnyJ.takeD (i := 6) (d := some 37) (v := undef) rfl (by kernel_rfl) (by kernel_rfl) (by kernel_rfl) (by kernel_rfl) (by kernel_rfl) (fun _ _ _ h => (by cases h.1)) (Or.inr ⟨by kernel_rfl, rfl⟩) hS ?_
    refine AnyJ.takeD (i := 7) (d := some 38) (v := undef) rfl (by kernel_rfl) (by kernel_rfl) (by kernel_rfl) (by kernel_rfl) (by kernel_rfl) (fun _ _ _ h => (by cases h.1)) (Or.inr ⟨by kernel_rfl, rfl⟩) hS ?_
    refine AnyJ.takeD (i := 8) (d := some 39) (v := undef) rfl (by kernel_rfl) (by kernel_rfl) (by kernel_rfl) (by kernel_rfl) (by kernel_rfl) (fun _ _ _ h => (by cases h.1)) (Or.inr ⟨by kernel_rfl, rfl⟩) hS ?_
    refine AnyJ.takeD (i := 9) (d := some 40) (v := undef) rfl (by kernel_rfl) (by kernel_rfl) (by kernel_rfl) (by kernel_rfl) (by kernel_rfl) (fun _ _ _ h => (by cases h.1)) (Or.inr ⟨by kernel_rfl, rfl⟩) hS ?_
    refine AnyJ.takeD (i := 10) (d := some 41) (v := undef) rfl (by kernel_rfl) (by kernel_rfl) (by kernel_rfl) (by kernel_rfl) (by kernel_rfl) (fun _ _ _ h => (by cases h.1)) (Or.inr ⟨by kernel_rfl, rfl⟩) hS ?_
    refine AnyJ.takeD (i := 11) (d := some 42) (v := undef) rfl (by kernel_rfl) (by kernel_rfl) (by kernel_rfl) (by kernel_rfl) (by kernel_rfl) (fun _ _ _ h => (by cases h.1)) (Or.inr ⟨by kernel_rfl, rfl⟩) hS ?_
    refine AnyJ.takeD (i := 12) (d := some 43) (v := ?_) rfl (by kernel_rfl) (by kernel_rfl) (by kernel_rfl) (by kernel_rfl) (by kernel_rfl) (fun _ _ _ h => (by cases h.1)) (Or.inl ⟨by kernel_rfl, ?_⟩) hS ?_
    rotate_left
    ·
     intro w' hS
     obtain ⟨f0, f1⟩ := hS
     go_simp
     try with_reducible rfl
    refine AnyJ.done (by kernel_rfl) ⟨rfl, ?_⟩ _
    try simp only [Act.put, List.setIfInBounds_toArray, List.set_cons_zero, List.set_cons_succ]
    obtain ⟨W3, hW3⟩ : ∃ W3, W2.drew = W3 := ⟨_, rfl⟩
    have hC3 : Ch (fun k => ownS Bq base W k ∨ W.heap.size ≤ k) W W3 := by rw [← hW3]; exact (Ch.ofB HB2.out).drew
    have O3 : OwnG spE 83 W3 base (.slice ad' 0 cp') L' := by rw [← hW3]; exact E2.out
    have R3 : RowT W3 Bq 40 [.slice ad' 0 cp'] := by rw [← hW3]; exact E1.out
    have S3 : Row W3 Bs [.int .i64 xf, .int .i64 xu] := by rw [← hW3]; exact X1.out
    have c8 := R3.row.cell 0 rfl
    have hlq := R3.row.lt
    have cs0 := S3.cell 0 rfl
    have cs1 := S3.cell 1 rfl
    have hls := S3.lt
    have HC3 := Lib.hid hC3
    have H3 := Lib.hid O3
    have HR3 := Lib.hid R3
    have hbs3 := hC3.size
    rw [hW3]
    clear hC3 O3 R3 S3 hW3
    gi_wp2_with (
     gi_at_builtin
     refine wpListIn_append_G spI rfl _ _ _ rfl Tryz.underlying40 base (l := L') rfl (H3.out.alloc _) (m := 1) (c := 1) (ys := [(xf, xu)]) rfl (SlG.row (rest := []) (Row.new' _ [.int .i64 xf, .int .i64 xu] _ (by simp)) rfl) (by rw [hsz.1]; omega) (by rw [hsz.1]; omega) (by simp; omega) ?_
     intro v' w5 hown1 hg1 hor1
     obtain ⟨ad5, cp5, rfl, ho5, _⟩ := hown1.shape (n := 0 + 1) (by rw [List.length_append, hsz.1]; rfl)
     have hC5 : Ch (fun k => ownS Bq base W k ∨ W.heap.size ≤ k) W w5 := (HC3.out.alloc _).trans ((Ch.of_grown (o := fun k => (Value.slice ad' 0 cp').ownBlock = some k) hg1 (fun k e => e)).mono (fun k _ h => comb_blk HB2.out E2.out k h))
     have hnq : (Value.slice ad' 0 cp').ownBlock ≠ some Bq := fun e => by have := (E2.out.lt e).1; omega
     have hnq5 : (Value.slice ad5 (0 + 1) cp5).ownBlock ≠ some Bq := fun e => by have := (ho5.lt e).1; omega
     have R5 : RowT w5 Bq 40 [.slice ad' 0 cp'] := (hg1.block Bq (by simp; omega) (fun e => hnq e.symm)).trans ((Below.heap_alloc _ _ _ hlq).trans HR3.out)
     have c85 := R5.row.cell 0 rfl
     have z85 := R5.row.frozen 0
     have hl5 := R5.row.lt
     have HC5 := Lib.hid hC5
     have HO5 := Lib.hid ho5
     have HR5 := Lib.hid R5
     clear hC5 ho5 R5 hown1 hg1 hor1 c8 cs0 cs1)
    have hfin := comb_fin (x := (xf, xu, y0, y1)) hwb' hwb (show w.heap.size ≠ Bq by omega) (by omega) HI0.out (HC5.out.setCell (p := ⟨Bq, 0, none⟩) (Or.inl (Or.inl rfl)) (.slice ad5 (0 + 1) cp5)) (HR5.out.set 0 (.slice ad5 (0 + 1) cp5)) (HO5.out.ch (Ch.setCell (o := fun k => k = Bq) (Ch.refl _ w5) (p := ⟨Bq, 0, none⟩) rfl _) (fun g e h => hnq5 (by rw [e, h]))) (by omega) (by omega) HWY.out
    exact hfin
   ·
    obtain ⟨k, rfl⟩ : ∃ k, m' = k + 1 := ⟨m' - 1, by omega⟩
    obtain ⟨g, rfl, hgb, hgl⟩ := E2.out.ad (by omega)
    obtain ⟨lf, lu, b0, off, hlx, hba, hlb, y0', y1'⟩ := slS_get E2.out.sl (show k < k + 1 by omega)
    cases hba
    rw [Nat.zero_add] at y0' y1'
    have hk4 : k < 4000 := by omega
    cases hq : (lu == xf) with
    | false =>
     gi_wp2_with fail
     refine AnyJ.beginI (fun w' : World => w'.cell? ⟨Bq, 0, none⟩ = some (.slice (some ⟨g, 0, none⟩) (k + 1) cp') ∧ w'.cell? ⟨Bs, 0, none⟩ = some (.int .i64 xf) ∧ w'.cell? ⟨g, k * 2 + 1, none⟩ = some (.int .i64 lu)) (fun _ => true) (by kernel_rfl) (by kernel_rfl) ⟨c8, cs0, y1'⟩ (fun hS => ?_)
     refine AnyJ.takeD (i := 0) (d := some 31) (v := ?_) rfl (by kernel_rfl) (by kernel_rfl) (by kernel_rfl) (by kernel_rfl) (by kernel_rfl) (fun _ _ _ h => (by cases h.1)) (Or.inl ⟨by kernel_rfl, ?_⟩) hS ?_
     rotate_left
     ·
      intro w' hS
      obtain ⟨f0, f1, f2⟩ := hS
      go_simp
      try with_reducible rfl
     refine AnyJ.takeD (i := 1) (d := some 32) (v := .bool true) rfl (by kernel_rfl) (by kernel_rfl) (by kernel_rfl) (by kernel_rfl) (by kernel_rfl) (fun _ _ _ h => (by cases h.1)) (Or.inl ⟨by kernel_rfl, ?_⟩) hS ?_
     ·
      intro w' hS
      obtain ⟨f0, f1, f2⟩ := hS
      go_simp
      try (first | exact IntWalk.i64_in _ (by omega) | exact fun h => (by omega) | omega)
     refine AnyJ.takeD (i := 2) (d := some 33) (v := ?_) rfl (by kernel_rfl) (by kernel_rfl) (by kernel_rfl) (by kernel_rfl) (by kernel_rfl) (fun _ _ _ h => (by cases h.1)) (Or.inl ⟨by kernel_rfl, ?_⟩) hS ?_
     rotate_left
     ·
      intro w' hS
      obtain ⟨f0, f1, f2⟩ := hS
      go_simp
      try with_reducible rfl
     refine AnyJ.takeD (i := 3) (d := some 34) (v := ?_) rfl (by kernel_rfl) (by kernel_rfl) (by kernel_rfl) (by kernel_rfl) (by kernel_rfl) (fun _ _ _ h => (by cases h.1)) (Or.inl ⟨by kernel_rfl, ?_⟩) hS ?_
     rotate_left
     ·
      intro w' hS
      obtain ⟨f0, f1, f2⟩ := hS
      go_simp
      try with_reducible rfl
     refine AnyJ.takeD (i := 4) (d := some 35) (v := ?_) rfl (by kernel_rfl) (by kernel_rfl) (by kernel_rfl) (by kernel_rfl) (by kernel_rfl) (fun _ _ _ h => (by cases h.1)) (Or.inl ⟨by kernel_rfl, ?_⟩) hS ?_
     rotate_left
     ·
      intro w' hS
      obtain ⟨f0, f1, f2⟩ := hS
      go_simp
      try with_reducible rfl
     refine AnyJ.takeD (i := 5) (d := some 36) (v := .int .i64 (k : Int)) rfl (by kernel_rfl) (by kernel_rfl) (by kernel_rfl) (by kernel_rfl) (by kernel_rfl) (fun _ _ _ h => (by cases h.1)) (Or.inl ⟨by kernel_rfl, ?_⟩) hS ?_
     ·
      intro w' hS
      obtain ⟨f0, f1, f2⟩ := hS
      go_simp
      try (first | exact IntWalk.i64_in _ (by omega) | exact fun h => (by omega) | omega)
     refine AnyJ.takeD (i := 6) (d := some 37) (v := .pointer (some ⟨g, k * 2, none⟩)) rfl (by kernel_rfl) (by kernel_rfl) (by kernel_rfl) (by kernel_rfl) (by kernel_rfl) (fun _ _ _ h => (by cases h.1)) (Or.inl ⟨by kernel_rfl, ?_⟩) hS ?_
     ·
      intro w' hS
      obtain ⟨f0, f1, f2⟩ := hS
      go_simp
      try (first | exact IntWalk.i64_in _ (by omega) | exact fun h => (by omega) | omega)
     refine AnyJ.takeD (i := 7) (d := some 38) (v := ?_) rfl (by kernel_rfl) (by kernel_rfl) (by kernel_rfl) (by kernel_rfl) (by kernel_rfl) (fun _ _ _ h => (by cases h.1)) (Or.inl ⟨by kernel_rfl, ?_⟩) hS ?_
     rotate_left
     ·
      intro w' hS
      obtain ⟨f0, f1, f2⟩ := hS
      go_simp
      try with_reducible rfl
     refine AnyJ.takeD (i := 8) (d := some 39) (v := ?_) rfl (by kernel_rfl) (by kernel_rfl) (by kernel_rfl) (by kernel_rfl) (by kernel_rfl) (fun _ _ _ h => (by cases h.1)) (Or.inl ⟨by kernel_rfl, ?_⟩) hS ?_
     rotate_left
     ·
      intro w' hS
      obtain ⟨f0, f1, f2⟩ := hS
      go_simp
      try with_reducible rfl
     refine AnyJ.takeD (i := 9) (d := some 40) (v := ?_) rfl (by kernel_rfl) (by kernel_rfl) (by kernel_rfl) (by kernel_rfl) (by kernel_rfl) (fun _ _ _ h => (by cases h.1)) (Or.inl ⟨by kernel_rfl, ?_⟩) hS ?_
     rotate_left
     ·
      intro w' hS
      obtain ⟨f0, f1, f2⟩ := hS
      go_simp
      try with_reducible rfl
     refine AnyJ.takeD (i := 10) (d := some 41) (v := ?_) rfl (by kernel_rfl) (by kernel_rfl) (by kernel_rfl) (by kernel_rfl) (by kernel_rfl) (fun _ _ _ h => (by cases h.1)) (Or.inl ⟨by kernel_rfl, ?_⟩) hS ?_
     rotate_left
     ·
      intro w' hS
      obtain ⟨f0, f1, f2⟩ := hS
      go_simp
      try with_reducible rfl
     refine AnyJ.takeD (i := 11) (d := some 42) (v := .bool false) rfl (by kernel_rfl) (by kernel_rfl) (by kernel_rfl) (by kernel_rfl) (by kernel_rfl) (fun _ _ _ h => (by cases h.1)) (Or.inl ⟨by kernel_rfl, ?_⟩) hS ?_
     ·
      intro w' hS
      obtain ⟨f0, f1, f2⟩ := hS
      go_simp
      try (first | rw [hq] | simp [hq])
     refine AnyJ.takeD (i := 12) (d := some 43) (v := ?_) rfl (by kernel_rfl) (by kernel_rfl) (by kernel_rfl) (by kernel_rfl) (by kernel_rfl) (fun _ _ _ h => (by cases h.1)) (Or.inl ⟨by kernel_rfl, ?_⟩) hS ?_
     rotate_left
     ·
      intro w' hS
      obtain ⟨f0, f1, f2⟩ := hS
      go_simp
      try with_reducible rfl
     refine AnyJ.done (by kernel_rfl) ⟨rfl, ?_⟩ _
     try simp only [Act.put, List.setIfInBounds_toArray, List.set_cons_zero, List.set_cons_succ]
     obtain ⟨W3, hW3⟩ : ∃ W3, W2.drew = W3 := ⟨_, rfl⟩
     have hC3 : Ch (fun k => ownS Bq base W k ∨ W.heap.size ≤ k) W W3 := by rw [← hW3]; exact (Ch.ofB HB2.out).drew
     have O3 : OwnG spE 83 W3 base (.slice (some ⟨g, 0, none⟩) (k + 1) cp') L' := by rw [← hW3]; exact E2.out
     have R3 : RowT W3 Bq 40 [.slice (some ⟨g, 0, none⟩) (k + 1) cp'] := by rw [← hW3]; exact E1.out
     have S3 : Row W3 Bs [.int .i64 xf, .int .i64 xu] := by rw [← hW3]; exact X1.out
     have c8 := R3.row.cell 0 rfl
     have hlq := R3.row.lt
     have cs0 := S3.cell 0 rfl
     have cs1 := S3.cell 1 rfl
     have hls := S3.lt
     have HC3 := Lib.hid hC3
     have H3 := Lib.hid O3
     have HR3 := Lib.hid R3
     have hbs3 := hC3.size
     rw [hW3]
     clear hC3 O3 R3 S3 hW3
     gi_wp2_with (
      gi_at_builtin
      refine wpListIn_append_G spI rfl _ _ _ rfl Tryz.underlying40 base (l := L') rfl (H3.out.alloc _) (m := 1) (c := 1) (ys := [(xf, xu)]) rfl (SlG.row (rest := []) (Row.new' _ [.int .i64 xf, .int .i64 xu] _ (by simp)) rfl) (by rw [hsz.1]; omega) (by rw [hsz.1]; omega) (by simp; omega) ?_
      intro v' w5 hown1 hg1 hor1
      obtain ⟨ad5, cp5, rfl, ho5, _⟩ := hown1.shape (n := (k + 1) + 1) (by rw [List.length_append, hsz.1]; rfl)
      have hC5 : Ch (fun k => ownS Bq base W k ∨ W.heap.size ≤ k) W w5 := (HC3.out.alloc _).trans ((Ch.of_grown (o := fun k => (Value.slice (some ⟨g, 0, none⟩) (k + 1) cp').ownBlock = some k) hg1 (fun k e => e)).mono (fun k _ h => comb_blk HB2.out E2.out k h))
      have hnq : (Value.slice (some ⟨g, 0, none⟩) (k + 1) cp').ownBlock ≠ some Bq := fun e => by have := (E2.out.lt e).1; omega
      have hnq5 : (Value.slice ad5 ((k + 1) + 1) cp5).ownBlock ≠ some Bq := fun e => by have := (ho5.lt e).1; omega
      have R5 : RowT w5 Bq 40 [.slice (some ⟨g, 0, none⟩) (k + 1) cp'] := (hg1.block Bq (by simp; omega) (fun e => hnq e.symm)).trans ((Below.heap_alloc _ _ _ hlq).trans HR3.out)
      have c85 := R5.row.cell 0 rfl
      have z85 := R5.row.frozen 0
      have hl5 := R5.row.lt
      have HC5 := Lib.hid hC5
      have HO5 := Lib.hid ho5
      have HR5 := Lib.hid R5
      clear hC5 ho5 R5 hown1 hg1 hor1 c8 cs0 cs1)
     have hfin := comb_fin (x := (xf, xu, y0, y1)) hwb' hwb (show w.heap.size ≠ Bq by omega) (by omega) HI0.out (HC5.out.setCell (p := ⟨Bq, 0, none⟩) (Or.inl (Or.inl rfl)) (.slice ad5 ((k + 1) + 1) cp5)) (HR5.out.set 0 (.slice ad5 ((k + 1) + 1) cp5)) (HO5.out.ch (Ch.setCell (o := fun k => k = Bq) (Ch.refl _ w5) (p := ⟨Bq, 0, none⟩) rfl _) (fun g e h => hnq5 (by rw [e, h]))) (by omega) (by omega) HWY.out
     exact hfin
    | true =>
     gi_wp2_with fail
     refine AnyJ.beginI (fun w' : World => w'.cell? ⟨Bq, 0, none⟩ = some (.slice (some ⟨g, 0, none⟩) (k + 1) cp') ∧ w'.cell? ⟨Bs, 0, none⟩ = some (.int .i64 xf) ∧ w'.cell? ⟨g, k * 2 + 1, none⟩ = some (.int .i64 lu)) (fun _ => true) (by kernel_rfl) (by kernel_rfl) ⟨c8, cs0, y1'⟩ (fun hS => ?_)
     refine AnyJ.takeD (i := 0) (d := some 31) (v := ?_) rfl (by kernel_rfl) (by kernel_rfl) (by kernel_rfl) (by kernel_rfl) (by kernel_rfl) (fun _ _ _ h => (by cases h.1)) (Or.inl ⟨by kernel_rfl, ?_⟩) hS ?_
     rotate_left
     ·
      intro w' hS
      obtain ⟨f0, f1, f2⟩ := hS
      go_simp
      try with_reducible rfl
     refine AnyJ.takeD (i := 1) (d := some 32) (v := .bool true) rfl (by kernel_rfl) (by kernel_rfl) (by kernel_rfl) (by kernel_rfl) (by kernel_rfl) (fun _ _ _ h => (by cases h.1)) (Or.inl ⟨by kernel_rfl, ?_⟩) hS ?_
     ·
      intro w' hS
      obtain ⟨f0, f1, f2⟩ := hS
      go_simp
      try (first | exact IntWalk.i64_in _ (by omega) | exact fun h => (by omega) | omega)
     refine AnyJ.takeD (i := 2) (d := some 33) (v := ?_) rfl (by kernel_rfl) (by kernel_rfl) (by kernel_rfl) (by kernel_rfl) (by kernel_rfl) (fun _ _ _ h => (by cases h.1)) (Or.inl ⟨by kernel_rfl, ?_⟩) hS ?_
     rotate_left
     ·
      intro w' hS
      obtain ⟨f0, f1, f2⟩ := hS
      go_simp
      try with_reducible rfl
     refine AnyJ.takeD (i := 3) (d := some 34) (v := ?_) rfl (by kernel_rfl) (by kernel_rfl) (by kernel_rfl) (by kernel_rfl) (by kernel_rfl) (fun _ _ _ h => (by cases h.1)) (Or.inl ⟨by kernel_rfl, ?_⟩) hS ?_
     rotate_left
     ·
      intro w' hS
      obtain ⟨f0, f1, f2⟩ := hS
      go_simp
      try with_reducible rfl
     refine AnyJ.takeD (i := 4) (d := some 35) (v := ?_) rfl (by kernel_rfl) (by kernel_rfl) (by kernel_rfl) (by kernel_rfl) (by kernel_rfl) (fun _ _ _ h => (by cases h.1)) (Or.inl ⟨by kernel_rfl, ?_⟩) hS ?_
     rotate_left
     ·
      intro w' hS
      obtain ⟨f0, f1, f2⟩ := hS
      go_simp
      try with_reducible rfl
     refine AnyJ.takeD (i := 5) (d := some 36) (v := .int .i64 (k : Int)) rfl (by kernel_rfl) (by kernel_rfl) (by kernel_rfl) (by kernel_rfl) (by kernel_rfl) (fun _ _ _ h => (by cases h.1)) (Or.inl ⟨by kernel_rfl, ?_⟩) hS ?_
     ·
      intro w' hS
      obtain ⟨f0, f1, f2⟩ := hS
      go_simp
      try (first | exact IntWalk.i64_in _ (by omega) | exact fun h => (by omega) | omega)
     refine AnyJ.takeD (i := 6) (d := some 37) (v := .pointer (some ⟨g, k * 2, none⟩)) rfl (by kernel_rfl) (by kernel_rfl) (by kernel_rfl) (by kernel_rfl) (by kernel_rfl) (fun _ _ _ h => (by cases h.1)) (Or.inl ⟨by kernel_rfl, ?_⟩) hS ?_
     ·
      intro w' hS
      obtain ⟨f0, f1, f2⟩ := hS
      go_simp
      try (first | exact IntWalk.i64_in _ (by omega) | exact fun h => (by omega) | omega)
     refine AnyJ.takeD (i := 7) (d := some 38) (v := ?_) rfl (by kernel_rfl) (by kernel_rfl) (by kernel_rfl) (by kernel_rfl) (by kernel_rfl) (fun _ _ _ h => (by cases h.1)) (Or.inl ⟨by kernel_rfl, ?_⟩) hS ?_
     rotate_left
     ·
      intro w' hS
      obtain ⟨f0, f1, f2⟩ := hS
      go_simp
      try with_reducible rfl
     refine AnyJ.takeD (i := 8) (d := some 39) (v := ?_) rfl (by kernel_rfl) (by kernel_rfl) (by kernel_rfl) (by kernel_rfl) (by kernel_rfl) (fun _ _ _ h => (by cases h.1)) (Or.inl ⟨by kernel_rfl, ?_⟩) hS ?_
     rotate_left
     ·
      intro w' hS
      obtain ⟨f0, f1, f2⟩ := hS
      go_simp
      try with_reducible rfl
     refine AnyJ.takeD (i := 9) (d := some 40) (v := ?_) rfl (by kernel_rfl) (by kernel_rfl) (by kernel_rfl) (by kernel_rfl) (by kernel_rfl) (fun _ _ _ h => (by cases h.1)) (Or.inl ⟨by kernel_rfl, ?_⟩) hS ?_
     rotate_left
     ·
      intro w' hS
      obtain ⟨f0, f1, f2⟩ := hS
      go_simp
      try with_reducible rfl
     refine AnyJ.takeD (i := 10) (d := some 41) (v := ?_) rfl (by kernel_rfl) (by kernel_rfl) (by kernel_rfl) (by kernel_rfl) (by kernel_rfl) (fun _ _ _ h => (by cases h.1)) (Or.inl ⟨by kernel_rfl, ?_⟩) hS ?_
     rotate_left
     ·
      intro w' hS
      obtain ⟨f0, f1, f2⟩ := hS
      go_simp
      try with_reducible rfl
     refine AnyJ.takeD (i := 11) (d := some 42) (v := .bool true) rfl (by kernel_rfl) (by kernel_rfl) (by kernel_rfl) (by kernel_rfl) (by kernel_rfl) (fun _ _ _ h => (by cases h.1)) (Or.inl ⟨by kernel_rfl, ?_⟩) hS ?_
     ·
      intro w' hS
      obtain ⟨f0, f1, f2⟩ := hS
      go_simp
      try (first | rw [hq] | simp [hq])
     refine AnyJ.takeD (i := 12) (d := some 43) (v := ?_) rfl (by kernel_rfl) (by kernel_rfl) (by kernel_rfl) (by kernel_rfl) (by kernel_rfl) (fun _ _ _ h => (by cases h.1)) (Or.inl ⟨by kernel_rfl, ?_⟩) hS ?_
     rotate_left
     ·
      intro w' hS
      obtain ⟨f0, f1, f2⟩ := hS
      go_simp
      try with_reducible rfl
     refine AnyJ.done (by kernel_rfl) ⟨rfl, ?_⟩ _
     try simp only [Act.put, List.setIfInBounds_toArray, List.set_cons_zero, List.set_cons_succ]
     obtain ⟨W3, hW3⟩ : ∃ W3, W2.drew = W3 := ⟨_, rfl⟩
     have hC3 : Ch (fun k => ownS Bq base W k ∨ W.heap.size ≤ k) W W3 := by rw [← hW3]; exact (Ch.ofB HB2.out).drew
     have O3 : OwnG spE 83 W3 base (.slice (some ⟨g, 0, none⟩) (k + 1) cp') L' := by rw [← hW3]; exact E2.out
     have R3 : RowT W3 Bq 40 [.slice (some ⟨g, 0, none⟩) (k + 1) cp'] := by rw [← hW3]; exact E1.out
     have S3 : Row W3 Bs [.int .i64 xf, .int .i64 xu] := by rw [← hW3]; exact X1.out
     have c8 := R3.row.cell 0 rfl
     have hlq := R3.row.lt
     have cs0 := S3.cell 0 rfl
     have cs1 := S3.cell 1 rfl
     have hls := S3.lt
     have y3 : W3.cell? ⟨g, k * 2 + 1, none⟩ = some (.int .i64 lu) := by rw [← hW3]; exact y1'
     have hg3 : g < W3.heap.size := by rw [← hW3]; exact hgl
     obtain ⟨_, _, rst, he3, _, hr3, _⟩ := O3.at (by rw [hsz.1]; omega)
     simp only [Value.slice.injEq, Option.some.injEq, Addr.mk.injEq] at he3
     obtain ⟨⟨rfl, -⟩, -, -⟩ := he3
     have z3 := hr3.frozen (k * 2 + 1)
     have hput := OwnG.put O3 hlx.out (show 1 < spE.k by decide) (.int .i64 xu) (y := (lf, xu)) rfl
     have hgq : g ≠ Bq := by omega
     have hfin := comb_fin (x := (xf, xu, y0, y1)) hwb' hwb (show w.heap.size ≠ Bq by omega) (by omega) HI0.out (hC3.setCell (p := ⟨g, k * 2 + 1, none⟩) (comb_blk HB2.out E2.out g rfl) (.int .i64 xu)) (R3.other (a := ⟨g, k * 2 + 1, none⟩) (fun e => hgq e.symm) _) hput (by omega) (by omega) HWY.out
     have HFIN := Lib.hid hfin
     rw [hW3]
     clear hC3 O3 R3 S3 hW3 hput hfin hr3
     gi_wp2_with fail
     exact HFIN.out
 case done =>
  rintro D xs W hD rfl ⟨ad, m, cp, L, q1, q2, q3, q4, q5, q6, q7⟩ hKd
  have c8 := q1.row.cell 0 rfl
  have HKD := Lib.hid hKd
  have HQ3 := Lib.hid q3
  have HQ6 := Lib.hid q6
  have hgr := grownBy_putObj' W D (.deferred none)
  have HG := Lib.hid (HQ6.out.grown hgr HQ6.out.size (fun k e => by cases e; omega))
  clear hKd q3 q6 hgr
  by_cases hm : m ≤ 1000
  ·
   go_wp2_with fail
   refine ⟨by simp, .inl ⟨_, _, rfl, run_takeDeferred HKD.out, ?_⟩⟩
   refine ⟨.tuple #[.slice ad m cp, .int .i64 0], by simp [results, Tryz.results88, go_sem], _, _, _, _, rfl, ?_, HG.out⟩
   rw [← HQ3.out]
   simp
  ·
   have hm' : (1000 : Int) < m := by omega
   go_wp2_with fail
   refine ⟨by simp, .inl ⟨_, _, rfl, run_takeDeferred HKD.out, ?_⟩⟩
   refine ⟨.tuple #[.slice none 0 0, .int .i64 2], by simp [results, Tryz.results88, go_sem], _, _, _, _, rfl, ?_, HG.out⟩
   rw [← HQ3.out]
   simp
   omega
 case stop =>
  rintro D cx pre Wx hD hpre h hKd
  exact h.elim
end Go.Proofs.YtlmajlfhjbhdpaaGreat
