/-
 slices.AppendSeq, slices.Collect at rooms.
-/
import Derived.Test.YtlmajlfhjbhdpaaGreatZX
import Derived.Test.YtlmajlfhjbhdpaaGreatZI
namespace Go.Proofs.YtlmajlfhjbhdpaaGreat
set_option linter.unusedSimpArgs false
set_option linter.unusedVariables false
open Go.RowKit Go.Shelf
attribute [local go_sem] Oper.semAt_some
/-- What a loop's body may change: where its result lies, and slices of elements of type T. -/
def ownT (T : TypeId) (Bq base : Nat) : World → Nat → Prop := fun A g => g = Bq ∨ ∃ cs fr, A.heap[g]? = some (Obj.cells cs T fr) ∧ base ≤ g
section
variable {T TB : TypeId} {Bq base : Nat} {W Y : World}
theorem ownT_out {cs : List Value} (hq : RowT W Bq TB cs) (hC : Ch (ownT T Bq base W) W Y) : KeepsOthers W Y ∧ KeepsO (ownT T Bq base) W Y := by
 refine ⟨hC.others (fun k hk => ?_), hC.size, fun k cs' T' fr hk hno => hC.2.2.2.2 k (Array.getElem?_eq_some_iff.1 hk).1 hno, fun k hk ho => ?_⟩
 ·
  rcases hk with rfl | ⟨c, fr, h, _⟩
  ·
   exact ⟨_, _, _, hq⟩
  ·
   exact ⟨_, _, _, h⟩
 ·
  by_cases hw : ownT T Bq base W k
  ·
   exact hw
  ·
   rcases ho with h | ⟨c, fr, h, hb⟩
   ·
    exact Or.inl h
   ·
    exact Or.inr ⟨c, fr, (hC.2.2.2.2 k hk hw).symm.trans h, hb⟩
theorem ownT_put {l : Nat} {o o' : Obj} (ho : W.heap[l]? = some o) (hc' : o'.isCells = false) {k : Nat} (hk : ownT T Bq base (W.putObj l o') k) : ownT T Bq base W k := by
 rcases hk with h | ⟨cs, fr, h, hb⟩
 ·
  exact Or.inl h
 ·
  by_cases hkl : l = k
  ·
   subst hkl
   rw [World.putObj_heap_same (Array.getElem?_eq_some_iff.1 ho).1] at h
   cases h
   simp [Obj.isCells] at hc'
  ·
   rw [World.putObj_heap_other (fun e => hkl e.symm)] at h
   exact Or.inr ⟨cs, fr, h, hb⟩
theorem ownT_blk {α : Type} {E : Enc α} (hb : Below W.heap.size W Y) {v : Value} {L : List α} (o : OwnG E T Y base v L) : ∀ k, v.ownBlock = some k → ownT T Bq base W k ∨ W.heap.size ≤ k := fun k hk => by
 by_cases hlt : k < W.heap.size
 ·
  obtain ⟨_, h2⟩ := o
  rcases h2 with ⟨rfl, h2⟩ | ⟨g, cap, cur, rfl, e2, e3, e4⟩
  ·
   simp [Value.ownBlock] at hk
  ·
   simp [Value.ownBlock] at hk
   subst hk
   exact Or.inl (Or.inr ⟨_, _, (hb.block _ hlt).symm.trans e3, e2⟩)
 ·
  exact Or.inr (by omega)
theorem OwnG.abideT {α : Type} {E : Enc α} {v : Value} {L : List α} {b : Nat} (o : OwnG E T W b v L) (ht : KeepT T W Y) : OwnG E T Y b v L := by
 refine ⟨o.1, ?_⟩
 rcases o.2 with h | ⟨g, c, cur, e1, e2, e3, e4⟩
 ·
  exact Or.inl h
 ·
  exact Or.inr ⟨g, c, cur, e1, e2, (ht g _ _ e3).trans e3, e4⟩
end
/-- What the loop of AppendSeq holds. -/
def AppI (w : World) (Bq base : Nat) (pre : List RoomV) (W : World) : Prop := ∃ (ad : Option Addr) (m cp : Nat), m = pre.length ∧ RowT W Bq 22 [.slice ad m cp] ∧ OwnG rmE 42 W base (.slice ad m cp) pre ∧ Below w.heap.size w W ∧ base ≤ W.heap.size
theorem appI_abide {w : World} {Bq base : Nat} (h1 : w.heap.size ≤ base) (h3 : Bq < base) : AbideT 42 base (AppI w Bq base) := by
 rintro pre A C ⟨ad, m, cp, q0, q1, q2, q6, q7⟩ hb ht
 exact ⟨ad, m, cp, q0, q1.below hb h3, q2.abideT ht, q6.trans (hb.mono h1), Nat.le_trans q7 hb.size⟩
theorem app_out {w : World} {Bq base : Nat} {pre : List RoomV} {W Y : World} (hI : AppI w Bq base pre W) (hb : Below W.heap.size W Y) : KeepsOthers W Y ∧ KeepsO (ownT 42 Bq base) W Y := by
 obtain ⟨ad, m, cp, _, q1, _⟩ := hI
 exact ownT_out q1 (Ch.ofB hb)
theorem app_fin {w : World} {Bq base : Nat} {pre : List RoomV} {x : RoomV} {W Y : World} {ad : Option Addr} {m cp : Nat} (hwb : w.heap.size ≤ base) (hwq : w.heap.size ≤ Bq) (hI : AppI w Bq base pre W)
  (hC : Ch (fun k => ownT 42 Bq base W k ∨ W.heap.size ≤ k) W Y) (r : RowT Y Bq 22 [.slice ad m cp]) (o : OwnG rmE 42 Y base (.slice ad m cp) (pre ++ [x])) (hl : m = pre.length + 1) :
  KeepsOthers W Y ∧ KeepsO (ownT 42 Bq base) W Y ∧ AppI w Bq base (pre ++ [x]) Y := by
 obtain ⟨ad1, m1, cp1, q0, q1, q2, q6, q7⟩ := hI
 obtain ⟨k1, k2⟩ := ownT_out q1 (hC.mono (fun k hk h => h.resolve_right (by omega)))
 refine ⟨k1, k2, ad, m, cp, by rw [List.length_append]; exact hl, r, o, hC.below q6 (fun k hk => ?_) q6.size, Nat.le_trans q7 hC.size⟩
 rcases hk with (h | ⟨_, _, _, h⟩) | h
 ·
  omega
 ·
  omega
 ·
  exact Nat.le_trans q6.size h
set_option maxRecDepth 100000 in
set_option maxHeartbeats 6400000 in
theorem appendSeq_any (B1 : Nat) (a : Option Addr) (n cap : Nat) (l : List RoomV) (w : World) (hr : Row w B1 [.slice a n cap]) (hs : SlG rmE w a n l) (hn : n ≤ 1000) :
  Calls Tryz.prog 90 #[.slice none 0 0, .func (.func 79) #[] #[.pointer (some ⟨B1, 0, none⟩)]] w fun e w' => ∃ ad cp, e = .returned (.slice ad n cp) ∧ OwnG rmE 42 w' w.heap.size (.slice ad n cp) l ∧ Below w.heap.size w w' := by
 have HL := Lib.hid hs.1
 have hlt := hr.lt
 obtain ⟨base, hbase⟩ : ∃ base, w.heap.size + 1 = base := ⟨_, rfl⟩
 obtain ⟨Bq, hBq⟩ : ∃ Bq, w.heap.size = Bq := ⟨_, rfl⟩
 have hsb : (w.alloc (.cells #[.slice none 0 0] 22)).heap.size = base := by simp [hbase]
 have HB4 : Below w.heap.size w (w.alloc (.cells #[.slice none 0 0] 22)) := by (repeat' (first | (with_reducible first | exact Below.refl _ _ | assumption | exact Bw.out (by assumption) | refine bw_alloc ?_ _ | refine bw_step ?_ (by assumption) | refine Below.alloc ?_ ?_ _ | refine Below.drew ?_ | refine below_drewN ?_ _ | refine Below.setCell ?_ ?_ _ | refine below_step ?_ (by assumption) ?_ | exact Nat.le_refl _) | omega | (simp; omega) | (simp; done)))
 have hst := values_stops (ownT 42 Bq base) 5 (by omega) B1 a n cap l (w.alloc (.cells #[.slice none 0 0] 22)) (hr.step HB4) (hs.step HB4) hn (fun A g hg ho => by
  have hgl : g < w.heap.size := by
   rcases hg with rfl | ⟨off, rfl, h0⟩
   ·
    exact hlt
   ·
    obtain ⟨b, o, e, hb⟩ := hs.ad h0
    cases e
    exact hb
  rcases ho with ho | ⟨cs', fr', ho, h⟩ <;> omega)
 have R8 : RowT (w.alloc (.cells #[.slice none 0 0] 22)) Bq 22 [.slice none 0 0] := by rw [← hBq]; exact RowT.new _ _ _
 have HST := Lib.hid hst
 clear hst hr hs
 refine calls_of_wp_marks Tryz.func90 rfl ?_
 simp only [Tryz.ntmps90, List.size_toArray, List.length_cons, List.length_nil, Nat.reduceAdd, Nat.reduceSub, Array.replicate_succ, Array.replicate_zero, List.push_toArray, List.append_toArray, List.nil_append, List.cons_append]
 go_wp2_with fail
 obtain ⟨w4, hw4⟩ : ∃ w4, w.alloc (.cells #[.slice none 0 0] 22) = w4 := ⟨_, rfl⟩
 rw [hw4] at HST R8 HB4 hsb ⊢
 clear hw4
 refine (wpIn_wide (n := 6)).1 ?_
 have hwb : w.heap.size ≤ base := by omega
 have hqb : Bq < base := by omega
 have hwq : w.heap.size ≤ Bq := by omega
 refine range_ownX (T := 42) (w0 := w4) (α := RoomV) rfl (by omega) rfl trivial (enters_of Tryz.func79 (by kernel_rfl) rfl) HST.out (fun h k => h.trans k)
  (fun Wx l o o' hl ho hc hwk hc' => KeepsO.putObj o' ho hc (fun k hk => ownT_put ho hc' hk))
  (Below.refl _ _) (fun _ => rfl)
  (AppI w Bq base) (fun cx pre wr => False)
  (by rw [hsb]; exact appI_abide hwb hqb) (fun cx s W l o o' _ _ _ h => h)
  ⟨none, 0, 0, rfl, R8, OwnG.nil _ _ _ _, HB4, by omega⟩
  (fun x a' W => ∃ Bs : Nat, base ≤ Bs ∧ Row W Bs [.int .i64 x.id, .int .i64 x.ho, .int .i64 x.kd, .int .i64 x.jn, .bool x.ac, .slice x.ba x.bl.length x.bc] ∧ a' = { tmps := #[.slice none 0 0, .func (.func 79) #[] #[.pointer (some ⟨B1, 0, none⟩)], .pointer (some ⟨Bq, 0, none⟩), undef, .slice none 0 0, .pointer (some ⟨Bs, 0, none⟩), .func (.func 79) #[] #[.pointer (some ⟨B1, 0, none⟩)], .agg #[.int .i64 x.id, .int .i64 x.ho, .int .i64 x.kd, .int .i64 x.jn, .bool x.ac, .slice x.ba x.bl.length x.bc], undef, undef, undef, undef, undef], defers := [] })
  (fun x a' W l o o' hl ho hc h => by
   obtain ⟨Bs, e1, r1, e⟩ := h
   exact ⟨Bs, e1, r1.putObj ho hc, e⟩) ?assign ?body ?done ?stop
 case assign =>
  rintro lx pre x W K hI hK
  gi_wp2
  have hal : Below W.heap.size W (W.alloc (.cells #[.int .i64 x.id, .int .i64 x.ho, .int .i64 x.kd, .int .i64 x.jn, .bool x.ac, .slice x.ba x.bl.length x.bc] 42)) := (Below.refl _ W).alloc (Nat.le_refl _) _
  obtain ⟨k1, k2⟩ := app_out hI hal
  have hI7 := hI.choose_spec.choose_spec.choose_spec.2.2.2.2
  exact hK _ _ k1 k2 (appI_abide hwb hqb _ _ _ hI (hal.mono hI7) (KeepT.of_below hal)) ⟨W.heap.size, hI7, Row.new' _ _ _ rfl, rfl⟩
 case body =>
  rintro lx pre x a' W ⟨ad, m, cp, q0, q1, q2, q6, q7⟩ ⟨Bs, hBs, x1, rfl⟩ hsp hpl
  have HI0 : Hid (AppI w Bq base pre W) := ⟨ad, m, cp, q0, q1, q2, q6, q7⟩
  have cs0 := x1.cell 0 rfl
  have cs1 := x1.cell 1 rfl
  have cs2 := x1.cell 2 rfl
  have cs3 := x1.cell 3 rfl
  have cs4 := x1.cell 4 rfl
  have cs5 := x1.cell 5 rfl
  have hls := x1.lt
  have c8 := q1.row.cell 0 rfl
  have z8 := q1.row.frozen 0
  have hlq := q1.row.lt
  have Q0 := Lib.hid q0
  have hm1000 : m ≤ 1000 := by omega
  have H3 := Lib.hid q2
  have HQ1 := Lib.hid q1
  clear q0 q2 q6
  gi_wp2_with (
   gi_at_builtin
   refine wpListIn_append_G rmI rfl _ _ _ rfl Tryz.underlying22 base (l := pre) rfl (H3.out.alloc _) (m := 1) (c := 1) (ys := [x]) rfl (SlG.row (rest := []) (Row.new' _ [.int .i64 x.id, .int .i64 x.ho, .int .i64 x.kd, .int .i64 x.jn, .bool x.ac, .slice x.ba x.bl.length x.bc] _ (by simp)) rfl) (by rw [← Q0.out]; omega) (by rw [← Q0.out]; omega) (by simp; omega) ?_
   intro v' w5 hown1 hg1 hor1
   obtain ⟨ad5, cp5, rfl, ho5, _⟩ := hown1.shape (n := m + 1) (by rw [List.length_append, ← Q0.out]; rfl)
   have hC5 : Ch (fun k => ownT 42 Bq base W k ∨ W.heap.size ≤ k) W w5 := ((Ch.refl _ W).alloc _).trans ((Ch.of_grown (o := fun k => (Value.slice ad m cp).ownBlock = some k) hg1 (fun k e => e)).mono (fun k _ h => ownT_blk (Below.refl _ W) H3.out k h))
   have hnq : (Value.slice ad m cp).ownBlock ≠ some Bq := fun e => by have := (H3.out.lt e).1; omega
   have hnq5 : (Value.slice ad5 (m + 1) cp5).ownBlock ≠ some Bq := fun e => by have := (ho5.lt e).1; omega
   have R5 : RowT w5 Bq 22 [.slice ad m cp] := (hg1.block Bq (by simp; omega) (fun e => hnq e.symm)).trans ((Below.heap_alloc _ _ _ hlq).trans HQ1.out)
   have c85 := R5.row.cell 0 rfl
   have z85 := R5.row.frozen 0
   have hl5 := R5.row.lt
   have HC5 := Lib.hid hC5
   have HO5 := Lib.hid ho5
   have HR5 := Lib.hid R5
   clear hC5 ho5 R5 hown1 hg1 hor1 c8 z8 cs0 cs1 cs2 cs3 cs4 cs5)
  exact app_fin (x := x) hwb hwq HI0.out (HC5.out.setCell (p := ⟨Bq, 0, none⟩) (Or.inl (Or.inl rfl)) (.slice ad5 (m + 1) cp5)) (HR5.out.set 0 (.slice ad5 (m + 1) cp5)) (HO5.out.ch (Ch.setCell (o := fun k => k = Bq) (Ch.refl _ w5) (p := ⟨Bq, 0, none⟩) rfl _) (fun g e h => hnq5 (by rw [e, h]))) (by rw [Q0.out])
 case done =>
  rintro D xs W hD rfl ⟨ad, m, cp, q0, q1, q2, q6, q7⟩ hKd
  have hmn : m = n := by rw [q0]; exact HL.out
  subst hmn
  have c8 := q1.row.cell 0 rfl
  have HKD := Lib.hid hKd
  have hgr := grownBy_putObj' W D (.deferred none)
  have HG := Lib.hid (q6.grown hgr q6.size (fun k e => by cases e; omega))
  have HO := Lib.hid (OwnG.mono (q2.keepsO (KeepsO.putObj (own := fun _ _ => False) (.deferred none) hKd rfl (fun _ h => h)) (fun _ _ _ _ _ h => h)) hwb)
  clear hKd q0 q2 q6 hgr
  go_wp2_with fail
  refine ⟨by simp, .inl ⟨_, _, rfl, run_takeDeferred HKD.out, ?_⟩⟩
  exact ⟨.slice ad m cp, by simp [results, Tryz.results90, go_sem], _, _, rfl, HO.out, HG.out⟩
 case stop =>
  rintro D cx pre Wx hD hpre h hKd
  exact h.elim
end Go.Proofs.YtlmajlfhjbhdpaaGreat
