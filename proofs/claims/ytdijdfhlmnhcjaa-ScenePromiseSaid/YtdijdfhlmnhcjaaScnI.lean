/-
  Package scene, ninth part: slices of sales that a call makes; Sales.
-/
import Derived.Test.YtdijdfhlmnhcjaaScnH
import Derived.Test.YtdijdfhlmnhcjaaScnF
import Derived.Maps.AppendAt
namespace Go.Proofs.Ytdijdfhlmnhcjaa
set_option linter.unusedSimpArgs false
set_option linter.unusedVariables false
open Go.RowKit Go.MapKept

attribute [local go_sem] Oper.semAt_some

theorem info_sale : (Try.prog.info? 44).map (fun i => (i.zero, i.size, i.bytes)) = some (some (.agg #[.int .i64 0, .int .i64 0, .int .i64 0, .bool false, .int .i64 0, .int .i64 0, .int .i64 0, .int .i64 0]), 8, 64) := by kernel_rfl
def salesCells : List SaleV → List Value
  | [] => []
  | x :: r => saleCells x ++ salesCells r
theorem salesCells_length : ∀ l : List SaleV, (salesCells l).length = l.length * 8
  | [] => rfl
  | x :: r => by
    have := salesCells_length r
    simp only [salesCells, saleCells, List.length_append, List.length_cons, List.length_nil, this]
    omega
theorem salesCells_append : ∀ l m : List SaleV, salesCells (l ++ m) = salesCells l ++ salesCells m
  | [], m => rfl
  | x :: r, m => by
    have := salesCells_append r m
    simp only [salesCells, List.cons_append, this, List.append_assoc]
theorem salesCells_at : ∀ (l : List SaleV) (i : Nat) (x : SaleV), l[i]? = some x → ∀ j v, (saleCells x)[j]? = some v → (salesCells l)[i * 8 + j]? = some v
  | [], i, x, h, j, v, hj => by simp at h
  | y :: r, 0, x, h, j, v, hj => by
    simp at h
    subst h
    have hl : j < (saleCells y).length := (List.getElem?_eq_some_iff.1 hj).1
    simp only [salesCells, Nat.zero_mul, Nat.zero_add]
    rw [List.getElem?_append_left hl]; exact hj
  | y :: r, i + 1, x, h, j, v, hj => by
    have ih := salesCells_at r i x (by simpa using h) j v hj
    have hl : (saleCells y).length = 8 := rfl
    simp only [salesCells]
    rw [List.getElem?_append_right (by omega), hl, show (i + 1) * 8 + j - 8 = i * 8 + j by omega]
    exact ih
theorem salesCells_one {l : List SaleV} {u : Value} (h : u ∈ salesCells l) : u.oneCell' = true := by
  induction l with
  | nil => simp [salesCells] at h
  | cons x r ih =>
    simp only [salesCells, List.mem_append, saleCells, List.mem_cons, List.not_mem_nil, or_false] at h
    rcases h with (rfl | rfl | rfl | rfl | rfl | rfl | rfl | rfl) | h
    all_goals first | rfl | exact ih h
/-- v is a slice of the call's own (from block base on) that holds the sales l. -/
def OwnX (w : World) (base : Nat) (v : Value) (l : List SaleV) : Prop := w.ownsRow base 44 8 v l.length (salesCells l)
theorem OwnX.nil (w : World) (base : Nat) : OwnX w base (.slice none 0 0) [] := World.ownsRow_nil _ _ _ _
theorem OwnX.alloc {w : World} {base : Nat} {v : Value} {l : List SaleV} (h : OwnX w base v l) (o : Obj) : OwnX (w.alloc o) base v l := World.ownsRow.alloc h o
theorem OwnX.blk {w w1 : World} {base : Nat} {v : Value} {l : List SaleV} (h : OwnX w base v l) (hb : ∀ g, v.ownBlock = some g → w1.heap[g]? = w.heap[g]?) : OwnX w1 base v l := by
  obtain ⟨h1, h2⟩ := h
  refine ⟨h1, ?_⟩
  rcases h2 with h2 | ⟨g, cap, cur, e1, e2, e3, e4⟩
  · exact Or.inl h2
  · exact Or.inr ⟨g, cap, cur, e1, e2, (hb g (by rw [e1]; rfl)).trans e3, e4⟩
theorem OwnX.own {w : World} {base : Nat} {v : Value} {l : List SaleV} (h : OwnX w base v l) {g : Nat} (hg : v.ownBlock = some g) : base ≤ g ∧ g < w.heap.size ∧ ∃ cs T fr, w.heap[g]? = some (.cells cs T fr) := by
  rcases h.2 with ⟨h0, _⟩ | ⟨g', cap, cur, e1, e2, e3, _⟩
  · rw [h0] at hg; cases hg
  · rw [e1] at hg
    simp only [Value.ownBlock, Option.some.injEq] at hg
    subst hg
    exact ⟨e2, (Array.getElem?_eq_some_iff.1 e3).1, _, _, _, e3⟩
theorem OwnX.shape {w : World} {base : Nat} {v : Value} {l : List SaleV} (h : OwnX w base v l) (n : Nat) (hn : l.length = n) : ∃ ad cap, v = .slice ad n cap ∧ OwnX w base (.slice ad n cap) l := by
  subst hn
  obtain ⟨h1, h2⟩ := h
  rcases h2 with ⟨rfl, h2⟩ | ⟨g, cap, cur, rfl, e2⟩
  · refine ⟨none, 0, by rw [h2], h1, Or.inl ⟨by rw [h2], h2⟩⟩
  · exact ⟨_, cap, rfl, h1, Or.inr ⟨g, cap, cur, rfl, e2⟩⟩
theorem OwnX.sl {w : World} {base : Nat} {ad : Option Addr} {n cap : Nat} {l : List SaleV} (h : OwnX w base (.slice ad n cap) l) : SlS w ad n l ∧ n ≤ cap ∧ cap ≤ maxLen := by
  obtain ⟨h1, h2⟩ := h
  rcases h2 with ⟨h0, h2⟩ | ⟨g, cap', cur, e1, e2, e3, e4, e5, e6, e7⟩
  · simp only [Value.slice.injEq] at h0
    obtain ⟨rfl, rfl, rfl⟩ := h0
    have : l = [] := List.eq_nil_of_length_eq_zero h2
    subst this
    exact ⟨SlS.nil _ _, Nat.le_refl _, by unfold maxLen; omega⟩
  · simp only [Value.slice.injEq] at e1
    obtain ⟨rfl, rfl, rfl⟩ := e1
    refine ⟨⟨rfl, fun i x hx => ⟨g, 0, rfl, fun j v hj => ?_⟩⟩, e4, e5⟩
    have hs := salesCells_at l i x hx j v hj
    rw [← e7] at hs
    have hj2 : cur.toList[i * 8 + j]? = some v := by
      rw [List.getElem?_take] at hs
      split at hs
      · exact hs
      · cases hs
    simp only [World.cell?, e3, Nat.zero_add]
    simpa using hj2
/-- 'append' of one sale that lies in a block of its own, within a round. -/
theorem wpListIn_append_sale {F : Fence} {n : Nat} {w : World} {ops : Array Oper} {rest : List Oper} {o : Oper} {a : Act} {Q : Exit → Act → World → Prop} (hgd : o.guard = none) (s x : Operand) (t : TypeId)
    (ho : o.op = .call { callee := .builtin .append, args := #[s, x], argTypes := #[t, t] }) (ht : Try.prog.underlying t = some (.slice 44))
    (base : Nat) (v : Value) (l : List SaleV) (hs : a.eval s = v) (hown : OwnX w base v l) (g c : Nat) (y : SaleV) (hx : a.eval x = .slice (some ⟨g, 0, none⟩) 1 c)
    (hr : Row w g (saleCells y)) (hn : l.length ≤ 1000000000) (hbase : base ≤ w.heap.size)
    (h : ∀ v' w', OwnX w' base v' (l ++ [y]) → w.grownBy w' v.ownBlock → (v'.ownBlock = v.ownBlock ∨ v'.ownBlock = some w.heap.size) → wpListIn F n Try.prog ops Q rest (a.put o.dst v') w') : wpListIn F n Try.prog ops Q (o :: rest) a w := by
  obtain ⟨i0, hi, hz0, hz1, hz2⟩ := info_parts info_sale
  refine wpListIn_plain hgd fun K hK' => ?_
  obtain ⟨v', w', hrun, r1, r2, _, r4⟩ := run_append_own_at (P := Try.prog) w base t o.type 44 i0 (.agg #[.int .i64 0, .int .i64 0, .int .i64 0, .bool false, .int .i64 0, .int .i64 0, .int .i64 0, .int .i64 0]) 8 64 ht hi hz0 hz1 hz2 rfl (by decide) v l.length _ hown ⟨g, 0, none⟩ 1 c (salesCells [y]) rfl
    (fun j u hj => by
      have e : salesCells [y] = saleCells y := by simp [salesCells]
      rw [e] at hj
      have := hr.cell j hj
      rw [show (⟨g, 0, none⟩ : Addr).add j = ⟨g, j, none⟩ by simp [Addr.add]; try (intro h; exact h.symm)]
      exact this) (fun u hu => salesCells_one hu) (by unfold maxLen; omega) (by omega) hbase
  unfold Oper.wpIn
  refine ⟨?_, ?_⟩
  · simp [Oper.about, ho, resolve, Target.leads, Sem.run_pure]
  · rw [Oper.semAt_plain F _ _ (by rw [ho]; intro c hc'; cases hc')]
    simp [execOp, ho, resolve, invoke, builtin, hs, hx, hrun, Result.andThen]
    refine hK' _ _ (h v' w' ?_ r2 r4)
    unfold OwnX
    rw [salesCells_append, List.length_append]
    exact r1

theorem sales_any (nt wd : Int) (ac : Option Addr) (nc cc : Nat) (as' : Option Addr) (ns cs : Nat) (rm sd : Int) (sa : Option Addr) (sn sc : Nat) (kd : Int) (w : World) :
    Calls Try.prog 31 #[.agg #[.int .i64 nt, .int .i64 wd, .slice ac nc cc, .slice as' ns cs, .int .i64 rm, .int .i64 sd, .slice sa sn sc], .int .i64 kd] w
      fun e w' => ∃ bp bk : Nat, e = .returned (.func (.func 53) #[] #[.pointer (some ⟨bk, 0, none⟩), .pointer (some ⟨bp, 0, none⟩)]) ∧ w.heap.size ≤ bp ∧ w.heap.size ≤ bk ∧
        Row w' bp [.int .i64 nt, .int .i64 wd, .slice ac nc cc, .slice as' ns cs, .int .i64 rm, .int .i64 sd, .slice sa sn sc] ∧ Row w' bk [.int .i64 kd] ∧ Below w.heap.size w w' := by
  go_enter Try.func31, Try.ntmps31
  go_wp2_with fail
  go_ret
  exact ⟨w.heap.size, w.heap.size + 1, rfl, Nat.le_refl _, by omega, by (repeat' (first | (with_reducible assumption) | (with_reducible refine Row.new' _ _ _ (by first | rfl | (simp; done) | omega)) | (with_reducible refine Row.alloc ?_ _) | (with_reducible refine Row.drew ?_) | (with_reducible refine Row.drewN ?_ _) | (with_reducible refine Row.step ?_ (by with_reducible assumption)))), by (repeat' (first | (with_reducible assumption) | (with_reducible refine Row.new' _ _ _ (by first | rfl | (simp; done) | omega)) | (with_reducible refine Row.alloc ?_ _) | (with_reducible refine Row.drew ?_) | (with_reducible refine Row.drewN ?_ _) | (with_reducible refine Row.step ?_ (by with_reducible assumption)))), by (repeat' (first | (with_reducible exact Below.refl _ _) | (with_reducible assumption) | (with_reducible exact Bw.out (by with_reducible assumption)) | (with_reducible refine bw_alloc ?_ _) | (with_reducible refine bw_step ?_ (by with_reducible assumption)) | (with_reducible refine Below.alloc ?_ ?_ _) | (with_reducible refine Below.drew ?_) | (with_reducible refine below_drewN ?_ _) | (with_reducible refine Below.setCell ?_ ?_ _) | (with_reducible refine below_step ?_ (by with_reducible assumption) ?_) | (with_reducible exact Nat.le_refl _) | omega | (simp; omega) | (simp; done)))⟩

/-- The caller's own blocks: its variable and the slice that lies in it. -/
def ownX (ob : Nat) (W : World) (k : Nat) : Prop := k = ob ∨ ∃ v, W.cell? ⟨ob, 0, none⟩ = some v ∧ v.ownBlock = some k
/-- What holds between two rounds. -/
def InvX (w : World) (ob B : Nat) (pre : List SaleV) (W : World) : Prop := ∃ v, Row W ob [v] ∧ OwnX W B v pre ∧ Below w.heap.size w W ∧ B ≤ W.heap.size
theorem ownX_of {ob : Nat} {W : World} {k : Nat} {v : Value} (hr : Row W ob [v]) (h : ownX ob W k) : k = ob ∨ v.ownBlock = some k := by
  rcases h with h | ⟨u, hu, h⟩
  · exact Or.inl h
  · rw [hr.cell 0 rfl] at hu
    cases hu
    exact Or.inr h
theorem invX_abide {w : World} {ob B : Nat} (hob : ob < B) (hw : w.heap.size ≤ B) : AbideO (ownX ob) B (InvX w ob B) := fun pre A C ⟨v, h1, h2, h3, h4⟩ hb hk =>
  ⟨v, h1.of_block (hb.block ob hob), h2.blk (fun g hg => hk g (Or.inr ⟨v, h1.cell 0 rfl, hg⟩)), h3.trans (hb.mono hw), Nat.le_trans h4 hb.size⟩
theorem invX_owns {w : World} {ob B : Nat} {Prot : Nat → Prop} (hob : ob < B) (hp : ∀ k, Prot k → k < B ∧ k ≠ ob) : OwnsJ (ownX ob) Prot B (InvX w ob B) := fun pre A ⟨v, h1, h2, h3, h4⟩ =>
  ⟨fun k ho => by
    rcases ownX_of h1 ho with rfl | hg
    · obtain ⟨T, hT⟩ := h1
      exact ⟨⟨_, _, _, hT⟩, fun hpk => (hp _ hpk).2 rfl⟩
    · obtain ⟨g1, _, g3⟩ := h2.own hg
      exact ⟨g3, fun hpk => by have := (hp _ hpk).1; omega⟩,
  fun C k hb ho => by
    rcases ho with rfl | ⟨u, hu, hg⟩
    · exact Or.inl rfl
    · have e : C.cell? ⟨ob, 0, none⟩ = A.cell? ⟨ob, 0, none⟩ := hb.cell (p := ⟨ob, 0, none⟩) hob
      exact Or.inr ⟨u, by rw [← e]; exact hu, hg⟩⟩

set_option maxRecDepth 100000 in
set_option maxHeartbeats 3200000 in
theorem Sales_no (a : Option Addr) (n cap : Nat) (l : List NightV) (nt wd : Int) (ac : Option Addr) (nc cc : Nat) (zs : List Int) (as' : Option Addr) (ns cs : Nat) (ys : List Int) (kd : Int) (w : World)
    (hn : n ≤ 9223372036854775807) (hnc : nc ≤ 9223372036854775807) (hns : ns ≤ 9223372036854775807) (hs : SlN w a n l) (hz : SlI w ac nc zs) (hy : SlI w as' ns ys) (hb : (openB l nt wd zs ys && inR kd 1 20) = false) :
    Calls Try.prog 15 #[.slice a n cap, .agg #[.int .i64 nt, .int .i64 wd, .slice ac nc cc, .slice as' ns cs], .int .i64 kd] w
      fun e w' => e = .returned (.tuple #[.slice none 0 0, .int .i64 1]) ∧ Below w.heap.size w w' := by
  have HS := Lib.hid hs
  have HZ := Lib.hid hz
  have HY := Lib.hid hy
  clear hs hz hy
  cases ho : openB l nt wd zs ys with
  | false =>
    have HB := Lib.hid ho
    clear hb ho
    go_enter Try.func15, Try.ntmps15
    go_wp2_with fail
    refine (open_no a n cap l nt wd ac nc cc zs as' ns cs ys _ hn hnc hns (HS.out.below (by (repeat' (first | (with_reducible exact Below.refl _ _) | (with_reducible assumption) | (with_reducible exact Bw.out (by with_reducible assumption)) | (with_reducible refine bw_alloc ?_ _) | (with_reducible refine bw_step ?_ (by with_reducible assumption)) | (with_reducible refine Below.alloc ?_ ?_ _) | (with_reducible refine Below.drew ?_) | (with_reducible refine below_drewN ?_ _) | (with_reducible refine Below.setCell ?_ ?_ _) | (with_reducible refine below_step ?_ (by with_reducible assumption) ?_) | (with_reducible exact Nat.le_refl _) | omega | (simp; omega) | (simp; done))))) (HZ.out.below (by (repeat' (first | (with_reducible exact Below.refl _ _) | (with_reducible assumption) | (with_reducible exact Bw.out (by with_reducible assumption)) | (with_reducible refine bw_alloc ?_ _) | (with_reducible refine bw_step ?_ (by with_reducible assumption)) | (with_reducible refine Below.alloc ?_ ?_ _) | (with_reducible refine Below.drew ?_) | (with_reducible refine below_drewN ?_ _) | (with_reducible refine Below.setCell ?_ ?_ _) | (with_reducible refine below_step ?_ (by with_reducible assumption) ?_) | (with_reducible exact Nat.le_refl _) | omega | (simp; omega) | (simp; done))))) (HY.out.below (by (repeat' (first | (with_reducible exact Below.refl _ _) | (with_reducible assumption) | (with_reducible exact Bw.out (by with_reducible assumption)) | (with_reducible refine bw_alloc ?_ _) | (with_reducible refine bw_step ?_ (by with_reducible assumption)) | (with_reducible refine Below.alloc ?_ ?_ _) | (with_reducible refine Below.drew ?_) | (with_reducible refine below_drewN ?_ _) | (with_reducible refine Below.setCell ?_ ?_ _) | (with_reducible refine below_step ?_ (by with_reducible assumption) ?_) | (with_reducible exact Nat.le_refl _) | omega | (simp; omega) | (simp; done))))) HB.out).mono ?_
    rintro e w1 ⟨rfl, hb1⟩
    have R_s_1 : Row w1 (w.heap.size) [.int .i64 nt, .int .i64 wd, .slice ac nc cc, .slice as' ns cs] := by (repeat' (first | (with_reducible assumption) | (with_reducible refine Row.new' _ _ _ (by first | rfl | (simp; done) | omega)) | (with_reducible refine Row.alloc ?_ _) | (with_reducible refine Row.drew ?_) | (with_reducible refine Row.drewN ?_ _) | (with_reducible refine Row.step ?_ (by with_reducible assumption)) | (with_reducible refine Row.set2' ?_ _ _; first | exact ⟨_, _, by with_reducible assumption⟩ | exact ⟨_, _, Row.alloc (by with_reducible assumption) _⟩ | exact ⟨_, _, Row.alloc (Row.alloc (by with_reducible assumption) _) _⟩) | (with_reducible refine Row.other ?_ (by first | omega | (simp; done) | (simp; omega)) _)))
    have c_s_0_1 := R_s_1.cell 0 rfl
    have c_s_1_1 := R_s_1.cell 1 rfl
    have c_s_2_1 := R_s_1.cell 2 rfl
    have c_s_3_1 := R_s_1.cell 3 rfl
    have l_s_1 := R_s_1.lt
    have HB1 : Below w.heap.size w w1 := by (repeat' (first | (with_reducible exact Below.refl _ _) | (with_reducible assumption) | (with_reducible exact Bw.out (by with_reducible assumption)) | (with_reducible refine bw_alloc ?_ _) | (with_reducible refine bw_step ?_ (by with_reducible assumption)) | (with_reducible refine Below.alloc ?_ ?_ _) | (with_reducible refine Below.drew ?_) | (with_reducible refine below_drewN ?_ _) | (with_reducible refine Below.setCell ?_ ?_ _) | (with_reducible refine below_step ?_ (by with_reducible assumption) ?_) | (with_reducible exact Nat.le_refl _) | omega | (simp; omega) | (simp; done)))
    go_wp2_with fail
    refine bodyPost_ret (v := .tuple #[.slice none 0 0, .int .i64 1]) (by simp [results, Try.results15, go_sem]) rfl ⟨rfl, ?_⟩
    (repeat' (first | (with_reducible exact Below.refl _ _) | (with_reducible assumption) | (with_reducible exact Bw.out (by with_reducible assumption)) | (with_reducible refine bw_alloc ?_ _) | (with_reducible refine bw_step ?_ (by with_reducible assumption)) | (with_reducible refine Below.alloc ?_ ?_ _) | (with_reducible refine Below.drew ?_) | (with_reducible refine below_drewN ?_ _) | (with_reducible refine Below.setCell ?_ ?_ _) | (with_reducible refine below_step ?_ (by with_reducible assumption) ?_) | (with_reducible exact Nat.le_refl _) | omega | (simp; omega) | (simp; done)))
  | true =>
    have hk : inR kd 1 20 = false := by rw [ho] at hb; simpa using hb
    have HB := Lib.hid ho
    obtain ⟨x, hx, _⟩ := openB_night ho
    obtain ⟨rm, sd, sa, sn, sc, sz⟩ := x
    have HX := Lib.hid hx
    clear hb ho hx
    go_enter Try.func15, Try.ntmps15
    go_wp2_with fail
    refine (open_ok a n cap l nt wd ac nc cc zs as' ns cs ys _ hn hnc hns (HS.out.below (by (repeat' (first | (with_reducible exact Below.refl _ _) | (with_reducible assumption) | (with_reducible exact Bw.out (by with_reducible assumption)) | (with_reducible refine bw_alloc ?_ _) | (with_reducible refine bw_step ?_ (by with_reducible assumption)) | (with_reducible refine Below.alloc ?_ ?_ _) | (with_reducible refine Below.drew ?_) | (with_reducible refine below_drewN ?_ _) | (with_reducible refine Below.setCell ?_ ?_ _) | (with_reducible refine below_step ?_ (by with_reducible assumption) ?_) | (with_reducible exact Nat.le_refl _) | omega | (simp; omega) | (simp; done))))) (HZ.out.below (by (repeat' (first | (with_reducible exact Below.refl _ _) | (with_reducible assumption) | (with_reducible exact Bw.out (by with_reducible assumption)) | (with_reducible refine bw_alloc ?_ _) | (with_reducible refine bw_step ?_ (by with_reducible assumption)) | (with_reducible refine Below.alloc ?_ ?_ _) | (with_reducible refine Below.drew ?_) | (with_reducible refine below_drewN ?_ _) | (with_reducible refine Below.setCell ?_ ?_ _) | (with_reducible refine below_step ?_ (by with_reducible assumption) ?_) | (with_reducible exact Nat.le_refl _) | omega | (simp; omega) | (simp; done))))) (HY.out.below (by (repeat' (first | (with_reducible exact Below.refl _ _) | (with_reducible assumption) | (with_reducible exact Bw.out (by with_reducible assumption)) | (with_reducible refine bw_alloc ?_ _) | (with_reducible refine bw_step ?_ (by with_reducible assumption)) | (with_reducible refine Below.alloc ?_ ?_ _) | (with_reducible refine Below.drew ?_) | (with_reducible refine below_drewN ?_ _) | (with_reducible refine Below.setCell ?_ ?_ _) | (with_reducible refine below_step ?_ (by with_reducible assumption) ?_) | (with_reducible exact Nat.le_refl _) | omega | (simp; omega) | (simp; done))))) HB.out rm sd sa sn sc sz HX.out).mono ?_
    rintro e w1 ⟨rfl, hb1⟩
    have R_s_1 : Row w1 (w.heap.size) [.int .i64 nt, .int .i64 wd, .slice ac nc cc, .slice as' ns cs] := by (repeat' (first | (with_reducible assumption) | (with_reducible refine Row.new' _ _ _ (by first | rfl | (simp; done) | omega)) | (with_reducible refine Row.alloc ?_ _) | (with_reducible refine Row.drew ?_) | (with_reducible refine Row.drewN ?_ _) | (with_reducible refine Row.step ?_ (by with_reducible assumption)) | (with_reducible refine Row.set2' ?_ _ _; first | exact ⟨_, _, by with_reducible assumption⟩ | exact ⟨_, _, Row.alloc (by with_reducible assumption) _⟩ | exact ⟨_, _, Row.alloc (Row.alloc (by with_reducible assumption) _) _⟩) | (with_reducible refine Row.other ?_ (by first | omega | (simp; done) | (simp; omega)) _)))
    have c_s_0_1 := R_s_1.cell 0 rfl
    have c_s_1_1 := R_s_1.cell 1 rfl
    have c_s_2_1 := R_s_1.cell 2 rfl
    have c_s_3_1 := R_s_1.cell 3 rfl
    have l_s_1 := R_s_1.lt
    have HB1 : Below w.heap.size w w1 := by (repeat' (first | (with_reducible exact Below.refl _ _) | (with_reducible assumption) | (with_reducible exact Bw.out (by with_reducible assumption)) | (with_reducible refine bw_alloc ?_ _) | (with_reducible refine bw_step ?_ (by with_reducible assumption)) | (with_reducible refine Below.alloc ?_ ?_ _) | (with_reducible refine Below.drew ?_) | (with_reducible refine below_drewN ?_ _) | (with_reducible refine Below.setCell ?_ ?_ _) | (with_reducible refine below_step ?_ (by with_reducible assumption) ?_) | (with_reducible exact Nat.le_refl _) | omega | (simp; omega) | (simp; done)))
    go_wp2_with fail
    refine (s_within kd 1 20 _ false hk).mono ?_
    rintro e w' ⟨rfl, rfl⟩
    go_wp2_with fail
    refine bodyPost_ret (v := .tuple #[.slice none 0 0, .int .i64 1]) (by simp [results, Try.results15, go_sem]) rfl ⟨rfl, ?_⟩
    (repeat' (first | (with_reducible exact Below.refl _ _) | (with_reducible assumption) | (with_reducible exact Bw.out (by with_reducible assumption)) | (with_reducible refine bw_alloc ?_ _) | (with_reducible refine bw_step ?_ (by with_reducible assumption)) | (with_reducible refine Below.alloc ?_ ?_ _) | (with_reducible refine Below.drew ?_) | (with_reducible refine below_drewN ?_ _) | (with_reducible refine Below.setCell ?_ ?_ _) | (with_reducible refine below_step ?_ (by with_reducible assumption) ?_) | (with_reducible exact Nat.le_refl _) | omega | (simp; omega) | (simp; done)))

theorem act_eq {F : Fence} {n : Nat} {P : Program} {c : Code} {Q : Exit → Act → World → Prop} {a a' : Act} {W : World} (h : a = a') (H : c.wpIn F n P Q a' W) : c.wpIn F n P Q a W := by rw [h]; exact H
/-- All sales of a scene. -/
def salesX (l : List NightV) (nt kd : Int) (zs ys : List Int) : List SaleV := salesK kd nt ((l[nt.toNat]?.map NightV.sold).getD 0) zs ys zs.length
theorem salesK_len {kd nt sd : Int} {zs ys : List Int} {nc : Nat} (h0 : 0 ≤ sd) (h1 : sd ≤ 1000) (hn : nc ≤ 30) (hy : ∀ y ∈ ys, 0 ≤ y ∧ y ≤ 400) (hl : ys.length ≤ nc) : (salesK kd nt sd zs ys nc).length ≤ 1000000 := by
  have h : ∀ k, (salesK kd nt sd zs ys k).length ≤ 1000 + 400 * k := fun k => by
    induction k with
    | zero => simp only [salesK, manyS_length]; omega
    | succ k ih =>
      simp only [salesK, List.length_append, manyS_length]
      have : (ys.getD k 0).toNat ≤ 400 := by
        by_cases hk : k < ys.length
        · have := hy _ (List.getElem_mem hk)
          simp only [List.getD, List.getElem?_eq_getElem hk, Option.getD_some]; omega
        · simp only [List.getD, List.getElem?_eq_none (Nat.le_of_not_lt hk), Option.getD_none]; omega
      omega
  have := h nc
  omega
set_option maxRecDepth 100000 in
set_option maxHeartbeats 6400000 in
theorem Sales_ok (a : Option Addr) (n cap : Nat) (l : List NightV) (nt wd : Int) (ac : Option Addr) (nc cc : Nat) (zs : List Int) (as' : Option Addr) (ns cs : Nat) (ys : List Int) (kd : Int) (w : World)
    (hn : n ≤ 9223372036854775807) (hnc : nc ≤ 9223372036854775807) (hns : ns ≤ 9223372036854775807) (hs : SlN w a n l) (hz : SlI w ac nc zs) (hy : SlI w as' ns ys) (hb : (openB l nt wd zs ys && inR kd 1 20) = true) :
    Calls Try.prog 15 #[.slice a n cap, .agg #[.int .i64 nt, .int .i64 wd, .slice ac nc cc, .slice as' ns cs], .int .i64 kd] w
      fun e w' => ∃ v base, e = .returned (.tuple #[v, .int .i64 0]) ∧ OwnX w' base v (salesX l nt kd zs ys) ∧ w.heap.size ≤ base ∧ Below w.heap.size w w' := by
  rw [Bool.and_eq_true] at hb
  obtain ⟨ho, hk⟩ := hb
  have HS := Lib.hid hs
  have HZ := Lib.hid hz
  have HY := Lib.hid hy
  have HZL := Lib.hid hz.1
  have HYL := Lib.hid hy.1
  have HB := Lib.hid ho
  obtain ⟨x, hx, hnb⟩ := openB_night ho
  obtain ⟨s1, s2, s3⟩ := sells_bound ho
  obtain ⟨_, ⟨t0, t1⟩, _⟩ := openB_in ho
  have hl366 := (nightsB_in (openB_in ho).1).1
  obtain ⟨rm, sd, sa, sn, sc, sz⟩ := x
  obtain ⟨⟨r0, r1⟩, d0, d1⟩ := nightB_nums hnb
  simp only [] at r0 r1 d0 d1
  have hnc30 : nc ≤ 30 := by have := HZL.out; omega
  have hnsc : ns = nc := by have := HZL.out; have := HYL.out; omega
  have HX := Lib.hid hx
  have HYB := Lib.hid s3
  have HSX : Hid (salesX l nt kd zs ys = salesK kd nt sd zs ys nc) := by
    show _ = _
    unfold salesX
    rw [hx, HZL.out]; rfl
  have HZB : Hid (0 < nc → ∀ b o, ac = some ⟨b, o, none⟩ → b < w.heap.size) := fun h0 b o e => hz.ltB h0 b o e
  have HYBB : Hid (0 < ns → ∀ b o, as' = some ⟨b, o, none⟩ → b < w.heap.size) := fun h0 b o e => hy.ltB h0 b o e
  have HNSC : Hid (ns = nc) := hnsc
  have HK := Lib.hid hk
  have hnt1 : nt ≤ 1000 := by omega
  clear hs hz hy ho hx hnb s1 s2 s3 hnsc t1 hl366
  refine calls_of_wp_marks Try.func15 rfl ?_
  simp only [Try.ntmps15, List.size_toArray, List.length_cons, List.length_nil, Nat.reduceAdd, Nat.reduceSub, Array.replicate_succ, Array.replicate_zero, List.push_toArray, List.append_toArray, List.nil_append, List.cons_append]
  go_wp2_with fail
  refine (open_ok a n cap l nt wd ac nc cc zs as' ns cs ys _ hn hnc hns (HS.out.below (by (repeat' (first | (with_reducible exact Below.refl _ _) | (with_reducible assumption) | (with_reducible exact Bw.out (by with_reducible assumption)) | (with_reducible refine bw_alloc ?_ _) | (with_reducible refine bw_step ?_ (by with_reducible assumption)) | (with_reducible refine Below.alloc ?_ ?_ _) | (with_reducible refine Below.drew ?_) | (with_reducible refine below_drewN ?_ _) | (with_reducible refine Below.setCell ?_ ?_ _) | (with_reducible refine below_step ?_ (by with_reducible assumption) ?_) | (with_reducible exact Nat.le_refl _) | omega | (simp; omega) | (simp; done))))) (HZ.out.below (by (repeat' (first | (with_reducible exact Below.refl _ _) | (with_reducible assumption) | (with_reducible exact Bw.out (by with_reducible assumption)) | (with_reducible refine bw_alloc ?_ _) | (with_reducible refine bw_step ?_ (by with_reducible assumption)) | (with_reducible refine Below.alloc ?_ ?_ _) | (with_reducible refine Below.drew ?_) | (with_reducible refine below_drewN ?_ _) | (with_reducible refine Below.setCell ?_ ?_ _) | (with_reducible refine below_step ?_ (by with_reducible assumption) ?_) | (with_reducible exact Nat.le_refl _) | omega | (simp; omega) | (simp; done))))) (HY.out.below (by (repeat' (first | (with_reducible exact Below.refl _ _) | (with_reducible assumption) | (with_reducible exact Bw.out (by with_reducible assumption)) | (with_reducible refine bw_alloc ?_ _) | (with_reducible refine bw_step ?_ (by with_reducible assumption)) | (with_reducible refine Below.alloc ?_ ?_ _) | (with_reducible refine Below.drew ?_) | (with_reducible refine below_drewN ?_ _) | (with_reducible refine Below.setCell ?_ ?_ _) | (with_reducible refine below_step ?_ (by with_reducible assumption) ?_) | (with_reducible exact Nat.le_refl _) | omega | (simp; omega) | (simp; done))))) HB.out rm sd sa sn sc sz HX.out).mono ?_
  rintro e w1 ⟨rfl, hb1⟩
  have R_s_1 : Row w1 (w.heap.size) [.int .i64 nt, .int .i64 wd, .slice ac nc cc, .slice as' ns cs] := by (repeat' (first | (with_reducible assumption) | (with_reducible refine Row.new' _ _ _ (by first | rfl | (simp; done) | omega)) | (with_reducible refine Row.alloc ?_ _) | (with_reducible refine Row.drew ?_) | (with_reducible refine Row.drewN ?_ _) | (with_reducible refine Row.step ?_ (by with_reducible assumption)) | (with_reducible refine Row.set2' ?_ _ _; first | exact ⟨_, _, by with_reducible assumption⟩ | exact ⟨_, _, Row.alloc (by with_reducible assumption) _⟩ | exact ⟨_, _, Row.alloc (Row.alloc (by with_reducible assumption) _) _⟩) | (with_reducible refine Row.other ?_ (by first | omega | (simp; done) | (simp; omega)) _)))
  have c_s_0_1 := R_s_1.cell 0 rfl
  have c_s_1_1 := R_s_1.cell 1 rfl
  have c_s_2_1 := R_s_1.cell 2 rfl
  have c_s_3_1 := R_s_1.cell 3 rfl
  have l_s_1 := R_s_1.lt
  have HB1 : Below w.heap.size w w1 := by (repeat' (first | (with_reducible exact Below.refl _ _) | (with_reducible assumption) | (with_reducible exact Bw.out (by with_reducible assumption)) | (with_reducible refine bw_alloc ?_ _) | (with_reducible refine bw_step ?_ (by with_reducible assumption)) | (with_reducible refine Below.alloc ?_ ?_ _) | (with_reducible refine Below.drew ?_) | (with_reducible refine below_drewN ?_ _) | (with_reducible refine Below.setCell ?_ ?_ _) | (with_reducible refine below_step ?_ (by with_reducible assumption) ?_) | (with_reducible exact Nat.le_refl _) | omega | (simp; omega) | (simp; done)))
  have HB1' := Lib.hid HB1
  go_wp2_with fail
  refine (s_within kd 1 20 _ true hk).mono ?_
  rintro e w2 ⟨rfl, hw2⟩
  have RP2 : Row w2 w1.heap.size [.int .i64 nt, .int .i64 wd, .slice ac nc cc, .slice as' ns cs, .int .i64 rm, .int .i64 sd, .slice sa sn sc] := by rw [hw2]; exact Row.new' _ _ _ rfl
  have hb2 : Below w1.heap.size w1 w2 := by rw [hw2]; (repeat' (first | (with_reducible exact Below.refl _ _) | (with_reducible assumption) | (with_reducible exact Bw.out (by with_reducible assumption)) | (with_reducible refine bw_alloc ?_ _) | (with_reducible refine bw_step ?_ (by with_reducible assumption)) | (with_reducible refine Below.alloc ?_ ?_ _) | (with_reducible refine Below.drew ?_) | (with_reducible refine below_drewN ?_ _) | (with_reducible refine Below.setCell ?_ ?_ _) | (with_reducible refine below_step ?_ (by with_reducible assumption) ?_) | (with_reducible exact Nat.le_refl _) | omega | (simp; omega) | (simp; done)))
  have HB2 : Hid (Below w.heap.size w w2) := HB1'.out.trans (hb2.mono HB1'.out.size)
  obtain ⟨gp, hgp⟩ : ∃ g, w1.heap.size = g := ⟨_, rfl⟩
  rw [hgp] at RP2
  try rw [hgp]
  have hgpw : gp < w2.heap.size := RP2.lt
  have p0 := RP2.cell 0 rfl
  have p1 := RP2.cell 1 rfl
  have p2 := RP2.cell 2 rfl
  have p3 := RP2.cell 3 rfl
  have p4 := RP2.cell 4 rfl
  have p5 := RP2.cell 5 rfl
  have p6 := RP2.cell 6 rfl
  clear hw2 hb2 hgp HB1 hb1 R_s_1 c_s_0_1 c_s_1_1 c_s_2_1 c_s_3_1 l_s_1
  have RO3 : Row (w2.alloc (.cells #[.slice none 0 0] 26)) w2.heap.size [.slice none 0 0] := Row.new' _ _ _ rfl
  have hb3 : Below w2.heap.size w2 (w2.alloc (.cells #[.slice none 0 0] 26)) := by (repeat' (first | (with_reducible exact Below.refl _ _) | (with_reducible assumption) | (with_reducible exact Bw.out (by with_reducible assumption)) | (with_reducible refine bw_alloc ?_ _) | (with_reducible refine bw_step ?_ (by with_reducible assumption)) | (with_reducible refine Below.alloc ?_ ?_ _) | (with_reducible refine Below.drew ?_) | (with_reducible refine below_drewN ?_ _) | (with_reducible refine Below.setCell ?_ ?_ _) | (with_reducible refine below_step ?_ (by with_reducible assumption) ?_) | (with_reducible exact Nat.le_refl _) | omega | (simp; omega) | (simp; done)))
  go_wp2_with fail
  obtain ⟨w3, hw3⟩ : ∃ W, w2.alloc (.cells #[.slice none 0 0] 26) = W := ⟨_, rfl⟩
  rw [hw3] at RO3 hb3
  try rw [hw3]
  have HB3 : Hid (Below w.heap.size w w3) := HB2.out.trans (hb3.mono HB2.out.size)
  have hwob : w.heap.size ≤ w2.heap.size := HB2.out.size
  obtain ⟨ob, hob⟩ : ∃ g, w2.heap.size = g := ⟨_, rfl⟩
  rw [hob] at RO3 hwob
  try rw [hob]
  clear hw3 hb3 hob RP2 hgpw p0 p1 p2 p3 p4 p5 p6
  refine (sales_any nt wd ac nc cc as' ns cs rm sd sa sn sc kd _).mono ?_
  rintro e w4 ⟨bp, bk, rfl, hbp, hbk, RP, RK, hb4⟩
  have hobl := RO3.lt
  have RO4 := RO3.step hb4
  have HB4 : Hid (Below w.heap.size w w4) := HB3.out.trans (hb4.mono HB3.out.size)
  obtain ⟨B, hB⟩ : ∃ B, w4.heap.size = B := ⟨_, rfl⟩
  have hbpB : bp < B := by rw [← hB]; exact RP.lt
  have hbkB : bk < B := by rw [← hB]; exact RK.lt
  have hwB : w.heap.size ≤ B := by rw [← hB]; exact HB4.out.size
  have hobB : ob < B := by rw [← hB]; exact RO4.lt
  have hstops := sales_stops (ownX ob) (fun k => k < B ∧ k ≠ ob) 5 (by omega) kd nt wd ac nc cc zs as' ns cs ys rm sd sa sn sc t0 hnt1 d0 d1 hnc30 HNSC.out HYB.out bk bp ⟨hbkB, by omega⟩ ⟨hbpB, by omega⟩ w4 RK RP
    (HZ.out.below HB4.out) (HY.out.below HB4.out) (fun h0 b o e => ⟨by have := HZB.out h0 b o e; omega, by have := HZB.out h0 b o e; omega⟩) (fun h0 b o e => ⟨by have := HYBB.out h0 b o e; omega, by have := HYBB.out h0 b o e; omega⟩)
  have HST := Lib.hid hstops
  have HLN : Hid ((salesK kd nt sd zs ys nc).length ≤ 1000000) := salesK_len d0 d1 hnc30 HYB.out (by rw [HYL.out]; exact Nat.le_of_eq HNSC.out)
  have HRO := Lib.hid RO4
  have HBE := Lib.hid hB
  clear hstops hb4 RO3 RO4 RP RK hbp hbk hobl
  go_wp2_with fail
  refine (wpIn_wide (n := 6)).1 ?_
  refine range_box (w0 := w4) (α := SaleV) rfl (by omega) rfl trivial (enters_of Try.func53 (by kernel_rfl) rfl) HST.out
    (fun Wx lx o o' k hl ho hk => by
      rcases hk with rfl | ⟨u, hu, hg⟩
      · exact Or.inl rfl
      · refine Or.inr ⟨u, ?_, hg⟩
        rw [← hu]
        simp only [World.cell?]
        rw [World.putObj_heap_other (show ob ≠ lx by have := HBE.out; omega)])
    (Below.refl _ _) (fun _ => rfl) (InvX w ob B) (fun cx pre wr => False)
    (by rw [hB]; exact invX_abide hobB hwB) (by rw [hB]; exact invX_owns hobB (fun k hk => hk)) (fun cx s W l o o' _ _ _ h => h)
    ⟨_, HRO.out, OwnX.nil _ _, HB4.out, Nat.le_of_eq hB.symm⟩
    (fun x W a' W' => W' = W.alloc (.cells #[.int .i64 x.id, .int .i64 x.ch, .int .i64 x.tm, .bool x.cut, .int .i64 x.kd, .int .i64 x.fr, .int .i64 x.un, .int .i64 x.pe] 44) ∧
      a' = { tmps := #[.slice a n cap, .agg #[.int .i64 nt, .int .i64 wd, .slice ac nc cc, .slice as' ns cs], .int .i64 kd, undef, .pointer (some ⟨w.heap.size, 0, none⟩), undef, .slice none 0 0, .int .i64 0, .pointer (some ⟨gp, 0, none⟩), .bool true, .pointer (some ⟨ob, 0, none⟩), .pointer (some ⟨W.heap.size, 0, none⟩),
        .tuple #[.agg #[.int .i64 nt, .int .i64 wd, .slice ac nc cc, .slice as' ns cs, .int .i64 rm, .int .i64 sd, .slice sa sn sc], .bool true], .slice a n cap, .agg #[.int .i64 nt, .int .i64 wd, .slice ac nc cc, .slice as' ns cs], .tuple #[.agg #[.int .i64 nt, .int .i64 wd, .slice ac nc cc, .slice as' ns cs, .int .i64 rm, .int .i64 sd, .slice sa sn sc], .bool true],
        .agg #[.int .i64 nt, .int .i64 wd, .slice ac nc cc, .slice as' ns cs, .int .i64 rm, .int .i64 sd, .slice sa sn sc], .bool true, .bool true, .bool false, .bool false, .int .i64 kd, .bool true, .bool false, .bool false, .agg #[.int .i64 nt, .int .i64 wd, .slice ac nc cc, .slice as' ns cs, .int .i64 rm, .int .i64 sd, .slice sa sn sc], .int .i64 kd,
        .func (.func 53) #[] #[.pointer (some ⟨bk, 0, none⟩), .pointer (some ⟨bp, 0, none⟩)], .agg #[.int .i64 x.id, .int .i64 x.ch, .int .i64 x.tm, .bool x.cut, .int .i64 x.kd, .int .i64 x.fr, .int .i64 x.un, .int .i64 x.pe], undef, undef, undef, undef, undef], defers := [] })
    (fun x W a' W' h => by rw [h.1]; exact (Below.refl _ W).alloc (Nat.le_refl _) _) ?assign ?body ?done ?stop
  case assign =>
    intro lx x W K hK
    obtain ⟨id, ch, tm, ct, k4, fr, un, pe⟩ := x
    refine act_eq (a' := { tmps := #[.slice a n cap, .agg #[.int .i64 nt, .int .i64 wd, .slice ac nc cc, .slice as' ns cs], .int .i64 kd, undef, .pointer (some ⟨w.heap.size, 0, none⟩), undef, .slice none 0 0, .int .i64 0, .pointer (some ⟨gp, 0, none⟩), .bool true, .pointer (some ⟨ob, 0, none⟩), undef,         .tuple #[.agg #[.int .i64 nt, .int .i64 wd, .slice ac nc cc, .slice as' ns cs, .int .i64 rm, .int .i64 sd, .slice sa sn sc], .bool true], .slice a n cap, .agg #[.int .i64 nt, .int .i64 wd, .slice ac nc cc, .slice as' ns cs], .tuple #[.agg #[.int .i64 nt, .int .i64 wd, .slice ac nc cc, .slice as' ns cs, .int .i64 rm, .int .i64 sd, .slice sa sn sc], .bool true],         .agg #[.int .i64 nt, .int .i64 wd, .slice ac nc cc, .slice as' ns cs, .int .i64 rm, .int .i64 sd, .slice sa sn sc], .bool true, .bool true, .bool false, .bool false, .int .i64 kd, .bool true, .bool false, .bool false, .agg #[.int .i64 nt, .int .i64 wd, .slice ac nc cc, .slice as' ns cs, .int .i64 rm, .int .i64 sd, .slice sa sn sc], .int .i64 kd,         .func (.func 53) #[] #[.pointer (some ⟨bk, 0, none⟩), .pointer (some ⟨bp, 0, none⟩)], .agg #[.int .i64 id, .int .i64 ch, .int .i64 tm, .bool ct, .int .i64 k4, .int .i64 fr, .int .i64 un, .int .i64 pe], undef, undef, undef, undef, undef], defers := [] }) (by simp [encS, saleVal]) ?_
    gi_wp2
    try exact hK _ _ ⟨rfl, rfl⟩
  case body =>
    rintro lx pre x W W' a' X hI0 _ hpl ⟨rfl, rfl⟩ ⟨v, hv1, hv2, hv3, hv4⟩ ⟨lo, o, o', hlo, hl, hc, hX⟩
    have RC : Row X W.heap.size (saleCells x) := by
      rw [hX]
      exact (Row.new' W (saleCells x) _ rfl : Row (W.alloc (.cells (saleCells x).toArray 44)) W.heap.size (saleCells x)).keepsO (KeepsO.putObj (own := fun _ _ => False) _ hl hc (fun _ h => h)) (fun h => h)
    obtain ⟨gc, hgc⟩ : ∃ g, W.heap.size = g := ⟨_, rfl⟩
    rw [hgc] at RC
    try rw [hgc]
    clear hI0 hl hc hX
    obtain ⟨ad, cp, rfl, hv2⟩ := hv2.shape pre.length rfl
    have HV2 := Lib.hid hv2
    have HV1 := Lib.hid hv1
    have HV3 := Lib.hid hv3
    have hobX : ob < X.heap.size := by omega
    have hgcX := RC.lt
    have HRC := Lib.hid RC
    have q0 := RC.cell 0 rfl
    have q1 := RC.cell 1 rfl
    have q2 := RC.cell 2 rfl
    have q3 := RC.cell 3 rfl
    have q4 := RC.cell 4 rfl
    have q5 := RC.cell 5 rfl
    have q6 := RC.cell 6 rfl
    have q7 := RC.cell 7 rfl
    have qo := hv1.cell 0 rfl
    clear hv2 hv3 RC
    dsimp only
    have hN : Hid (∀ g, (Value.slice ad pre.length cp).ownBlock = some g → B ≤ g ∧ g < X.heap.size) := fun g hg => ⟨(HV2.out.own hg).1, (HV2.out.own hg).2.1⟩
    have hpl2 : pre.length ≤ 1000000000 := by
      have := HLN.out; omega
    gi_wp2_with (gi_at_builtin; refine wpListIn_append_sale rfl _ _ _ rfl Try.underlying26 B (.slice ad pre.length cp) pre rfl (HV2.out.alloc _) X.heap.size 1 x rfl (Row.new' X (saleCells x) _ rfl) hpl2 (by simp; omega) ?_; intro v' w5 ho1 hg1 hor1; obtain ⟨ad', cp', rfl, ho1⟩ := ho1.shape (pre.length + 1) (by simp); have hR5 : Row w5 ob [.slice ad pre.length cp] := ((HV1.out.alloc _).of_block (hg1.block ob (by simp; omega) (fun e => by have := (hN.out ob e.symm).1; omega))); have c5 := hR5.cell 0 rfl; have f5 := hR5.frozen 0; have l5 := hR5.lt)
    have hXa : Below X.heap.size X (X.alloc (.cells (saleCells x).toArray 44)) := by (repeat' (first | (with_reducible exact Below.refl _ _) | (with_reducible assumption) | (with_reducible exact Bw.out (by with_reducible assumption)) | (with_reducible refine bw_alloc ?_ _) | (with_reducible refine bw_step ?_ (by with_reducible assumption)) | (with_reducible refine Below.alloc ?_ ?_ _) | (with_reducible refine Below.drew ?_) | (with_reducible refine below_drewN ?_ _) | (with_reducible refine Below.setCell ?_ ?_ _) | (with_reducible refine below_step ?_ (by with_reducible assumption) ?_) | (with_reducible exact Nat.le_refl _) | omega | (simp; omega) | (simp; done)))
    have hC : Ch (fun k => k = ob ∨ (Value.slice ad pre.length cp).ownBlock = some k) X (w5.setCell ⟨ob, 0, none⟩ (.slice ad' (pre.length + 1) cp')) :=
      Ch.setCell (o := fun k => k = ob ∨ (Value.slice ad pre.length cp).ownBlock = some k) (p := ⟨ob, 0, none⟩) (((Ch.refl _ X).alloc (.cells (saleCells x).toArray 44)).trans (Ch.of_grown hg1 (fun k e => Or.inr e))) (Or.inl rfl) _
    have hRy : Row (w5.setCell ⟨ob, 0, none⟩ (.slice ad' (pre.length + 1) cp')) ob [.slice ad' (pre.length + 1) cp'] := by
      obtain ⟨T, hT⟩ := hR5
      exact ⟨T, by simp [World.setCell, Array.getElem?_modify, hT]⟩
    have hOy : OwnX (w5.setCell ⟨ob, 0, none⟩ (.slice ad' (pre.length + 1) cp')) B (.slice ad' (pre.length + 1) cp') (pre ++ [x]) :=
      ho1.blk (fun g hg => Below.heap_setCell _ _ _ _ (fun e => by have := (ho1.own hg).1; have e2 : g = ob := e; omega))
    refine ⟨hC.others (fun k hk => ?_), ⟨hC.size, fun k cs T fr hk hno => hC.2.2.2.2 k (Array.getElem?_eq_some_iff.1 hk).1 (fun h => hno ?_), fun k hk ho => ?_⟩, ⟨_, hRy, hOy, hC.below HV3.out (fun k hk => ?_) HV3.out.size, Nat.le_trans hv4 hC.size⟩⟩
    · rcases hk with rfl | hk
      · obtain ⟨T, hT⟩ := HV1.out
        exact ⟨_, _, _, hT⟩
      · exact (HV2.out.own hk).2.2
    · rcases h with rfl | h
      · exact Or.inl rfl
      · exact Or.inr ⟨_, qo, h⟩
    · rcases ownX_of hRy ho with rfl | hg
      · exact Or.inl rfl
      · rcases hor1 with h | h
        · rw [h] at hg; exact Or.inr ⟨_, qo, hg⟩
        · rw [h] at hg
          simp only [Option.some.injEq] at hg
          simp at hg
          omega
    · rcases hk with rfl | hk
      · omega
      · have := (HV2.out.own hk).1; omega
  case done =>
    rintro D xs W hD rfl ⟨v, h1, h2, h3, h4⟩ hKd
    have q0 := h1.cell 0 rfl
    have HKD := Lib.hid hKd
    have H2 := Lib.hid h2
    have H3 := Lib.hid h3
    have hDl := (Array.getElem?_eq_some_iff.1 hKd).1
    clear hKd h2 h3
    go_wp2_with fail
    refine ⟨by simp, .inl ⟨_, _, rfl, run_takeDeferred HKD.out, ?_⟩⟩
    have hgr := grownBy_putObj' W D (.deferred none)
    refine ⟨.tuple #[v, .int .i64 0], by simp [results, Try.results15, go_sem], v, B, rfl, ?_, hwB, H3.out.grown hgr H3.out.size (fun k e => by cases e; omega)⟩
    rw [HSX.out]
    refine H2.out.blk (fun g hg => World.putObj_heap_other (fun e => ?_))
    obtain ⟨cs, T, fr, hc⟩ := (H2.out.own hg).2.2
    rw [e, HKD.out] at hc
    cases hc
  case stop =>
    rintro D cx pre Wx hD hpre h hKd
    exact h.elim

end Go.Proofs.Ytdijdfhlmnhcjaa
