/-
 Texts built as one: XLaw, XOpenE, XOpenA.
-/
import Derived.Test.YtcmodmchnokmgaaRows
import Derived.Test.YtcmodmchnokmgaaMA
import Derived.Lib.SmallJoins
import Derived.ProofKit
import Derived.OpenShut
import Derived.SizedLaws
import Derived.Deep.Slices
import Derived.Deep.Fields
import Derived.ChangeSame
import Derived.Laws.IdiomArrays
namespace Go.Proofs.Ytcmodmchnokmgaa
section
set_option linter.unusedSimpArgs false
set_option linter.unusedVariables false
open Go.ChangeShapes Go.WideShapes Go.ChangeAt Go.RowKit
theorem own : ownKnob Try.prog.godebug = none := by kernel_rfl
theorem laidOut : laidOutB Try.prog = true := by kernel_rfl
theorem trodAll_below {H : Type} {enc : TypeId × Value → H} {P : Program} (hl : laidOutB P = true) {W W' : World} (hb : Below W.heap.size W W') :
  ∀ (ts : List TypeId) (vs : List Value) (ds : List (DataW H)) (ps : List MemPlace), (∀ t ∈ ts, P.readableRec t = true ∧ t < P.types.size) →
   DataW.TrodAll enc P W 0 (fun _ => true) true ts vs ds ps → (∀ x ∈ ps, x.block < W.heap.size) →
   DataW.TrodAll enc P W' 0 (fun b => decide (b < W.heap.size)) true ts vs ds ps := by
 intro ts
 induction ts with
 | nil =>
  intro vs ds ps _ h _
  obtain ⟨rfl, rfl, rfl⟩ := trodAll_nil h
  exact h
 | cons t ts ih =>
  intro vs ds ps ht h hlt
  obtain ⟨v, vs', d, ds', p, q, rfl, rfl, rfl, h1, h2⟩ := trodAll_cons h
  have r := ht t (by simp)
  refine ⟨p, q, Below.trod hl r.1 r.2 h1 hb (fun x hx => hlt x (by simp [hx])), ih _ _ _ (fun u hu => ht u (by simp [hu])) h2 (fun x hx => hlt x (by simp [hx])), rfl⟩
/-- What the row asks behind the call. -/
theorem law_post {H : Type} {enc : TypeId × Value → H} {P : Program} {f : Func} {s : ChangeSpec} {B : TypeId} {W W' : World} {args : Array Value} {ds gs : List (DataW H)} {before : List MemPlace}
  (hl : laidOutB P = true) (hts : ∀ t ∈ f.params.toList, P.readableRec t = true ∧ t < P.types.size) (hres : f.resultTypes = #[B]) (hB : P.underlying B = some .bool) (hv : s.vars = [])
  (hfn : s.fn H (ds ++ []) = { results := [.lit (.bool true)], args := ds }) (hW : DataW.Whole enc P f.params.toList s.vars false W args.toList ds gs before) (hb : Below W.heap.size W W') :
  s.post enc P f false true false false W args (.bool true) W' := by
 have hW' := hW
 obtain ⟨p, q, hA, hV, rfl, _, _⟩ := hW
 rw [hv] at hV
 obtain ⟨rfl, rfl⟩ := trodVars_none hV
 have hlt : ∀ x ∈ p, x.block < W.heap.size := fun x hx => by simpa using hW'.lt x (by simp [hx])
 refine ⟨ds, [], p ++ [], [], p, [], hW', ?_, ?_, ?_, hb.frame _, fun h => by cases h⟩
 ·
  rw [hfn, hres]
  exact trodAll_mk1 (shut_bool hB true)
 ·
  rw [hfn]
  exact trodAll_below hl hb _ _ _ _ hts hA hlt
 ·
  rw [hfn, hv]; rfl
theorem bd_i64 {n : Int} (h : (Lit.int .i64 n).wf = true) : -9223372036854775808 ≤ n ∧ n ≤ 9223372036854775807 := by simpa [Lit.wf, IntKind.min, IntKind.max, IntKind.signed, IntKind.bits] using h
theorem bd_i32 {n : Int} (h : (Lit.int .i32 n).wf = true) : -2147483648 ≤ n ∧ n ≤ 2147483647 := by simpa [Lit.wf, IntKind.min, IntKind.max, IntKind.signed, IntKind.bits] using h
theorem bd_i16 {n : Int} (h : (Lit.int .i16 n).wf = true) : -32768 ≤ n ∧ n ≤ 32767 := by simpa [Lit.wf, IntKind.min, IntKind.max, IntKind.signed, IntKind.bits] using h
theorem bd_u8 {n : Int} (h : (Lit.int .u8 n).wf = true) : 0 ≤ n ∧ n ≤ 255 := by simpa [Lit.wf, IntKind.min, IntKind.max, IntKind.signed, IntKind.bits] using h
theorem bd_u16 {n : Int} (h : (Lit.int .u16 n).wf = true) : 0 ≤ n ∧ n ≤ 65535 := by simpa [Lit.wf, IntKind.min, IntKind.max, IntKind.signed, IntKind.bits] using h
theorem bd_u32 {n : Int} (h : (Lit.int .u32 n).wf = true) : 0 ≤ n ∧ n ≤ 4294967295 := by simpa [Lit.wf, IntKind.min, IntKind.max, IntKind.signed, IntKind.bits] using h
end
section
set_option linter.unusedSimpArgs false
set_option linter.unusedVariables false
open Go.ChangeShapes Go.WideShapes Go.ChangeAt Go.RowKit Go.Deep
theorem addr_plain {w : World} {a : Addr} {v : Value} (h : w.cell? (a.add 0) = some v) : a = ⟨a.block, a.off, none⟩ := by
 obtain ⟨b, off, spot⟩ := a
 cases spot with
 | none => rfl
 | some s => simp only [World.cell?, Addr.add] at h; split at h <;> simp at h
theorem add_plain (b off k : Nat) : (⟨b, off, none⟩ : Addr).add k = ⟨b, off + k, none⟩ := by simp [Addr.add]
theorem choose_list {α : Type} {p : Nat → α → Prop} : ∀ (n : Nat), (∀ i, i < n → ∃ x, p i x) → ∃ l : List α, l.length = n ∧ ∀ i x, l[i]? = some x → p i x
 | 0, _ => ⟨[], rfl, fun i x h => by simp at h⟩
 | n + 1, h => by
  obtain ⟨l, hl, hp⟩ := choose_list n (fun i hi => h i (by omega))
  obtain ⟨x, hx⟩ := h n (by omega)
  refine ⟨l ++ [x], by simp [hl], fun i y hy => ?_⟩
  by_cases hi : i < n
  ·
   rw [List.getElem?_append_left (by omega)] at hy; exact hp i y hy
  ·
   have hlt := (List.getElem?_eq_some_iff.1 hy).1
   simp [hl] at hlt
   obtain rfl : i = n := by omega
   rw [List.getElem?_append_right (by omega)] at hy
   simp [hl] at hy
   subst hy; exact hx
theorem trod_fieldE {H : Type} {enc : TypeId × Value → H} {P : Program} {w : World} {base : Nat} {spare : Nat → Bool} {held : Bool} {t : TypeId} {fs : Array Field} {fuel : Nat} {cs : List Value} {x : DataW H × List MemPlace} (ht : P.underlying t = some (.struct fs)) (h : DataW.trod enc P w base spare held fuel t cs = some x) :
  ∃ n, fuel = n + 1 ∧ ∀ (j : Nat) (f : Field), fs[j]? = some f → ∃ y, DataW.trod enc P w base spare held n f.type ((cs.drop f.offset).take (P.cellsOf f.type)) = some y := by
 obtain ⟨xs, n, hn, _, _, hlen, hf⟩ := DataW.trod_struct ht h
 refine ⟨n, hn, fun j f hj => ?_⟩
 have h1 := hf j f hj
 have hlt : j < xs.length := by rw [hlen]; exact (Array.getElem?_eq_some_iff.1 hj).1
 rw [List.getElem?_eq_getElem hlt] at h1
 exact ⟨_, h1⟩
theorem open_sliceE {H : Type} {enc : TypeId × Value → H} {P : Program} {w : World} {base : Nat} {spare : Nat → Bool} {held : Bool} {t e : TypeId} {fuel : Nat} {cs : List Value} {x : DataW H × List MemPlace} (ht : P.underlying t = some (.slice e)) (h : DataW.trod enc P w base spare held fuel t cs = some x) :
  cs = [.slice none 0 0] ∨
  ∃ (a : Addr) (len cap n : Nat), fuel = n + 1 ∧ cs = [.slice (some a) len cap] ∧ len ≤ cap ∧ cap ≤ maxLen ∧
   ∀ i, i < len → ∃ cs' y, w.cells? base (a.add (i * P.cellsOf e)) (P.cellsOf e) = some cs' ∧ DataW.trod enc P w base spare held n e cs' = some y := by
 rcases DataW.trod_slice ht h with h0 | ⟨a, len, cap, elems, rest, n, hn, hcs, hx, hb, hl, hm, hlen, hel, hsp, hns⟩
 ·
  exact Or.inl h0.1
 ·
  refine .inr ⟨a, len, cap, n, hn, hcs, hl, hm, fun i hi => ?_⟩
  have key := hel i hi
  rw [List.getElem?_eq_getElem (by omega)] at key
  obtain ⟨cs', h1, h2⟩ := Option.bind_eq_some_iff.1 key
  exact ⟨cs', _, h1, h2⟩
theorem cells_expr : Try.prog.cellsOf 24 = 3 := by kernel_rfl
theorem cells_span : Try.prog.cellsOf 26 = 2 := by kernel_rfl
theorem cells_rat : Try.prog.cellsOf 28 = 2 := by kernel_rfl
theorem cells_rate : Try.prog.cellsOf 30 = 16 := by kernel_rfl
theorem cells_int' : Try.prog.cellsOf 3 = 1 := by kernel_rfl
theorem cells_exprs : Try.prog.cellsOf 22 = 1 := by kernel_rfl
theorem list2 {α : Type} {l : List α} (h : l.length = 2) : ∃ a b, l = [a, b] := by
 match l, h with
 | [a, b], _ => exact ⟨a, b, rfl⟩
theorem list3 {α : Type} {l : List α} (h : l.length = 3) : ∃ a b c, l = [a, b, c] := by
 match l, h with
 | [a, b, c], _ => exact ⟨a, b, c, rfl⟩
theorem list16 {α : Type} {l : List α} (h : l.length = 16) : ∃ c0 c1 c2 c3 c4 c5 c6 c7 c8 c9 ca cb cc cd ce cf, l = [c0, c1, c2, c3, c4, c5, c6, c7, c8, c9, ca, cb, cc, cd, ce, cf] := by
 match l, h with
 | [c0, c1, c2, c3, c4, c5, c6, c7, c8, c9, ca, cb, cc, cd, ce, cf], _ => exact ⟨c0, c1, c2, c3, c4, c5, c6, c7, c8, c9, ca, cb, cc, cd, ce, cf, rfl⟩
section
variable {H : Type} {enc : TypeId × Value → H} {w : World}
theorem int_of {n : Nat} {v : Value} {y : DataW H × List MemPlace} (h : DataW.trod enc Try.prog w 0 (fun _ => true) true n 3 [v] = some y) : ∃ z, v = .int .i64 z ∧ I64 z := by
 obtain ⟨z, e, _, hw⟩ := DataW.trod_int Try.underlying3 h
 simp only [List.cons.injEq, and_true] at e
 exact ⟨z, e, bd_i64 hw⟩
theorem ex_of : ∀ (fuel : Nat) {cs : List Value} {y : DataW H × List MemPlace}, cs.length = 3 → DataW.trod enc Try.prog w 0 (fun _ => true) true fuel 24 cs = some y → ∃ x : Ex, cs = x.cells ∧ x.In w ∧ x.Wf := by
 intro fuel
 induction fuel using Nat.strongRecOn with
 | ind fuel ih =>
  intro cs y hl h
  obtain ⟨c0, c1, c2, rfl⟩ := list3 hl
  obtain ⟨n, rfl, hf⟩ := trod_fieldE Try.underlying24 h
  obtain ⟨y0, h0⟩ := hf 0 _ rfl
  obtain ⟨y1, h1⟩ := hf 1 _ rfl
  obtain ⟨y2, h2⟩ := hf 2 _ rfl
  obtain ⟨z0, rfl, w0⟩ := int_of (v := c0) (y := y0) (n := n) (by simpa [cells_int'] using h0)
  obtain ⟨z1, rfl, w1⟩ := int_of (v := c1) (y := y1) (n := n) (by simpa [cells_int'] using h1)
  have h2' : DataW.trod enc Try.prog w 0 (fun _ => true) true n 22 [c2] = some y2 := by simpa [cells_exprs] using h2
  rcases open_sliceE Try.underlying22 h2' with hcs | ⟨a, len, cap, m, rfl, hcs, hlc, hcm, hi⟩
  ·
   simp only [List.cons.injEq, and_true] at hcs
   subst hcs
   refine ⟨.node z0 z1 none 0 [], rfl, ?_, ?_⟩
   ·
    unfold Ex.In
    exact ⟨⟨Nat.le_refl _, by unfold maxLen; omega⟩, by unfold ExIn; trivial⟩
   ·
    unfold Ex.Wf
    exact ⟨⟨w0, w1⟩, by unfold ExWf; trivial⟩
  ·
   simp only [List.cons.injEq, and_true] at hcs
   subst hcs
   have key : ∀ i, i < len → ∃ x : Ex, (∀ j v, x.cells[j]? = some v → w.cell? (a.add (i * 3 + j)) = some v) ∧ x.In w ∧ x.Wf := fun i hlt => by
    obtain ⟨cs', y', hc, ht⟩ := hi i hlt
    rw [cells_expr] at hc
    obtain ⟨_, hcl, hat⟩ := World.cells?_some hc
    obtain ⟨x, rfl, hin, hwf⟩ := ih m (by omega) hcl ht
    refine ⟨x, fun j v hj => ?_, hin, hwf⟩
    have hjl : j < 3 := (List.getElem?_eq_some_iff.1 hj).1
    have := hat j hjl
    rw [Go.Deep.add_add] at this
    rw [this]
    exact hj
   obtain ⟨l, hll, hp⟩ := choose_list len key
   have hmem : ∀ x ∈ l, x.Wf := fun x hx => by
    obtain ⟨i, hi', he⟩ := List.getElem_of_mem hx
    exact (hp i x (by rw [List.getElem?_eq_getElem hi', he])).2.2
   refine ⟨.node z0 z1 (some a) cap l, ?_, ?_, ?_⟩
   ·
    simp only [Ex.cells, Ex.op, Ex.n, Ex.at', Ex.ks, Ex.cap, hll]
   ·
    unfold Ex.In
    refine ⟨⟨by omega, hcm⟩, ExIn.of fun j x hx => ?_⟩
    obtain ⟨h1, h2, h3⟩ := hp j x hx
    have hjl : j < l.length := (List.getElem?_eq_some_iff.1 hx).1
    have h00 := (hp 0 l[0] (List.getElem?_eq_getElem (by omega))).1 0 _ rfl
    have ha := addr_plain (a := a) (by simpa using h00)
    refine ⟨⟨a.block, a.off, by rw [← ha], ?_, ?_, ?_⟩, h2⟩
    ·
     have := h1 0 _ rfl
     rw [ha, add_plain] at this
     simpa using this
    ·
     have := h1 1 _ rfl
     rw [ha, add_plain] at this
     simpa [Nat.add_assoc] using this
    ·
     have := h1 2 _ rfl
     rw [ha, add_plain] at this
     simpa [Nat.add_assoc] using this
   ·
    unfold Ex.Wf
    exact ⟨⟨w0, w1⟩, ExWf.of hmem⟩
theorem pair_of {n : Nat} {T : TypeId} {c0 c1 : Value} {y : DataW H × List MemPlace} {fs : Array Field} (hT : Try.prog.underlying T = some (.struct fs)) (h0 : fs[0]?.map (fun f => (f.type, f.offset)) = some (3, 0)) (h1 : fs[1]?.map (fun f => (f.type, f.offset)) = some (3, 1)) (h : DataW.trod enc Try.prog w 0 (fun _ => true) true n T [c0, c1] = some y) : ∃ a b, c0 = .int .i64 a ∧ c1 = .int .i64 b ∧ I64 a ∧ I64 b := by
 obtain ⟨m, rfl, hf⟩ := trod_fieldE hT h
 obtain ⟨f0, e0, g0⟩ := Option.map_eq_some_iff.1 h0
 obtain ⟨f1, e1, g1⟩ := Option.map_eq_some_iff.1 h1
 obtain ⟨y0, h0⟩ := hf 0 _ e0
 obtain ⟨y1, h1⟩ := hf 1 _ e1
 simp only [Prod.mk.injEq] at g0 g1
 rw [g0.1, g0.2] at h0
 rw [g1.1, g1.2] at h1
 obtain ⟨a, rfl, w0⟩ := int_of (v := c0) (y := y0) (n := m) (by simpa [cells_int'] using h0)
 obtain ⟨b, rfl, w1⟩ := int_of (v := c1) (y := y1) (n := m) (by simpa [cells_int'] using h1)
 exact ⟨a, b, rfl, rfl, w0, w1⟩
theorem rate_of {fuel : Nat} {cs : List Value} {y : DataW H × List MemPlace} (hl : cs.length = 16) (h : DataW.trod enc Try.prog w 0 (fun _ => true) true fuel 30 cs = some y) : ∃ x : RateV, cs = x.cells ∧ x.In w ∧ x.Wf := by
 obtain ⟨c0, c1, c2, c3, c4, c5, c6, c7, c8, c9, ca, cb, cc, cd, ce, cf, rfl⟩ := list16 hl
 obtain ⟨n, rfl, hf⟩ := trod_fieldE Try.underlying30 h
 obtain ⟨y0, h0⟩ := hf 0 _ rfl
 obtain ⟨y1, h1⟩ := hf 1 _ rfl
 obtain ⟨y2, h2⟩ := hf 2 _ rfl
 obtain ⟨y3, h3⟩ := hf 3 _ rfl
 obtain ⟨y4, h4⟩ := hf 4 _ rfl
 obtain ⟨y5, h5⟩ := hf 5 _ rfl
 obtain ⟨y6, h6⟩ := hf 6 _ rfl
 obtain ⟨y7, h7⟩ := hf 7 _ rfl
 obtain ⟨y8, h8⟩ := hf 8 _ rfl
 obtain ⟨y9, h9⟩ := hf 9 _ rfl
 obtain ⟨z0, rfl, w0⟩ := int_of (v := c0) (y := y0) (n := n) (by simpa [cells_int'] using h0)
 obtain ⟨z1, rfl, w1⟩ := int_of (v := c1) (y := y1) (n := n) (by simpa [cells_int'] using h1)
 obtain ⟨z2, rfl, w2⟩ := int_of (v := c2) (y := y2) (n := n) (by simpa [cells_int'] using h2)
 obtain ⟨z3, z4, rfl, rfl, w3, w4⟩ := pair_of (T := 26) (c0 := c3) (c1 := c4) (y := y3) (n := n) Try.underlying26 rfl rfl (by simpa [cells_span] using h3)
 obtain ⟨z5, rfl, w5⟩ := int_of (v := c5) (y := y4) (n := n) (by simpa [cells_int'] using h4)
 obtain ⟨z6, rfl, w6⟩ := int_of (v := c6) (y := y5) (n := n) (by simpa [cells_int'] using h5)
 obtain ⟨z7, rfl, w7⟩ := int_of (v := c7) (y := y6) (n := n) (by simpa [cells_int'] using h6)
 obtain ⟨z8, z9, rfl, rfl, w8, w9⟩ := pair_of (T := 28) (c0 := c8) (c1 := c9) (y := y7) (n := n) Try.underlying28 rfl rfl (by simpa [cells_rat] using h7)
 obtain ⟨xw, ew, iw, ww⟩ := ex_of n (cs := [ca, cb, cc]) (y := y8) rfl (by simpa [cells_expr] using h8)
 obtain ⟨xp, ep, ip, wp⟩ := ex_of n (cs := [cd, ce, cf]) (y := y9) rfl (by simpa [cells_expr] using h9)
 refine ⟨⟨z0, z1, z2, z3, z4, z5, z6, z7, z8, z9, xw, xp⟩, ?_, ⟨iw, ip⟩, ⟨w0, w1, w2, w3, w4, w5, w6, w7, w8, w9⟩, ww, wp⟩
 simp only [Ex.cells, List.cons.injEq, and_true] at ew ep
 obtain ⟨rfl, rfl, rfl⟩ := ew
 obtain ⟨rfl, rfl, rfl⟩ := ep
 rfl
theorem slr_of_rates {fuel : Nat} {v : Value} {x : DataW H × List MemPlace} (h : DataW.trod enc Try.prog w 0 (fun _ => true) true fuel 31 [v] = some x) :
  ∃ a n cap l, v = .slice a n cap ∧ n ≤ cap ∧ cap ≤ maxLen ∧ SlR w a n l ∧ ∀ x ∈ l, x.Wf := by
 rcases open_sliceE Try.underlying31 h with hcs | ⟨a, len, cap, m, _, hcs, hl, hm, hi⟩
 ·
  simp only [List.cons.injEq, and_true] at hcs
  subst hcs
  exact ⟨none, 0, 0, [], rfl, Nat.le_refl _, by unfold maxLen; omega, SlR.nil _ _, fun x hx => by simp at hx⟩
 ·
  simp only [List.cons.injEq, and_true] at hcs
  subst hcs
  have key : ∀ i, i < len → ∃ x : RateV, (∀ j v, x.cells[j]? = some v → w.cell? (a.add (i * 16 + j)) = some v) ∧ x.In w ∧ x.Wf := fun i hlt => by
   obtain ⟨cs', y', hc, ht⟩ := hi i hlt
   rw [cells_rate] at hc
   obtain ⟨_, hcl, hat⟩ := World.cells?_some hc
   obtain ⟨x, rfl, hin, hwf⟩ := rate_of hcl ht
   refine ⟨x, fun j v hj => ?_, hin, hwf⟩
   have hjl : j < 16 := (List.getElem?_eq_some_iff.1 hj).1
   have := hat j hjl
   rw [Go.Deep.add_add] at this
   rw [this]
   exact hj
  obtain ⟨l, hll, hp⟩ := choose_list len key
  refine ⟨some a, len, cap, l, rfl, hl, hm, ⟨hll, fun i x hx => ?_⟩, fun x hx => ?_⟩
  ·
   have hlt : i < l.length := (List.getElem?_eq_some_iff.1 hx).1
   have h0 := (hp 0 l[0] (List.getElem?_eq_getElem (by omega))).1 0 _ rfl
   have ha := addr_plain (a := a) (by simpa using h0)
   obtain ⟨h1, h2, _⟩ := hp i x hx
   refine ⟨h2, a.block, a.off, by rw [← ha], fun j v hj => ?_⟩
   have h3 := h1 j v hj
   rw [ha, add_plain] at h3
   rw [Nat.add_assoc]
   exact h3
  ·
   obtain ⟨i, hi', he⟩ := List.getElem_of_mem hx
   exact (hp i x (by rw [List.getElem?_eq_getElem hi', he])).2.2
set_option maxRecDepth 100000 in
theorem expr_arg {b0 : Nat} {v : Value} {d : DataW H} {p : List MemPlace} (hv : Value.okWide Try.prog w .any b0 24 v) (h : DataW.Trod enc Try.prog w 0 (fun _ => true) true 24 v d p) : ∃ x : Ex, v = x.val ∧ x.In w ∧ x.Wf := by
 obtain ⟨cs, rfl, hsz⟩ := okWide_struct Try.underlying24 hv
 obtain ⟨fuel, hf⟩ := h
 obtain ⟨l⟩ := cs
 obtain ⟨x, hx, hin, hwf⟩ := ex_of fuel (cs := l) (y := (d, p)) (by rw [← cells_expr]; simpa using hsz) (by simpa [Value.cells] using hf)
 exact ⟨x, by rw [hx]; rfl, hin, hwf⟩
set_option maxRecDepth 100000 in
theorem rate_arg {b0 : Nat} {v : Value} {d : DataW H} {p : List MemPlace} (hv : Value.okWide Try.prog w .any b0 30 v) (h : DataW.Trod enc Try.prog w 0 (fun _ => true) true 30 v d p) : ∃ x : RateV, v = x.val ∧ x.In w ∧ x.Wf := by
 obtain ⟨cs, rfl, hsz⟩ := okWide_struct Try.underlying30 hv
 obtain ⟨fuel, hf⟩ := h
 obtain ⟨l⟩ := cs
 obtain ⟨x, hx, hin, hwf⟩ := rate_of (fuel := fuel) (cs := l) (y := (d, p)) (by rw [← cells_rate]; simpa using hsz) (by simpa [Value.cells] using hf)
 exact ⟨x, by rw [hx]; rfl, hin, hwf⟩
end
end
section
set_option linter.unusedSimpArgs false
set_option linter.unusedVariables false
open Go.ChangeShapes Go.WideShapes Go.ChangeAt Go.RowKit Go.Deep
section
variable {H : Type} {enc : TypeId × Value → H} {w : World}
set_option maxRecDepth 100000 in
theorem ask_arg {b0 : Nat} {v : Value} {d : DataW H} {p : List MemPlace} (hv : Value.okWide Try.prog w .any b0 49 v) (h : DataW.Trod enc Try.prog w 0 (fun _ => true) true 49 v d p) : ∃ k fr un ps : Int, v = .agg #[.int .i64 k, .int .i64 fr, .int .i64 un, .int .i64 ps] ∧ I64 k ∧ I64 fr ∧ I64 un ∧ I64 ps := by
 obtain ⟨c0, c1, c2, c3, y0, y1, y2, y3, n, rfl, _, _, h0, h1, h2, h3⟩ := Go.Joins.open_agg4 Try.underlying49 (by kernel_rfl) (by kernel_rfl) hv h
 obtain ⟨k, rfl, i0⟩ := int_of h0
 obtain ⟨fr, rfl, i1⟩ := int_of h1
 obtain ⟨un, rfl, i2⟩ := int_of h2
 obtain ⟨ps, rfl, i3⟩ := int_of h3
 exact ⟨k, fr, un, ps, rfl, i0, i1, i2, i3⟩
theorem list4 {α : Type} {l : List α} (h : l.length = 4) : ∃ a b c d, l = [a, b, c, d] := by
 match l, h with
 | [a, b, c, d], _ => exact ⟨a, b, c, d, rfl⟩
set_option maxRecDepth 100000 in
theorem vars_arg {b0 : Nat} {v : Value} {d : DataW H} {p : List MemPlace} (hv : Value.okWide Try.prog w .any b0 87 v) (h : DataW.Trod enc Try.prog w 0 (fun _ => true) true 87 v d p) : ∃ k fr un ps : Int, v = .agg #[.int .i64 k, .int .i64 fr, .int .i64 un, .int .i64 ps] ∧ I64 k ∧ I64 fr ∧ I64 un ∧ I64 ps := by
 have hv2 : ∃ cs : Array Value, v = .agg cs ∧ cs.size = Try.prog.cellsOf 87 := by
  simp only [Value.okWide, Try.underlying87] at hv
  obtain ⟨cs, h1, h2, _⟩ := hv
  exact ⟨cs, h1, h2⟩
 obtain ⟨cs, rfl, hsz⟩ := hv2
 obtain ⟨fuel, hf⟩ := h
 obtain ⟨l⟩ := cs
 have hl : l.length = 4 := by rw [show (4 : Nat) = Try.prog.cellsOf 87 by kernel_rfl, ← hsz]; simp
 obtain ⟨c0, c1, c2, c3, rfl⟩ := list4 hl
 obtain ⟨y0, y1, y2, y3, n, _, h0, h1, h2, h3⟩ := trod_array4 Try.underlying87 (by kernel_rfl) (show DataW.trod enc Try.prog w 0 (fun _ => true) true fuel 87 [c0, c1, c2, c3] = some (d, p) by simpa [Value.cells] using hf)
 obtain ⟨k, rfl, i0⟩ := int_of h0
 obtain ⟨fr, rfl, i1⟩ := int_of h1
 obtain ⟨un, rfl, i2⟩ := int_of h2
 obtain ⟨ps, rfl, i3⟩ := int_of h3
 exact ⟨k, fr, un, ps, rfl, i0, i1, i2, i3⟩
end
end
end Go.Proofs.Ytcmodmchnokmgaa
