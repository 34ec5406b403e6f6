/-
 Texts built as one: XMapA, XSpA, XSpB, XSpC, XSpD.
-/
import Derived.Test.YtcmodmchnokmgaaEvA
import Derived.Test.YtcmodmchnokmgaaMapI
import Derived.Test.YtcmodmchnokmgaaMF
namespace Go.Proofs.Ytcmodmchnokmgaa
section
set_option linter.unusedSimpArgs false
set_option linter.unusedVariables false
open Go.RowKit Go.MapKept
def AskV.key (a : AskV) : Value := .agg #[.int .i64 a.k, .int .i64 a.fr, .int .i64 a.un, .int .i64 a.ps]
instance : DecidableEq AskV := fun a b =>
 if h : a.k = b.k ∧ a.fr = b.fr ∧ a.un = b.un ∧ a.ps = b.ps then isTrue (by cases a; cases b; simp_all) else isFalse (fun e => h (by subst e; exact ⟨rfl, rfl, rfl, rfl⟩))
theorem ask_ext {a b : AskV} : a = b ↔ a.k = b.k ∧ a.fr = b.fr ∧ a.un = b.un ∧ a.ps = b.ps := by
 cases a; cases b; simp
set_option maxRecDepth 100000 in
theorem equal_ask (a b : AskV) (w : World) : (Op.equal 49 a.key b.key).run Try.prog w = .ok (decide (a = b)) w := by
 have e : decide (a = b) = (a.k == b.k && (a.fr == b.fr && (a.un == b.un && a.ps == b.ps))) := by
  rw [Bool.eq_iff_iff]
  simp [ask_ext]
 rw [e]
 unfold AskV.key
 show (Op.equalIn 10000 _ _ _).run _ _ = _
 go_simp
 by_cases h1 : a.k = b.k <;> by_cases h2 : a.fr = b.fr <;> by_cases h3 : a.un = b.un <;> by_cases h4 : a.ps = b.ps <;> simp [h1, h2, h3, h4]
set_option maxRecDepth 100000 in
theorem check_ask (a : AskV) (w : World) (e : Bool) : (Instr.checkKey e 10000 49 a.key).run Try.prog w = .ok () w := by
 have hi : ∀ n : Int, (Instr.checkKey e 9999 3 (.int .i64 n)).run Try.prog w = .ok () w := fun n => run_checkKey Try.underlying3 (by simp [IsKey]) e 9998
 unfold AskV.key
 rw [Instr.checkKey]
 simp only [Sem.run_bind, run_underlying Try.underlying49, Result.andThen_ok]
 rw [← Array.forIn_toList]
 go_simp
/-- Block r is a map with the keys f; at a key its value. -/
def KMap (v : AskV → Value) (w : World) (r : Nat) (f : List AskV) : Prop := ∃ es c, w.heap[r]? = some (.map es c) ∧ es.toList.map (fun e => (e.key, e.val)) = f.map (fun a => (a.key, v a))
theorem find_asks (v : AskV → Value) (a : AskV) (w : World) : ∀ (es : List MapEntry) (f : List AskV) (i : Nat), es.map (fun e => (e.key, e.val)) = f.map (fun a => (a.key, v a)) →
  (a ∉ f → (Instr.findAsking 49 a.key es i).run Try.prog w = .ok none w) ∧ (a ∈ f → ∃ j, (Instr.findAsking 49 a.key es i).run Try.prog w = .ok (some (j, v a)) w)
 | [], f, i, h => by
  cases f with
  | nil => exact ⟨fun _ => by simp [Instr.findAsking], fun h => by simp at h⟩
  | cons x r => simp at h
 | e :: es, f, i, h => by
  cases f with
  | nil => simp at h
  | cons x r =>
   simp only [List.map_cons, List.cons.injEq, Prod.mk.injEq] at h
   obtain ⟨⟨hk, hv⟩, hr⟩ := h
   have ih := find_asks v a w es r (i + 1) hr
   have he := equal_ask a x w
   by_cases hx : a = x
   ·
    subst hx
    rw [decide_eq_true rfl] at he
    refine ⟨fun hn => by simp at hn, fun _ => ⟨i, ?_⟩⟩
    simp [Instr.findAsking, hk, he, hv]
   ·
    rw [decide_eq_false hx] at he
    refine ⟨fun hn => ?_, fun hm => ?_⟩
    ·
     have h1 := ih.1 (fun hh => hn (by simp [hh]))
     simp [Instr.findAsking, hk, he, h1]
    ·
     rcases List.mem_cons.1 hm with h1 | h1
     ·
      exact (hx h1).elim
     ·
      obtain ⟨j, h2⟩ := ih.2 h1
      exact ⟨j, by simp [Instr.findAsking, hk, he, h2]⟩
theorem find_key (v : AskV → Value) (a : AskV) (w : World) {es : List MapEntry} {f : List AskV} (h : es.map (fun e => (e.key, e.val)) = f.map (fun a => (a.key, v a))) :
  (a ∉ f → (Instr.findKey 49 a.key es).run Try.prog w = .ok none w) ∧ (a ∈ f → ∃ j, (Instr.findKey 49 a.key es).run Try.prog w = .ok (some (j, v a)) w) := by
 have hf := find_asks v a w es f 0 h
 have he : (Instr.findKey 49 a.key es).run Try.prog w = (Instr.findAsking 49 a.key es 0).run Try.prog w := by
  cases es with
  | nil => simp [Instr.findKey, run_underlying Try.underlying49, Instr.findNow, Instr.findAsking]
  | cons e es =>
   have hs : ∀ fs, Instr.sameNow (.struct fs) a.key e.key = none := fun fs => by unfold AskV.key; rfl
   simp [Instr.findKey, run_underlying Try.underlying49, Instr.findNow, hs]
 rw [he]
 exact hf
section
variable {w : World} {T E : TypeId} {r : Nat} {f : List AskV} {v : AskV → Value}
theorem run_lookup_kmap (hT : Try.prog.underlying T = some (.map 49 E)) (h : KMap v w r f) (z : Value) (hz : (zeroValue E).run Try.prog w = .ok z w) (a : AskV) :
  (Instr.lookup T (.map (some r)) a.key true).run Try.prog w = .ok (.tuple #[if a ∈ f then v a else z, .bool (decide (a ∈ f))]) w := by
 obtain ⟨es, c, hb, hp⟩ := h
 have hf := find_key v a w hp
 unfold Instr.lookup
 by_cases hl : a ∈ f
 ·
  obtain ⟨j, h1⟩ := hf.2 hl
  simp [run_underlying hT, MapKept.run_getObj_map hb, check_ask, h1, hl]
 ·
  have h1 := hf.1 hl
  simp [run_underlying hT, MapKept.run_getObj_map hb, check_ask, h1, hz, hl]
theorem run_update_kmap (hT : Try.prog.underlying T = some (.map 49 E)) (h : KMap v w r f) (a : AskV) (ha : a ∉ f) :
  ∃ w', (Instr.mapUpdate T (.map (some r)) a.key (v a)).run Try.prog w = .ok () w' ∧ KMap v w' r (f ++ [a]) ∧ w.grownBy w' (some r) := by
 obtain ⟨es, c, hb, hp⟩ := h
 have hf := (find_key v a w hp).1 ha
 have hgb : ∀ o, w.grownBy { w with heap := w.heap.setIfInBounds r o } (some r) := fun o =>
  ⟨rfl, rfl, rfl, by simp, fun i _ hi => (heap_set hb).2 i (fun e => hi (by rw [e]))⟩
 unfold Instr.mapUpdate
 refine ⟨_, ?_, ⟨es.push ⟨a.key, v a, c⟩, c + 1, (heap_set hb).1, ?_⟩, hgb _⟩
 ·
  simp [run_underlying hT, MapKept.run_getObj_map hb, check_ask, hf, MapKept.run_setObj_map _ hb]
 ·
  rw [Array.toList_push, List.map_append, hp]
  simp
end
theorem KMap.made (v : AskV → Value) (w : World) : KMap v (w.alloc (.map #[] 0)) w.heap.size [] := ⟨#[], 0, by show (w.heap.push _)[w.heap.size]? = _; simp, rfl⟩
theorem KMap.lt {v : AskV → Value} {w : World} {r : Nat} {f : List AskV} (h : KMap v w r f) : r < w.heap.size := by
 obtain ⟨_, _, hb, _⟩ := h
 exact (Array.getElem?_eq_some_iff.1 hb).1
theorem KMap.of_block {v : AskV → Value} {w w' : World} {r : Nat} {f : List AskV} (h : KMap v w r f) (e : w'.heap[r]? = w.heap[r]?) : KMap v w' r f := by
 obtain ⟨es, c, hb, hp⟩ := h
 exact ⟨es, c, e.trans hb, hp⟩
theorem KMap.step {v : AskV → Value} {w w' : World} {r : Nat} {f : List AskV} (h : KMap v w r f) (hb : Below w.heap.size w w') : KMap v w' r f := h.of_block (hb.block r h.lt)
theorem KMap.alloc {v : AskV → Value} {w : World} {r : Nat} {f : List AskV} (h : KMap v w r f) (o : Obj) : KMap v (w.alloc o) r f := h.of_block (Below.heap_alloc _ _ _ h.lt)
theorem KMap.drew {v : AskV → Value} {w : World} {r : Nat} {f : List AskV} (h : KMap v w r f) : KMap v w.drew r f := h
theorem KMap.setCell {v : AskV → Value} {w : World} {r : Nat} {f : List AskV} (h : KMap v w r f) (a : Addr) (x : Value) : KMap v (w.setCell a x) r f := by
 obtain ⟨es, c, hb, hp⟩ := h
 refine ⟨es, c, ?_, hp⟩
 simp only [World.setCell, Array.getElem?_modify]
 split
 ·
  rename_i e; subst e; rw [hb]; rfl
 ·
  exact hb
/-- 'm[k] = v' at the operation. -/
theorem wpList_update_kmap (w : World) {ops : Array Oper} {rest : List Oper} {o : Oper} {a : Act} {Q : Exit → Act → World → Prop}
  (hg : o.guard = none) (m x u : Operand) (T : TypeId) (hop : o.op = Op.mapUpdate T m x u) (E : TypeId)
  (hT : Try.prog.underlying T = some (.map 49 E)) (v : AskV → Value) (r : Nat) (f : List AskV) (hm : a.eval m = .map (some r)) (h : KMap v w r f)
  (k : AskV) (hn : k ∉ f) (hx : a.eval x = k.key) (hv : a.eval u = v k)
  (hK' : ∀ w', KMap v w' r (f ++ [k]) → w.grownBy w' (some r) → wpList Try.prog ops Q rest (a.put o.dst undef) w') : wpList Try.prog ops Q (o :: rest) a w := by
 refine wpList_plain hg fun C hC => ?_
 obtain ⟨w', hrun, r1, r2⟩ := run_update_kmap hT h k hn
 unfold Oper.wp
 simp [execOp, hop, hm, hx, hv, hrun, Result.andThen]
 exact hC _ _ (hK' w' r1 r2)
end
section
set_option linter.unusedSimpArgs false
set_option linter.unusedVariables false
open Go.RowKit
def sumQ (l : List Int) : Int := l.foldl (· + ·) 0
theorem sumQ_snoc (l : List Int) (z : Int) : sumQ (l ++ [z]) = sumQ l + z := by unfold sumQ; rw [List.foldl_append]; rfl
theorem sumQ_take {l : List Int} {k : Nat} (h : k < l.length) : sumQ (l.take (k + 1)) = sumQ (l.take k) + l.getD k 0 := by
 rw [List.take_succ_eq_append_getElem h, sumQ_snoc]; simp [List.getD, h]
theorem sumQ_bound {l : List Int} (h : ∀ z ∈ l, 0 ≤ z ∧ z ≤ 1000000000) : ∀ k : Nat, k ≤ l.length → 0 ≤ sumQ (l.take k) ∧ sumQ (l.take k) ≤ 1000000000 * k
 | 0, _ => by simp [sumQ]
 | k + 1, hk => by
  have h1 := sumQ_bound h k (by omega)
  have h2 : 0 ≤ l.getD k 0 ∧ l.getD k 0 ≤ 1000000000 := h _ (by simp [List.getD, show k < l.length by omega])
  rw [sumQ_take (by omega)]
  omega
theorem priceV_all (l : List RateV) (a : AskV) : (∀ z ∈ (priceV l a).1, 0 ≤ z ∧ z ≤ 1000000000) ∧ (priceV l a).1.length ≤ 60 := by
 unfold priceV
 split
 ·
  rename_i h
  simp only [Bool.and_eq_true] at h
  obtain ⟨⟨b1, b2, b3, b4⟩, _, _⟩ := askB_in h.2
  split
  ·
   simp
  ·
   split
   ·
    simp
   ·
    refine ⟨fun z hz => ?_, ?_⟩
    ·
     obtain ⟨j, _, rfl⟩ := List.mem_map.1 hz
     exact priceN_bound l a _
    ·
     simp only; rw [cstL_length]; unfold AskV.len; omega
 ·
  simp
def costQ (l : List RateV) (a : AskV) : Int := sumQ (priceV l a).1
def hasQ (l : List RateV) (a : AskV) : Bool := decide ((priceV l a).2.2 = 0)
def costV (l : List RateV) (a : AskV) : Value := .agg #[.int .i64 (costQ l a), .bool (hasQ l a)]
theorem costQ_bound (l : List RateV) (a : AskV) : 0 ≤ costQ l a ∧ costQ l a ≤ 60000000000 := by
 obtain ⟨h1, h2⟩ := priceV_all l a
 have h3 := sumQ_bound h1 _ (Nat.le_refl _)
 rw [List.take_length] at h3
 unfold costQ
 omega
/-! Ways. -/
structure WayV where
 c : Int
 s : Bool
 cuts : List Int
def noW : WayV := ⟨0, false, []⟩
def betterW (w v : WayV) : Bool := if v.s && w.s then (if w.c = v.c then decide (w.cuts.length < v.cuts.length) else decide (w.c < v.c)) else w.s
/-- The way that first takes the nights up to u. -/
def candW (l : List RateV) (a : AskV) (V : Int → WayV) (nt u : Int) : WayV :=
 if decide (u < a.un) && hasQ l ⟨a.k, nt, u, a.ps⟩ then ⟨costQ l ⟨a.k, nt, u, a.ps⟩ + (V u).c, (V u).s, u :: (V u).cuts⟩ else ⟨costQ l ⟨a.k, nt, u, a.ps⟩, hasQ l ⟨a.k, nt, u, a.ps⟩, []⟩
/-- The best one of the first j ones. -/
def foldW (l : List RateV) (a : AskV) (V : Int → WayV) (nt : Int) : Nat → WayV
 | 0 => noW
 | j + 1 => if betterW (candW l a V nt (nt + 1 + j)) (foldW l a V nt j) then candW l a V nt (nt + 1 + j) else foldW l a V nt j
/-- V says what the best ways from each night on are. -/
structure RecW (l : List RateV) (a : AskV) (V : Int → WayV) : Prop where
 eq : ∀ nt, a.fr ≤ nt → nt < a.un → foldW l a V nt (a.un - nt).toNat = V nt
 lo : ∀ nt, a.fr ≤ nt → nt < a.un → 0 ≤ (V nt).c ∧ (V nt).c ≤ 1000000000000000 ∧ (V nt).cuts.length ≤ 1000
theorem candW_bound {l : List RateV} {a : AskV} {V : Int → WayV} (h : RecW l a V) {nt u : Int} (h1 : a.fr ≤ nt) (h2 : nt < u) : 0 ≤ (candW l a V nt u).c ∧ (candW l a V nt u).c ≤ 1000060000000000 ∧ (candW l a V nt u).cuts.length ≤ 1001 := by
 have hb := costQ_bound l ⟨a.k, nt, u, a.ps⟩
 unfold candW
 split
 ·
  rename_i hc
  simp only [Bool.and_eq_true, decide_eq_true_eq] at hc
  have := h.lo u (by omega) hc.1
  simp only [List.length_cons]
  omega
 ·
  simp only [List.length_nil]; omega
theorem foldW_bound {l : List RateV} {a : AskV} {V : Int → WayV} (h : RecW l a V) {nt : Int} (h1 : a.fr ≤ nt) : ∀ j : Nat, 0 ≤ (foldW l a V nt j).c ∧ (foldW l a V nt j).c ≤ 1000060000000000 ∧ (foldW l a V nt j).cuts.length ≤ 1001
 | 0 => by simp [foldW, noW]
 | j + 1 => by
  unfold foldW
  split
  ·
   exact candW_bound h h1 (by omega)
  ·
   exact foldW_bound h h1 j
end
section
set_option linter.unusedSimpArgs false
set_option linter.unusedVariables false
open Go.RowKit
theorem zero_price (w : World) : (zeroValue 128).run Try.prog w = .ok (.agg #[.int .i64 0, .bool false]) w := by kernel_rfl
theorem Ch.of_belowS {o : Nat → Prop} {A B : World} (h : Below A.heap.size A B) : Ch o A B := ⟨h.os, h.tape, h.output, h.size, fun k hk _ => h.block k hk⟩
/-- Where only block m, and blocks above, turn. -/
theorem Ch.own {A B : World} {o : Nat → Prop} (h : Ch (fun b => o b ∨ A.heap.size ≤ b) A B) : Ch o A B := h.mono (fun k hk ho => by rcases ho with h | h; exact h; omega)
set_option maxRecDepth 100000 in
set_option maxHeartbeats 3200000 in
theorem of_any (w0 : World) (ad : Option Addr) (n cap : Nat) (l : List RateV) (m : Nat) (f : List AskV) (k fr un ps : Int) (w : World) (hs : SlR w0 ad n l) (hn : n ≤ 9223372036854775807) (hb0 : Below w0.heap.size w0 w) (hm0 : w0.heap.size ≤ m) (hk : KMap (costV l) w m f) (C : Int) (B : Bool) (hC : costV l ⟨k, fr, un, ps⟩ = .agg #[.int .i64 C, .bool B]) :
  Calls Try.prog 90 #[.agg #[.slice ad n cap, .map (some m)], .agg #[.int .i64 k, .int .i64 fr, .int .i64 un, .int .i64 ps]] w fun e w' => e = .returned (.agg #[.int .i64 C, .bool B]) ∧ (∃ f', KMap (costV l) w' m f') ∧ Ch (fun b => b = m) w w' := by
 have HS := Lib.hid hs
 have HC := Lib.hid hC
 have HKM := Lib.hid hk
 have HB0W := Lib.hid hb0
 have hml := hk.lt
 clear hs hC hk hb0
 go_enter Try.func90, Try.ntmps90
 go_upto_region 1 with fail
 have HB0 := Below.refl w.heap.size w
 obtain ⟨w1, hw1⟩ : ∃ x, World.alloc (World.alloc (World.alloc w (.cells #[.slice ad n cap, .map (some m)] 99)) (.cells #[.int .i64 k, .int .i64 fr, .int .i64 un, .int .i64 ps] 49)) (.cells #[.int .i64 0, .bool false] 128) = x := ⟨_, rfl⟩
 rw [hw1]
 have hb1 : Below w.heap.size w w1 := by rw [← hw1]; (repeat' (first | (with_reducible first | exact Below.refl _ _ | assumption | exact Bw.out (by assumption) | refine bw_alloc ?_ _ | refine bw_step ?_ (by assumption) | refine Below.alloc ?_ ?_ _ | refine Below.drew ?_ | refine below_drewN ?_ _ | refine Below.setCell ?_ ?_ _ | refine below_step ?_ (by assumption) ?_ | exact Nat.le_refl _) | omega | (simp; omega) | (simp; done)))
 have R_p_1 : Row w1 (w.heap.size) [.slice ad n cap, .map (some m)] := by rw [← hw1]; (repeat' (first | (with_reducible assumption) | (with_reducible refine Row.new' _ _ _ (by first | rfl | (simp; done) | omega)) | (with_reducible first | refine Row.alloc ?_ _ | refine Row.drew ?_ | refine Row.step ?_ (by assumption) | refine Row.drewN ?_ _) | (with_reducible refine Row.set2' ?_ _ _; first | exact ⟨_, _, by assumption⟩ | exact ⟨_, _, Row.alloc (by assumption) _⟩) | (with_reducible refine Row.other ?_ (by first | omega | (simp; omega)) _)))
 have c_p_0_1 := R_p_1.cell 0 rfl
 have c_p_1_1 := R_p_1.cell 1 rfl
 have l_p_1 := R_p_1.lt
 have R_a_1 : Row w1 (w.heap.size + 1) [.int .i64 (k), .int .i64 (fr), .int .i64 (un), .int .i64 (ps)] := by rw [← hw1]; (repeat' (first | (with_reducible assumption) | (with_reducible refine Row.new' _ _ _ (by first | rfl | (simp; done) | omega)) | (with_reducible first | refine Row.alloc ?_ _ | refine Row.drew ?_ | refine Row.step ?_ (by assumption) | refine Row.drewN ?_ _) | (with_reducible refine Row.set2' ?_ _ _; first | exact ⟨_, _, by assumption⟩ | exact ⟨_, _, Row.alloc (by assumption) _⟩) | (with_reducible refine Row.other ?_ (by first | omega | (simp; omega)) _)))
 have c_a_0_1 := R_a_1.cell 0 rfl
 have c_a_1_1 := R_a_1.cell 1 rfl
 have c_a_2_1 := R_a_1.cell 2 rfl
 have c_a_3_1 := R_a_1.cell 3 rfl
 have l_a_1 := R_a_1.lt
 have R_o_1 : Row w1 (w.heap.size + 1 + 1) [.int .i64 0, .bool false] := by rw [← hw1]; (repeat' (first | (with_reducible assumption) | (with_reducible refine Row.new' _ _ _ (by first | rfl | (simp; done) | omega)) | (with_reducible first | refine Row.alloc ?_ _ | refine Row.drew ?_ | refine Row.step ?_ (by assumption) | refine Row.drewN ?_ _) | (with_reducible refine Row.set2' ?_ _ _; first | exact ⟨_, _, by assumption⟩ | exact ⟨_, _, Row.alloc (by assumption) _⟩) | (with_reducible refine Row.other ?_ (by first | omega | (simp; omega)) _)))
 have c_o_0_1 := R_o_1.cell 0 rfl
 have c_o_1_1 := R_o_1.cell 1 rfl
 have z_o_0_1 := R_o_1.frozen 0
 have z_o_1_1 := R_o_1.frozen 1
 have l_o_1 := R_o_1.lt
 have HB1 := HB0.trans (hb1.mono HB0.size)
 have hs1 := hb1.size
 have hz1 := HB1.size
 have HK1 := Lib.hid (HKM.out.step HB1)
 by_cases hmem : (⟨k, fr, un, ps⟩ : AskV) ∈ f
 ·
  have hlu : Sem.run Try.prog (Instr.lookup 97 (.map (some m)) (.agg #[.int .i64 k, .int .i64 fr, .int .i64 un, .int .i64 ps]) true) w1 = .ok (.tuple #[.agg #[.int .i64 C, .bool B], .bool true]) w1 := by
   have h := run_lookup_kmap Try.underlying97 HK1.out _ (zero_price _) ⟨k, fr, un, ps⟩
   rw [if_pos hmem, decide_eq_true hmem, HC.out] at h
   exact h
  have HCA := Lib.hid (Ch.of_belowS (o := fun b => b = m ∨ w.heap.size ≤ b) HB1)
  clear hmem
  go_wp2_with fail
  have RP := (R_o_1.set2 (.int .i64 C) (.bool B)).alloc (.cells #[.int .i64 C, .bool B] 128)
  have q0 := RP.cell 0 rfl
  have q1 := RP.cell 1 rfl
  refine bodyPost_ret (v := .agg #[.int .i64 C, .bool B]) (by simp [results, Try.results90, go_sem, q0, q1]) rfl ⟨rfl, ⟨_, ((HK1.out.setCell _ _).setCell _ _).alloc _⟩, (((HCA.out.setCell (p := ⟨w.heap.size + 1 + 1, 0, none⟩) (Or.inr (by simp only; omega)) _).setCell (p := ⟨w.heap.size + 1 + 1, 1, none⟩) (Or.inr (by simp only; omega)) _).alloc _).own⟩
 ·
  have hlu : Sem.run Try.prog (Instr.lookup 97 (.map (some m)) (.agg #[.int .i64 k, .int .i64 fr, .int .i64 un, .int .i64 ps]) true) w1 = .ok (.tuple #[.agg #[.int .i64 0, .bool false], .bool false]) w1 := by
   have h := run_lookup_kmap Try.underlying97 HK1.out _ (zero_price _) ⟨k, fr, un, ps⟩
   rw [if_neg hmem, decide_eq_false hmem] at h
   exact h
  have HME := Lib.hid hmem
  obtain ⟨P, K, E, hpr⟩ : ∃ P K E, priceV l ⟨k, fr, un, ps⟩ = (P, K, E) := ⟨_, _, _, rfl⟩
  have HPR := Lib.hid hpr
  obtain ⟨bE, hbE⟩ : ∃ b, (E == 0) = b := ⟨_, rfl⟩
  have hB : C = sumQ P ∧ B = bE := by
   have h := HC.out
   unfold costV costQ hasQ at h
   rw [hpr] at h
   simp only [Value.agg.injEq, Array.mk.injEq, List.cons.injEq, Value.int.injEq, Value.bool.injEq, true_and, and_true] at h
   exact ⟨h.1.symm, by rw [← h.2, ← hbE]; rfl⟩
  obtain ⟨hPa, hPl⟩ := priceV_all l ⟨k, fr, un, ps⟩
  rw [hpr] at hPa hPl
  have HPA := Lib.hid hPa
  have HBW : Below w0.heap.size w0 (w1.alloc (.cells #[.int .i64 0, .bool false] 128)) := (HB0W.out.trans (HB1.mono HB0W.out.size)).alloc (HB0W.out.trans (HB1.mono HB0W.out.size)).size _
  have HB := Lib.hid hB
  have HPL : Hid (P.length ≤ 60) := hPl
  clear hmem hpr hPa hPl hB
  go_wp2_with fail
  refine (Price_any ad n cap l k fr un ps _ (HS.out.step HBW) hn P K E HPR.out).mono ?_
  rintro e w2 ⟨v, rfl, hv, hb2⟩
  have R_p_2 : Row w2 (w.heap.size) [.slice ad n cap, .map (some m)] := by (repeat' (first | (with_reducible assumption) | (with_reducible refine Row.new' _ _ _ (by first | rfl | (simp; done) | omega)) | (with_reducible first | refine Row.alloc ?_ _ | refine Row.drew ?_ | refine Row.step ?_ (by assumption) | refine Row.drewN ?_ _) | (with_reducible refine Row.set2' ?_ _ _; first | exact ⟨_, _, by assumption⟩ | exact ⟨_, _, Row.alloc (by assumption) _⟩) | (with_reducible refine Row.other ?_ (by first | omega | (simp; omega)) _)))
  have c_p_0_2 := R_p_2.cell 0 rfl
  have c_p_1_2 := R_p_2.cell 1 rfl
  have l_p_2 := R_p_2.lt
  have R_a_2 : Row w2 (w.heap.size + 1) [.int .i64 (k), .int .i64 (fr), .int .i64 (un), .int .i64 (ps)] := by (repeat' (first | (with_reducible assumption) | (with_reducible refine Row.new' _ _ _ (by first | rfl | (simp; done) | omega)) | (with_reducible first | refine Row.alloc ?_ _ | refine Row.drew ?_ | refine Row.step ?_ (by assumption) | refine Row.drewN ?_ _) | (with_reducible refine Row.set2' ?_ _ _; first | exact ⟨_, _, by assumption⟩ | exact ⟨_, _, Row.alloc (by assumption) _⟩) | (with_reducible refine Row.other ?_ (by first | omega | (simp; omega)) _)))
  have c_a_0_2 := R_a_2.cell 0 rfl
  have c_a_1_2 := R_a_2.cell 1 rfl
  have c_a_2_2 := R_a_2.cell 2 rfl
  have c_a_3_2 := R_a_2.cell 3 rfl
  have l_a_2 := R_a_2.lt
  have R_o_2 : Row w2 (w.heap.size + 1 + 1) [.int .i64 0, .bool false] := by (repeat' (first | (with_reducible assumption) | (with_reducible refine Row.new' _ _ _ (by first | rfl | (simp; done) | omega)) | (with_reducible first | refine Row.alloc ?_ _ | refine Row.drew ?_ | refine Row.step ?_ (by assumption) | refine Row.drewN ?_ _) | (with_reducible refine Row.set2' ?_ _ _; first | exact ⟨_, _, by assumption⟩ | exact ⟨_, _, Row.alloc (by assumption) _⟩) | (with_reducible refine Row.other ?_ (by first | omega | (simp; omega)) _)))
  have c_o_0_2 := R_o_2.cell 0 rfl
  have c_o_1_2 := R_o_2.cell 1 rfl
  have z_o_0_2 := R_o_2.frozen 0
  have z_o_1_2 := R_o_2.frozen 1
  have l_o_2 := R_o_2.lt
  have HB2 : Below w.heap.size w w2 := by (repeat' (first | (with_reducible first | exact Below.refl _ _ | assumption | exact Bw.out (by assumption) | refine bw_alloc ?_ _ | refine bw_step ?_ (by assumption) | refine Below.alloc ?_ ?_ _ | refine Below.drew ?_ | refine below_drewN ?_ _ | refine Below.setCell ?_ ?_ _ | refine below_step ?_ (by assumption) ?_ | exact Nat.le_refl _) | omega | (simp; omega) | (simp; done)))
  clear R_p_1 c_p_0_1 c_p_1_1 R_a_1 c_a_0_1 c_a_1_1 c_a_2_1 c_a_3_1 R_o_1 c_o_0_1 c_o_1_1 z_o_0_1 z_o_1_1 hb1 hw1
  obtain ⟨pa, pc, rfl, hsl, hsc, hsm⟩ := hv
  have HSL := Lib.hid hsl
  have HK2 := Lib.hid (HKM.out.step HB2)
  have hs2 := HB2.size
  obtain ⟨M, hM⟩ : ∃ M, P.length = M := ⟨_, rfl⟩
  rw [hM]
  have HM := Lib.hid hM
  have hM60 : M ≤ 60 := by have := HPL.out; omega
  clear hsl hsc hsm hM hlu HBW
  go_upto_region 6 with fail
  obtain ⟨w3, hw3⟩ : ∃ x, World.alloc w2 (.cells #[.int .i64 0, .bool bE] 128) = x := ⟨_, rfl⟩
  rw [hw3]
  have hb3 : Below w2.heap.size w2 w3 := by rw [← hw3]; (repeat' (first | (with_reducible first | exact Below.refl _ _ | assumption | exact Bw.out (by assumption) | refine bw_alloc ?_ _ | refine bw_step ?_ (by assumption) | refine Below.alloc ?_ ?_ _ | refine Below.drew ?_ | refine below_drewN ?_ _ | refine Below.setCell ?_ ?_ _ | refine below_step ?_ (by assumption) ?_ | exact Nat.le_refl _) | omega | (simp; omega) | (simp; done)))
  have R_p_3 : Row w3 (w.heap.size) [.slice ad n cap, .map (some m)] := by rw [← hw3]; (repeat' (first | (with_reducible assumption) | (with_reducible refine Row.new' _ _ _ (by first | rfl | (simp; done) | omega)) | (with_reducible first | refine Row.alloc ?_ _ | refine Row.drew ?_ | refine Row.step ?_ (by assumption) | refine Row.drewN ?_ _) | (with_reducible refine Row.set2' ?_ _ _; first | exact ⟨_, _, by assumption⟩ | exact ⟨_, _, Row.alloc (by assumption) _⟩) | (with_reducible refine Row.other ?_ (by first | omega | (simp; omega)) _)))
  have c_p_0_3 := R_p_3.cell 0 rfl
  have c_p_1_3 := R_p_3.cell 1 rfl
  have l_p_3 := R_p_3.lt
  have R_a_3 : Row w3 (w.heap.size + 1) [.int .i64 (k), .int .i64 (fr), .int .i64 (un), .int .i64 (ps)] := by rw [← hw3]; (repeat' (first | (with_reducible assumption) | (with_reducible refine Row.new' _ _ _ (by first | rfl | (simp; done) | omega)) | (with_reducible first | refine Row.alloc ?_ _ | refine Row.drew ?_ | refine Row.step ?_ (by assumption) | refine Row.drewN ?_ _) | (with_reducible refine Row.set2' ?_ _ _; first | exact ⟨_, _, by assumption⟩ | exact ⟨_, _, Row.alloc (by assumption) _⟩) | (with_reducible refine Row.other ?_ (by first | omega | (simp; omega)) _)))
  have c_a_0_3 := R_a_3.cell 0 rfl
  have c_a_1_3 := R_a_3.cell 1 rfl
  have c_a_2_3 := R_a_3.cell 2 rfl
  have c_a_3_3 := R_a_3.cell 3 rfl
  have l_a_3 := R_a_3.lt
  have R_o_3 : Row w3 (w.heap.size + 1 + 1) [.int .i64 0, .bool false] := by rw [← hw3]; (repeat' (first | (with_reducible assumption) | (with_reducible refine Row.new' _ _ _ (by first | rfl | (simp; done) | omega)) | (with_reducible first | refine Row.alloc ?_ _ | refine Row.drew ?_ | refine Row.step ?_ (by assumption) | refine Row.drewN ?_ _) | (with_reducible refine Row.set2' ?_ _ _; first | exact ⟨_, _, by assumption⟩ | exact ⟨_, _, Row.alloc (by assumption) _⟩) | (with_reducible refine Row.other ?_ (by first | omega | (simp; omega)) _)))
  have c_o_0_3 := R_o_3.cell 0 rfl
  have c_o_1_3 := R_o_3.cell 1 rfl
  have z_o_0_3 := R_o_3.frozen 0
  have z_o_1_3 := R_o_3.frozen 1
  have l_o_3 := R_o_3.lt
  have R_y_3 : Row w3 (w2.heap.size) [.int .i64 0, .bool bE] := by rw [← hw3]; (repeat' (first | (with_reducible assumption) | (with_reducible refine Row.new' _ _ _ (by first | rfl | (simp; done) | omega)) | (with_reducible first | refine Row.alloc ?_ _ | refine Row.drew ?_ | refine Row.step ?_ (by assumption) | refine Row.drewN ?_ _) | (with_reducible refine Row.set2' ?_ _ _; first | exact ⟨_, _, by assumption⟩ | exact ⟨_, _, Row.alloc (by assumption) _⟩) | (with_reducible refine Row.other ?_ (by first | omega | (simp; omega)) _)))
  have c_y_0_3 := R_y_3.cell 0 rfl
  have c_y_1_3 := R_y_3.cell 1 rfl
  have z_y_0_3 := R_y_3.frozen 0
  have z_y_1_3 := R_y_3.frozen 1
  have l_y_3 := R_y_3.lt
  have HB3 := HB2.trans (hb3.mono HB2.size)
  have hs3 := hb3.size
  have hz3 := HB3.size
  clear R_p_2 c_p_0_2 c_p_1_2 R_a_2 c_a_0_2 c_a_1_2 c_a_2_2 c_a_3_2 R_o_2 c_o_0_2 c_o_1_2 z_o_0_2 z_o_1_2 hb2 HB2
  have HRP := Lib.hid R_p_3
  have HRA := Lib.hid R_a_3
  have HRO := Lib.hid R_o_3
  have HRY := Lib.hid R_y_3
  have HBI := Lib.hid HB3
  have HKI := Lib.hid (HK2.out.alloc (.cells #[.int .i64 0, .bool bE] 128))
  rw [hw3] at HKI
  have hs3 : w3.heap.size = w2.heap.size + 1 := by rw [← hw3]; simp
  have HB23 : Hid (Below w2.heap.size w2 w3) := hb3
  go_wp2_with fail
  clear R_p_3 c_p_0_3 c_p_1_3 l_p_3 R_a_3 c_a_0_3 c_a_1_3 c_a_2_3 c_a_3_3 l_a_3 R_o_3 c_o_0_3 c_o_1_3 z_o_0_3 z_o_1_3 l_o_3 R_y_3 c_y_0_3 c_y_1_3 z_y_0_3 z_y_1_3 l_y_3 hb3 HB3 hw3
  go_loopw [12, 35] (fun _ v35 wr => ∃ q : Nat, q ≤ M ∧ v35 = .int .i64 q ∧ Hid (Row wr w2.heap.size [.int .i64 (sumQ (P.take q)), .bool bE]) ∧ Hid (Ch (fun b => b = w2.heap.size) w3 wr)) (fun _ v35 _ => M - (intOf v35).toNat)
  case atStart => exact ⟨0, Nat.zero_le _, rfl, HRY.out, Ch.refl _ _⟩
  case round =>
   obtain ⟨q, hq, rfl, hY, hCh⟩ := hrel
   obtain ⟨S, hS⟩ : ∃ S, sumQ (P.take q) = S := ⟨_, rfl⟩
   have HSQ := Lib.hid hS
   rw [hS] at hY
   have hsb := sumQ_bound HPA.out q (by rw [HM.out]; exact hq)
   rw [hS] at hsb
   obtain ⟨hS0, hS1⟩ : 0 ≤ S ∧ S ≤ 60000000000 := by omega
   have y0 := hY.out.cell 0 rfl
   have y1 := hY.out.cell 1 rfl
   have yz0 := hY.out.frozen 0
   have yl := hY.out.lt
   clear hS hsb
   by_cases hlt : q < M
   ·
    have hBr : Below w2.heap.size w2 wr := hCh.out.below HB23.out (fun b e => by omega) (by omega)
    have hsl := HSL.out.below hBr
    rw [HM.out] at hsl
    obtain ⟨b, off, z, rfl, hlb, c1, g1, _, gm⟩ := hsl.get hlt
    have hz := HPA.out z gm.out
    obtain ⟨hz0, hz1⟩ := hz
    have i0 : (0 : Int) ≤ (q : Int) := by omega
    have i1 : (q : Int) < (M : Int) := by omega
    have HN : Hid (sumQ (P.take (q + 1)) = S + z) := by
     show _ = _
     rw [sumQ_take (by rw [HM.out]; exact hlt), HSQ.out, g1.out]
    clear hBr hsl
    go_wp2_with fail
    go_roundw
    case rel => exact ⟨q + 1, by omega, by go_num, by show Row _ _ _; rw [HN.out]; exact hY.out.setAtZ 0 _, hCh.out.setCell (p := ⟨w2.heap.size, 0, none⟩) rfl _⟩
    case measure => simp [intOf]; omega
   ·
    obtain rfl : M = q := by omega
    have hSC : S = C := by
     have h := HSQ.out
     rw [List.take_of_length_le (by rw [HM.out]; exact Nat.le_refl _)] at h
     rw [HB.out.1, ← h]
    subst hSC
    have hBB := HB.out.2
    subst hBB
    have RPr := HRP.out.ch hCh.out (by omega)
    have RAr := HRA.out.ch hCh.out (by omega)
    have ROr := HRO.out.ch hCh.out (by omega)
    have p1 := RPr.cell 1 rfl
    have pl := RPr.lt
    have a0 := RAr.cell 0 rfl
    have a1 := RAr.cell 1 rfl
    have a2 := RAr.cell 2 rfl
    have a3 := RAr.cell 3 rfl
    have al := RAr.lt
    have HKr : Hid (KMap (costV l) wr m f) := HKI.out.of_block (hCh.out.2.2.2.2 m (by omega) (by omega))
    have HBr : Hid (Ch (fun b => b = m ∨ w.heap.size ≤ b) w wr) := (Ch.of_belowS HBI.out).trans (hCh.out.mono (fun b _ e => Or.inr (by omega)))
    have HYr := hY
    have HOr := Lib.hid ROr
    clear RPr RAr ROr hY
    go_upto_region 12 with (refine wpList_update_kmap _ rfl _ _ _ 97 rfl 128 Try.underlying97 (costV l) m f rfl HKr.out ⟨k, fr, un, ps⟩ HME.out rfl (by rw [HC.out]; rfl) ?_; intro w5 hk5 hg5)
    have hc5 : Ch (fun b => b = m) wr w5 := Ch.of_grown hg5 (fun b e => by cases e; rfl)
    have RY5 := HYr.out.ch hc5 (by omega)
    have RO5 := HOr.out.ch hc5 (by omega)
    have HC5 : Hid (Ch (fun b => b = m ∨ w.heap.size ≤ b) w w5) := HBr.out.trans (hc5.mono (fun b _ e => Or.inl e))
    have HK5 := Lib.hid hk5
    have u0 := RY5.cell 0 rfl
    have u1 := RY5.cell 1 rfl
    have ul := RY5.lt
    have o0 := RO5.cell 0 rfl
    have o1 := RO5.cell 1 rfl
    have oz0 := RO5.frozen 0
    have oz1 := RO5.frozen 1
    have ol := RO5.lt
    have HRO5 := Lib.hid RO5
    clear hc5 RY5 RO5 hk5 hg5 y0 y1 yz0 yl p1 pl a0 a1 a2 a3 al
    go_wp2_with fail
    have RP := HRO5.out.set2 (.int .i64 S) (.bool B)
    have q0 := RP.cell 0 rfl
    have q1 := RP.cell 1 rfl
    refine bodyPost_ret (v := .agg #[.int .i64 S, .bool B]) (by simp [results, Try.results90, go_sem, q0, q1]) rfl ⟨rfl, ⟨_, (HK5.out.setCell _ _).setCell _ _⟩, ((HC5.out.setCell (p := ⟨w.heap.size + 1 + 1, 0, none⟩) (Or.inr (by simp only; omega)) _).setCell (p := ⟨w.heap.size + 1 + 1, 1, none⟩) (Or.inr (by simp only; omega)) _).own⟩
end
section
set_option linter.unusedSimpArgs false
set_option linter.unusedVariables false
open Go.RowKit
theorem OwnV.form2 {w : World} {base : Nat} {v : Value} {zs : List Int} (h : OwnV w base v zs) : ∃ ad cp, v = .slice ad zs.length cp ∧ OwnV w base (.slice ad zs.length cp) zs := by
 have h' := h
 obtain ⟨h1, h2⟩ := h
 rcases h2 with ⟨rfl, h2⟩ | ⟨g, cap, cur, rfl, _⟩
 ·
  exact ⟨none, 0, by rw [h2], by rw [h2]; exact h'⟩
 ·
  exact ⟨_, cap, rfl, h'⟩
theorem OwnV.sizes {w : World} {base n cap : Nat} {a : Option Addr} {zs : List Int} (h : OwnV w base (.slice a n cap) zs) : n ≤ cap ∧ cap ≤ maxLen := by
 obtain ⟨ad, cp, e, _, h2, h3⟩ := h.sl
 simp only [Value.slice.injEq] at e
 obtain ⟨rfl, rfl, rfl⟩ := e
 exact ⟨h2, h3⟩
theorem SlV.cells {w : World} {b : Addr} {m c : Nat} {ys : List Int} (h : SlV w (.slice (some b) m c) ys) : m = ys.length ∧ ∀ j u, (ys.map (Value.int .i64))[j]? = some u → w.cell? (b.add j) = some u := by
 obtain ⟨ad, cp, e, h1, _⟩ := h
 simp only [Value.slice.injEq] at e
 obtain ⟨rfl, rfl, rfl⟩ := e
 refine ⟨rfl, fun j u hu => ?_⟩
 have hj : j < ys.length := by
  have := (List.getElem?_eq_some_iff.1 hu).1
  simpa using this
 obtain ⟨b', off, e, hc⟩ := h1.2 j hj
 cases e
 rw [show (⟨b', off, none⟩ : Addr).add j = ⟨b', off + j, none⟩ by simp [Addr.add], hc]
 simp [hj] at hu
 simp [List.getD, hj, hu]
/-- 'append' of a slice of ints to a slice of the call's own. -/
theorem wpList_append_ints {w : World} {ops : Array Oper} {rest : List Oper} {o : Oper} {a : Act} {Q : Exit → Act → World → Prop} (hgd : o.guard = none) (s x : Operand) (t : TypeId)
  (hop : o.op = Op.call { callee := Callee.builtin Builtin.append, args := #[s, x], argTypes := #[t, t] }) (ht : Try.prog.underlying t = some (.slice 3))
  (base : Nat) (v : Value) (zs : List Int) (hs : a.eval s = v) (hown : OwnV w base v zs) (xv : Value) (ys : List Int) (hx : a.eval x = xv) (hsl : SlV w xv ys)
  (hn : zs.length + ys.length ≤ 1000000000) (hbase : base ≤ w.heap.size)
  (h : ∀ v' w', OwnV w' base v' (zs ++ ys) → (∀ w0, Below base w0 w → Below base w0 w') → w.heap.size ≤ w'.heap.size → wpList Try.prog ops Q rest (a.put o.dst v') w') : wpList Try.prog ops Q (o :: rest) a w := by
 obtain ⟨i0, hi, hz0, hz1, hz2⟩ := info_parts info_int
 refine wpList_plain hgd fun K hK => ?_
 have key : ∃ v' w', (Builtin.append_ #[t, t] o.type #[v, xv]).run Try.prog w = .ok v' w' ∧ OwnV w' base v' (zs ++ ys) ∧ (∀ w0, Below base w0 w → Below base w0 w') ∧ w.heap.size ≤ w'.heap.size := by
  obtain ⟨ad, c, rfl, hsl1, hsl2⟩ := id hsl
  cases ad with
  | none =>
   have hy : ys = [] := by
    cases ys with
    | nil => rfl
    | cons y r => obtain ⟨_, _, e, _⟩ := hsl1.2 0 (by simp); cases e
   subst hy
   refine ⟨v, w, ?_, by rw [List.append_nil]; exact hown, fun _ h => h, Nat.le_refl _⟩
   obtain ⟨ad2, cap2, rfl, ho2⟩ := hown.form2
   obtain ⟨hc1, _⟩ := ho2.sizes
   cases ad2 with
   | none => simp [Builtin.append_, run_underlying ht, sizeOf, typeInfo, hi, Builtin.lenOf, Builtin.firstCells, loadCells, loadCellsFrom, hc1]
   | some q => simp [Builtin.append_, run_underlying ht, sizeOf, typeInfo, hi, Builtin.lenOf, Builtin.firstCells, loadCells, loadCellsFrom, storeCells, hc1]
  | some b =>
   obtain ⟨_, hc⟩ := hsl.cells
   obtain ⟨v', w', hrun, r1, r2, _⟩ := run_append_own_at (P := Try.prog) w base t o.type 3 i0 (.int .i64 0) 1 8 ht hi hz0 hz1 hz2 rfl (by decide) v zs.length _ hown b ys.length c (ys.map (Value.int .i64)) (by simp)
    (fun j u hj => hc j u hj) (fun u hu => by simp at hu; obtain ⟨z, _, rfl⟩ := hu; rfl) (by unfold maxLen; omega) (by omega) hbase
   refine ⟨v', w', hrun, ?_, fun w0 hb => hb.grown r2 hbase (fun k hk => (World.ownsRow.lt hown k hk).1), r2.size⟩
   unfold OwnV
   rw [List.map_append, List.length_append]
   exact r1
 obtain ⟨v', w', hrun, h1, h2, h3⟩ := key
 unfold Oper.wp
 simp [execOp, hop, resolve, invoke, builtin, hs, hx, hrun, Result.andThen]
 exact hK _ _ (h v' w' h1 h2 h3)
theorem OwnV.lit1 (w : World) (z : Int) : OwnV (w.alloc (.cells #[.int .i64 z] 3)) w.heap.size (.slice (some ⟨w.heap.size, 0, none⟩) 1 1) [z] :=
 World.ownsRow_lit (base := w.heap.size) (e := 3) (size := 1) w #[.int .i64 z] 1 (Nat.le_refl _) (by unfold maxLen; omega) rfl
def betterN (c1 : Int) (s1 : Bool) (n1 : Nat) (c2 : Int) (s2 : Bool) (n2 : Nat) : Bool := if s2 && s1 then (if c1 = c2 then decide (n1 < n2) else decide (c1 < c2)) else s1
theorem betterW_N (w v : WayV) : betterW w v = betterN w.c w.s w.cuts.length v.c v.s v.cuts.length := rfl
set_option maxRecDepth 100000 in
set_option maxHeartbeats 1600000 in
theorem wbetter_any (c1 c2 : Int) (s1 s2 : Bool) (a1 a2 : Option Addr) (n1 n2 p1 p2 : Nat) (w : World) (b : Bool) (hb : betterN c1 s1 n1 c2 s2 n2 = b) :
  Calls Try.prog 107 #[.agg #[.int .i64 c1, .bool s1, .slice a1 n1 p1], .agg #[.int .i64 c2, .bool s2, .slice a2 n2 p2]] w fun e w' => e = .returned (.bool b) ∧ Below w.heap.size w w' := by
 cases s2 with
 | false =>
  obtain rfl : s1 = b := hb
  go_enter Try.func107, Try.ntmps107
  go_wp2_with fail
  go_returns
  refine ⟨rfl, ?_⟩
  (repeat' (first | (with_reducible first | exact Below.refl _ _ | assumption | exact Bw.out (by assumption) | refine bw_alloc ?_ _ | refine bw_step ?_ (by assumption) | refine Below.alloc ?_ ?_ _ | refine Below.drew ?_ | refine below_drewN ?_ _ | refine Below.setCell ?_ ?_ _ | refine below_step ?_ (by assumption) ?_ | exact Nat.le_refl _) | omega | (simp; omega) | (simp; done)))
 | true =>
  cases s1 with
  | false =>
   obtain rfl : false = b := hb
   go_enter Try.func107, Try.ntmps107
   go_wp2_with fail
   go_returns
   refine ⟨rfl, ?_⟩
   (repeat' (first | (with_reducible first | exact Below.refl _ _ | assumption | exact Bw.out (by assumption) | refine bw_alloc ?_ _ | refine bw_step ?_ (by assumption) | refine Below.alloc ?_ ?_ _ | refine Below.drew ?_ | refine below_drewN ?_ _ | refine Below.setCell ?_ ?_ _ | refine below_step ?_ (by assumption) ?_ | exact Nat.le_refl _) | omega | (simp; omega) | (simp; done)))
  | true =>
   have hb' : (if c1 = c2 then decide (n1 < n2) else decide (c1 < c2)) = b := hb
   clear hb
   by_cases hc : c1 = c2
   ·
    rw [if_pos hc] at hb'
    have hc' : (c1 != c2) = false := by simpa using hc
    have hn : decide ((n1 : Int) < (n2 : Int)) = b := by rw [← hb']; simp
    clear hc hb'
    go_enter Try.func107, Try.ntmps107
    go_wp2_with fail
    go_returns
    refine ⟨(by first | rfl | (congr 2; first | exact hn | (rw [← hn]; simp))), ?_⟩
    (repeat' (first | (with_reducible first | exact Below.refl _ _ | assumption | exact Bw.out (by assumption) | refine bw_alloc ?_ _ | refine bw_step ?_ (by assumption) | refine Below.alloc ?_ ?_ _ | refine Below.drew ?_ | refine below_drewN ?_ _ | refine Below.setCell ?_ ?_ _ | refine below_step ?_ (by assumption) ?_ | exact Nat.le_refl _) | omega | (simp; omega) | (simp; done)))
   ·
    rw [if_neg hc] at hb'
    have hc' : (c1 != c2) = true := by simpa using hc
    clear hc
    go_enter Try.func107, Try.ntmps107
    go_wp2_with fail
    go_returns
    refine ⟨(by first | rfl | (congr 2)), ?_⟩
    (repeat' (first | (with_reducible first | exact Below.refl _ _ | assumption | exact Bw.out (by assumption) | refine bw_alloc ?_ _ | refine bw_step ?_ (by assumption) | refine Below.alloc ?_ ?_ _ | refine Below.drew ?_ | refine below_drewN ?_ _ | refine Below.setCell ?_ ?_ _ | refine below_step ?_ (by assumption) ?_ | exact Nat.le_refl _) | omega | (simp; omega) | (simp; done)))
end
section
set_option linter.unusedSimpArgs false
set_option linter.unusedVariables false
open Go.RowKit
/-- Block b holds ints. -/
def IntB (w : World) (b : Nat) : Prop := ∃ cur fr, w.heap[b]? = some (.cells cur 3 fr)
/-- A slice of ints in a block of ints. -/
def SlT (w : World) (u : Value) (zs : List Int) : Prop := SlV w u zs ∧ (zs ≠ [] → ∀ b, u.ownBlock = some b → IntB w b)
/-- Of the blocks that may turn none holds ints. -/
def NoInt (w : World) (o : Nat → Prop) : Prop := ∀ b, o b → ¬ IntB w b
theorem SlT.ch {o : Nat → Prop} {A B : World} (h : Ch o A B) (hn : NoInt A o) {u : Value} {zs : List Int} (hs : SlT A u zs) : SlT B u zs := by
 obtain ⟨⟨ad, cap, rfl, h1, h2, h3⟩, h4⟩ := hs
 have hb : ∀ b off, ad = some ⟨b, off, none⟩ → zs ≠ [] → b < A.heap.size → B.heap[b]? = A.heap[b]? := fun b off e hz hl => h.2.2.2.2 b hl (fun ho => hn b ho (h4 hz b (by rw [e]; rfl)))
 refine ⟨⟨ad, cap, rfl, ⟨h1.1, fun i hi => ?_⟩, h2, h3⟩, fun hz b e => ?_⟩
 ·
  obtain ⟨b, off, e, hc⟩ := h1.2 i hi
  have hz : zs ≠ [] := fun e => by rw [e] at hi; simp at hi
  have hl : b < A.heap.size := World.block_lt_of_cell? A _ hc
  refine ⟨b, off, e, ?_⟩
  unfold World.cell? at hc ⊢
  rw [hb b off e hz hl]
  exact hc
 ·
  obtain ⟨cur, fr, hh⟩ := h4 hz b e
  have hl : b < A.heap.size := (Array.getElem?_eq_some_iff.1 hh).1
  exact ⟨cur, fr, (h.2.2.2.2 b hl (fun ho => hn b ho ⟨cur, fr, hh⟩)).trans hh⟩
theorem SlT.step {A B : World} (h : Below A.heap.size A B) {u : Value} {zs : List Int} (hs : SlT A u zs) : SlT B u zs := SlT.ch (o := fun _ => False) (Ch.of_belowS h) (fun _ h => h.elim) hs
theorem SlT.nil (w : World) : SlT w (.slice none 0 0) [] := ⟨SlV.nil w, fun h => (h rfl).elim⟩
theorem SlT.own {w : World} {base : Nat} {u : Value} {zs : List Int} (h : OwnV w base u zs) : SlT w u zs := by
 refine ⟨h.sl, fun _ b e => ?_⟩
 rcases h.2 with ⟨rfl, _⟩ | ⟨g, cap, cur, rfl, _, e3, _⟩
 ·
  simp [Value.ownBlock] at e
 ·
  simp [Value.ownBlock] at e
  subst e
  exact ⟨_, _, e3⟩
/-- The cells of a way, in a box of its own. -/
def RowY (w : World) (b : Nat) (cs : List Value) : Prop := w.heap[b]? = some (.cells cs.toArray 130 (0, 0))
theorem RowY.row {w : World} {b : Nat} {cs : List Value} (h : RowY w b cs) : Row w b cs := ⟨_, h⟩
theorem RowY.new (w : World) (cs : List Value) : RowY (w.alloc (.cells cs.toArray 130)) w.heap.size cs := by
 show (w.heap.push _)[w.heap.size]? = _
 simp
theorem RowY.ch {o : Nat → Prop} {A B : World} {b : Nat} {cs : List Value} (h : RowY A b cs) (k : Ch o A B) (hn : ¬ o b) : RowY B b cs := (k.2.2.2.2 b h.row.lt hn).trans h
theorem RowY.step {A B : World} {b : Nat} {cs : List Value} (h : RowY A b cs) (k : Below A.heap.size A B) : RowY B b cs := (k.block b h.row.lt).trans h
theorem RowY.put {w : World} {b : Nat} {cs : List Value} (h : RowY w b cs) (i : Nat) (v : Value) : RowY (w.setCell ⟨b, i, none⟩ v) b (cs.set i v) := by
 unfold RowY at h ⊢
 simp [World.setCell, Array.getElem?_modify, h]
theorem RowY.noInt {w : World} {b : Nat} {cs : List Value} (h : RowY w b cs) : NoInt w (fun k => k = b) := fun k e ⟨cur, fr, hh⟩ => by
 subst e
 rw [h] at hh
 simp only [Option.some.injEq, Obj.cells.injEq] at hh
 exact absurd hh.2.1 (by decide)
def WayT (w : World) (v : Value) (x : WayV) : Prop := ∃ u, v = .agg #[.int .i64 x.c, .bool x.s, u] ∧ SlT w u x.cuts
/-- The ways that are known: block r, a map by nights. -/
def WaysT (w : World) (r : Nat) (V : Int → WayV) : Prop := ∃ g, IMap w r g ∧ ∀ nt v, look g nt = some v → WayT w v (V nt)
theorem WayT.ch {o : Nat → Prop} {A B : World} (h : Ch o A B) (hn : NoInt A o) {v : Value} {x : WayV} (hs : WayT A v x) : WayT B v x := by
 obtain ⟨u, e, h1⟩ := hs
 exact ⟨u, e, h1.ch h hn⟩
theorem WayT.step {A B : World} (h : Below A.heap.size A B) {v : Value} {x : WayV} (hs : WayT A v x) : WayT B v x := by
 obtain ⟨u, e, h1⟩ := hs
 exact ⟨u, e, h1.step h⟩
theorem WayT.form {w : World} {v : Value} {x : WayV} (h : WayT w v x) : ∃ ad n cap, n = x.cuts.length ∧ v = .agg #[.int .i64 x.c, .bool x.s, .slice ad n cap] ∧ SlT w (.slice ad n cap) x.cuts := by
 obtain ⟨u, e, h1⟩ := h
 obtain ⟨ad, cap, e2, _⟩ := h1.1
 subst e2
 exact ⟨ad, _, cap, rfl, e, h1⟩
theorem WaysT.lt {w : World} {r : Nat} {V : Int → WayV} (h : WaysT w r V) : r < w.heap.size := by obtain ⟨g, h1, _⟩ := h; exact h1.lt
theorem isMap_noInt {w : World} {r : Nat} (h : ∃ es c, w.heap[r]? = some (.map es c)) : ¬ IntB w r := fun ⟨cur, fr, hh⟩ => by
 obtain ⟨es, c, e⟩ := h
 rw [e] at hh; cases hh
theorem WaysT.isMap {w : World} {r : Nat} {V : Int → WayV} (h : WaysT w r V) : ∃ es c, w.heap[r]? = some (.map es c) := by obtain ⟨g, ⟨es, c, h1, _⟩, _⟩ := h; exact ⟨es, c, h1⟩
theorem KMap.isMap {v : AskV → Value} {w : World} {r : Nat} {f : List AskV} (h : KMap v w r f) : ∃ es c, w.heap[r]? = some (.map es c) := by obtain ⟨es, c, h1, _⟩ := h; exact ⟨es, c, h1⟩
theorem isMap_row {w : World} {r b : Nat} {cs : List Value} (h : ∃ es c, w.heap[r]? = some (.map es c)) (hr : Row w b cs) : b ≠ r := fun e => by
 subst e
 obtain ⟨es, c, h1⟩ := h
 obtain ⟨T, h2⟩ := hr
 rw [h1] at h2; cases h2
theorem WaysT.ch {o : Nat → Prop} {A B : World} (h : Ch o A B) (hn : NoInt A o) {r : Nat} {V : Int → WayV} (hr : ¬ o r) (hs : WaysT A r V) : WaysT B r V := by
 obtain ⟨g, h1, h2⟩ := hs
 exact ⟨g, h1.of_block (h.2.2.2.2 r h1.lt hr), fun nt v hv => WayT.ch h hn (h2 nt v hv)⟩
theorem WaysT.step {A B : World} (h : Below A.heap.size A B) {r : Nat} {V : Int → WayV} (hs : WaysT A r V) : WaysT B r V := by
 obtain ⟨g, h1, h2⟩ := hs
 exact ⟨g, h1.below h, fun nt v hv => WayT.step h (h2 nt v hv)⟩
/-- One more way is stored. -/
theorem WaysT.put {A B : World} {r : Nat} {V : Int → WayV} {g : List (Int × Value)} {nt : Int} {v : Value} (hg : A.grownBy B (some r)) (hv : WayT A v (V nt)) (h : ∀ k u, look g k = some u → WayT A u (V k)) (hA : ∃ es c, A.heap[r]? = some (.map es c)) (hm : IMap B r (upd g nt v)) : WaysT B r V := by
 have hc : Ch (fun k => k = r) A B := Ch.of_grown hg (fun k e => by cases e; rfl)
 have hM : NoInt A (fun k => k = r) := fun b e => by subst e; exact isMap_noInt hA
 refine ⟨_, hm, fun k u hu => ?_⟩
 rw [look_upd] at hu
 split at hu
 ·
  rename_i e
  cases hu
  rw [e]
  exact hv.ch hc hM
 ·
  exact (h k u hu).ch hc hM
/-! The variables of best. -/
abbrev bestFn (cW cA cP cF : Nat) : Value := .func (.func 106) #[] #[.pointer (some ⟨cW, 0, none⟩), .pointer (some ⟨cA, 0, none⟩), .pointer (some ⟨cP, 0, none⟩), .pointer (some ⟨cF, 0, none⟩)]
structure EnvB (w : World) (cW cA cP cF mw m : Nat) (ad : Option Addr) (n cap : Nat) (k fr un ps : Int) : Prop where
 hW : Row w cW [.map (some mw)]
 hA : Row w cA [.int .i64 k, .int .i64 fr, .int .i64 un, .int .i64 ps]
 hP : Row w cP [.slice ad n cap, .map (some m)]
 hF : Row w cF [bestFn cW cA cP cF]
theorem EnvB.ch {o : Nat → Prop} {A B : World} {cW cA cP cF mw m : Nat} {ad : Option Addr} {n cap : Nat} {k fr un ps : Int} (h : EnvB A cW cA cP cF mw m ad n cap k fr un ps) (hc : Ch o A B) (h1 : ¬ o cW) (h2 : ¬ o cA) (h3 : ¬ o cP) (h4 : ¬ o cF) : EnvB B cW cA cP cF mw m ad n cap k fr un ps :=
 ⟨h.hW.ch hc h1, h.hA.ch hc h2, h.hP.ch hc h3, h.hF.ch hc h4⟩
theorem EnvB.step {A B : World} {cW cA cP cF mw m : Nat} {ad : Option Addr} {n cap : Nat} {k fr un ps : Int} (h : EnvB A cW cA cP cF mw m ad n cap k fr un ps) (hb : Below A.heap.size A B) : EnvB B cW cA cP cF mw m ad n cap k fr un ps :=
 ⟨h.hW.step hb, h.hA.step hb, h.hP.step hb, h.hF.step hb⟩
theorem zero_way (w : World) : (zeroValue 130).run Try.prog w = .ok (.agg #[.int .i64 0, .bool false, .slice none 0 0]) w := by kernel_rfl
end
end Go.Proofs.Ytcmodmchnokmgaa
