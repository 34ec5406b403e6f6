/-
  Expressions that a law builds: leaf, node, plain of law10.
-/
import Derived.Test.YtcmodmchnokmgaaTyI
namespace Go.Proofs.Ytcmodmchnokmgaa
set_option linter.unusedSimpArgs false
set_option linter.unusedVariables false
open Go.RowKit

/-- A node without kids; one whose kids lie at the beginning of block B. -/
abbrev lf (op n : Int) : Ex := .node op n none 0 []
abbrev nd (op : Int) (B : Nat) (ks : List Ex) : Ex := .node op 0 (some ⟨B, 0, none⟩) ks.length ks
theorem lf_in (op n : Int) (w : World) : (lf op n).In w := by
  unfold Ex.In
  exact ⟨⟨Nat.le_refl _, by unfold maxLen; omega⟩, by unfold ExIn; trivial⟩
theorem flat_at : ∀ (ks : List Ex) (j : Nat) (x : Ex) (i : Nat), ks[j]? = some x → i < 3 → (ks.flatMap Ex.cells)[j * 3 + i]? = x.cells[i]?
  | [], j, x, i, h, _ => by simp at h
  | y :: r, 0, x, i, h, hi => by
    simp at h
    subst h
    rw [List.flatMap_cons, List.getElem?_append_left (by simp [Ex.cells]; omega)]
    simp
  | y :: r, j + 1, x, i, h, hi => by
    have ih := flat_at r j x i (by simpa using h) hi
    rw [List.flatMap_cons, List.getElem?_append_right (by simp [Ex.cells]; omega), ← ih]
    congr 1
    simp [Ex.cells]; omega
/-- Expressions that lie in a block. -/
theorem exs_row {W : World} {B : Nat} {cs : List Value} (h : Row W B cs) (ks : List Ex) (hcs : cs = ks.flatMap Ex.cells) (hk : ∀ x ∈ ks, x.In W) : ExIn W (some ⟨B, 0, none⟩) 0 ks := by
  refine ExIn.of fun j x hx => ⟨⟨B, 0, rfl, ?_, ?_, ?_⟩, hk x (List.mem_of_getElem? hx)⟩
  · have := flat_at ks j x 0 hx (by omega)
    refine h.cell _ ?_
    rw [hcs, show 0 + (0 + j) * 3 = j * 3 + 0 by omega, this]; rfl
  · have := flat_at ks j x 1 hx (by omega)
    refine h.cell _ ?_
    rw [hcs, show 0 + (0 + j) * 3 + 1 = j * 3 + 1 by omega, this]; rfl
  · have := flat_at ks j x 2 hx (by omega)
    refine h.cell _ ?_
    rw [hcs, show 0 + (0 + j) * 3 + 2 = j * 3 + 2 by omega, this]; rfl
theorem nd_row {W : World} {B : Nat} {cs : List Value} (h : Row W B cs) (op : Int) (ks : List Ex) (hcs : cs = ks.flatMap Ex.cells) (hk : ∀ x ∈ ks, x.In W) (hl : ks.length ≤ 1000) : (nd op B ks).In W := by
  unfold Ex.In
  exact ⟨⟨Nat.le_refl _, by unfold maxLen; omega⟩, exs_row h ks hcs hk⟩
theorem nd_new {W : World} (op : Int) (ks : List Ex) (cs : Array Value) (T : TypeId) {B : Nat} (hB : B = W.heap.size) (hcs : cs.toList = ks.flatMap Ex.cells) (hk : ∀ x ∈ ks, x.In W) (hl : ks.length ≤ 1000) : (nd op B ks).In (W.alloc (.cells cs T)) := by
  subst hB
  have hr : Row (W.alloc (.cells cs T)) W.heap.size cs.toList := by simpa using Row.new' W cs.toList T rfl
  exact nd_row hr op ks hcs (fun x hx => (hk x hx).step ((Below.refl _ W).alloc (Nat.le_refl _) _)) hl

set_option maxHeartbeats 800000 in
theorem leaf_any (op n : Int) (w : World) :
    Calls Try.prog 36 #[.int .i64 op, .int .i64 n] w fun e w' => e = .returned (.agg #[.int .i64 op, .int .i64 n, .slice none 0 0]) ∧ Below w.heap.size w w' := by
  go_enter Try.func36, Try.ntmps36
  go_wp2_with fail
  refine bodyPost_ret (v := .agg #[.int .i64 op, .int .i64 n, .slice none 0 0]) (by simp [results, Try.results36, go_sem]) rfl ⟨rfl, by (repeat' (first | (with_reducible exact Below.refl _ _) | (with_reducible assumption) | (with_reducible exact Bw.out (by with_reducible assumption)) | (with_reducible refine bw_alloc ?_ _) | (with_reducible refine bw_step ?_ (by with_reducible assumption)) | (with_reducible refine Below.alloc ?_ ?_ _) | (with_reducible refine Below.drew ?_) | (with_reducible refine below_drewN ?_ _) | (with_reducible refine Below.setCell ?_ ?_ _) | (with_reducible refine below_step ?_ (by with_reducible assumption) ?_) | (with_reducible exact Nat.le_refl _) | omega | (simp; omega) | (simp; done)))⟩
set_option maxHeartbeats 800000 in
theorem node_any (op : Int) (ad : Option Addr) (n cap : Nat) (w : World) :
    Calls Try.prog 37 #[.int .i64 op, .slice ad n cap] w fun e w' => e = .returned (.agg #[.int .i64 op, .int .i64 0, .slice ad n cap]) ∧ Below w.heap.size w w' := by
  go_enter Try.func37, Try.ntmps37
  go_wp2_with fail
  refine bodyPost_ret (v := .agg #[.int .i64 op, .int .i64 0, .slice ad n cap]) (by simp [results, Try.results37, go_sem]) rfl ⟨rfl, by (repeat' (first | (with_reducible exact Below.refl _ _) | (with_reducible assumption) | (with_reducible exact Bw.out (by with_reducible assumption)) | (with_reducible refine bw_alloc ?_ _) | (with_reducible refine bw_step ?_ (by with_reducible assumption)) | (with_reducible refine Below.alloc ?_ ?_ _) | (with_reducible refine Below.drew ?_) | (with_reducible refine below_drewN ?_ _) | (with_reducible refine Below.setCell ?_ ?_ _) | (with_reducible refine below_step ?_ (by with_reducible assumption) ?_) | (with_reducible exact Nat.le_refl _) | omega | (simp; omega) | (simp; done)))⟩

/-- Cells stored one behind the other. -/
def puts (w : World) (b : Nat) : Nat → List Value → World
  | _, [] => w
  | i, v :: r => puts (w.setCell ⟨b, i, none⟩ v) b (i + 1) r
theorem Row.setAt {w : World} {b : Nat} {cs : List Value} (h : Row w b cs) (i : Nat) (v : Value) : Row (w.setCell ⟨b, i, none⟩ v) b (cs.set i v) := by
  obtain ⟨T, h⟩ := h
  exact ⟨T, by simp [World.setCell, Array.getElem?_modify, h]⟩
theorem Row.puts {b : Nat} : ∀ (vs : List Value) (i : Nat) {w : World} {cs : List Value}, Row w b cs → i + vs.length ≤ cs.length → Row (puts w b i vs) b (cs.take i ++ vs ++ cs.drop (i + vs.length))
  | [], i, w, cs, h, hl => by simpa [Go.Proofs.Ytcmodmchnokmgaa.puts] using h
  | v :: r, i, w, cs, h, hl => by
    have := Row.puts r (i + 1) (h.setAt i v) (by simp at hl ⊢; omega)
    unfold Go.Proofs.Ytcmodmchnokmgaa.puts
    simp at hl
    have e1 : (cs.set i v).take (i + 1) = cs.take i ++ [v] := by
      rw [List.take_succ_eq_append_getElem (by simp; omega), List.take_set_of_le (Nat.le_refl _)]
      simp
    have e2 : (cs.set i v).drop (i + 1 + r.length) = cs.drop (i + (v :: r).length) := by
      rw [List.drop_set_of_lt (by omega)]
      congr 1
      simp; omega
    rw [e1, e2] at this
    simpa using this
theorem Ch.puts {b : Nat} : ∀ (vs : List Value) (i : Nat) {A w : World}, Ch (fun k => k = b) A w → Ch (fun k => k = b) A (puts w b i vs)
  | [], _, _, _, h => h
  | v :: r, i, _, _, h => Ch.puts r (i + 1) (h.setCell (p := ⟨b, i, none⟩) rfl v)
theorem put_all {w : World} {b : Nat} {cs : List Value} (h : Row w b cs) (vs : List Value) (hl : vs.length = cs.length) : Row (Go.Proofs.Ytcmodmchnokmgaa.puts w b 0 vs) b vs ∧ Ch (fun k => k = b) w (Go.Proofs.Ytcmodmchnokmgaa.puts w b 0 vs) := by
  refine ⟨?_, Ch.puts vs 0 (Ch.refl _ w)⟩
  have := h.puts vs 0 (by omega)
  simpa [hl] using this

/-- A rate that can be used. -/
abbrev plR (id : Int) (B : Nat) : RateV := ⟨id, 0, 1, 0, 9, 1, 3, 127, 1, 2, nd 12 B [lf 1 1, lf 1 1], lf 2 100⟩
def PlV (id : Int) (B : Nat) : Value := .agg #[.int .i64 id, .int .i64 0, .int .i64 1, .int .i64 0, .int .i64 9, .int .i64 1, .int .i64 3, .int .i64 127, .int .i64 1, .int .i64 2, .int .i64 12, .int .i64 0, .slice (some ⟨B, 0, none⟩) 2 2, .int .i64 2, .int .i64 100, .slice none 0 0]
set_option maxHeartbeats 1600000 in
theorem plain_any (id : Int) (w : World) :
    Calls Try.prog 38 #[.int .i64 id] w fun e w' => ∃ B, e = .returned (.agg #[.int .i64 id, .int .i64 0, .int .i64 1, .int .i64 0, .int .i64 9, .int .i64 1, .int .i64 3, .int .i64 127, .int .i64 1, .int .i64 2, .int .i64 12, .int .i64 0, .slice (some ⟨B, 0, none⟩) 2 2, .int .i64 2, .int .i64 100, .slice none 0 0]) ∧ (plR id B).In w' ∧ Below w.heap.size w w' := by
  go_enter Try.func38, Try.ntmps38
  go_wp2_with fail
  have hb0 : Below w.heap.size w (w.alloc (.cells #[.int .i64 0, .int .i64 0, .int .i64 0, .int .i64 0, .int .i64 0, .int .i64 0, .int .i64 0, .int .i64 0, .int .i64 0, .int .i64 0, .int .i64 0, .int .i64 0, .slice none 0 0, .int .i64 0, .int .i64 0, .slice none 0 0] 30)) := by (repeat' (first | (with_reducible exact Below.refl _ _) | (with_reducible assumption) | (with_reducible exact Bw.out (by with_reducible assumption)) | (with_reducible refine bw_alloc ?_ _) | (with_reducible refine bw_step ?_ (by with_reducible assumption)) | (with_reducible refine Below.alloc ?_ ?_ _) | (with_reducible refine Below.drew ?_) | (with_reducible refine below_drewN ?_ _) | (with_reducible refine Below.setCell ?_ ?_ _) | (with_reducible refine below_step ?_ (by with_reducible assumption) ?_) | (with_reducible exact Nat.le_refl _) | omega | (simp; omega) | (simp; done)))
  refine (leaf_any 1 1 _).mono ?_
  rintro e w1 ⟨rfl, hb1⟩
  have R1 : Row w1 w.heap.size [.int .i64 0, .int .i64 0, .int .i64 0, .int .i64 0, .int .i64 0, .int .i64 0, .int .i64 0, .int .i64 0, .int .i64 0, .int .i64 0, .int .i64 0, .int .i64 0, .slice none 0 0, .int .i64 0, .int .i64 0, .slice none 0 0] := by (repeat' (first | (with_reducible assumption) | (with_reducible refine Row.new' _ _ _ (by first | rfl | (simp; done) | omega)) | (with_reducible refine Row.alloc ?_ _) | (with_reducible refine Row.drew ?_) | (with_reducible refine Row.drewN ?_ _) | (with_reducible refine Row.step ?_ (by with_reducible assumption))))
  have l1 := R1.lt
  have HB1 := hb0.trans (hb1.mono hb0.size)
  go_wp2_with fail
  have hn : Row ((w1.alloc (.cells #[.int .i64 1, .int .i64 1, .slice none 0 0] 24)).alloc (.cells #[.int .i64 1, .int .i64 1, .slice none 0 0, .int .i64 1, .int .i64 1, .slice none 0 0] 24)) (w1.heap.size + 1) [.int .i64 1, .int .i64 1, .slice none 0 0, .int .i64 1, .int .i64 1, .slice none 0 0] := by (repeat' (first | (with_reducible assumption) | (with_reducible refine Row.new' _ _ _ (by first | rfl | (simp; done) | omega)) | (with_reducible refine Row.alloc ?_ _) | (with_reducible refine Row.drew ?_) | (with_reducible refine Row.drewN ?_ _) | (with_reducible refine Row.step ?_ (by with_reducible assumption))))
  have hal : Below w1.heap.size w1 ((w1.alloc (.cells #[.int .i64 1, .int .i64 1, .slice none 0 0] 24)).alloc (.cells #[.int .i64 1, .int .i64 1, .slice none 0 0, .int .i64 1, .int .i64 1, .slice none 0 0] 24)) := by (repeat' (first | (with_reducible exact Below.refl _ _) | (with_reducible assumption) | (with_reducible exact Bw.out (by with_reducible assumption)) | (with_reducible refine bw_alloc ?_ _) | (with_reducible refine bw_step ?_ (by with_reducible assumption)) | (with_reducible refine Below.alloc ?_ ?_ _) | (with_reducible refine Below.drew ?_) | (with_reducible refine below_drewN ?_ _) | (with_reducible refine Below.setCell ?_ ?_ _) | (with_reducible refine below_step ?_ (by with_reducible assumption) ?_) | (with_reducible exact Nat.le_refl _) | omega | (simp; omega) | (simp; done)))
  refine (node_any _ _ _ _ _).mono ?_
  rintro e w2 ⟨rfl, hb2⟩
  have hn2 := hn.step hb2
  have hb3 := hal.trans (hb2.mono hal.size)
  have R2 := R1.step hb3
  have l2 := R2.lt
  have HB2 := HB1.trans (hb3.mono HB1.size)
  clear hn hal hb2 hb3 R1
  go_wp2_with fail
  refine (leaf_any 2 100 _).mono ?_
  rintro e w3 ⟨rfl, hb3⟩
  have hn3 := hn2.step hb3
  have R3 := R2.step hb3
  have l3 := R3.lt
  have HB3 := HB2.trans (hb3.mono HB2.size)
  clear hn2 hb3 R2
  have c0 := R3.cell 0 rfl
  have z0 := R3.frozen 0
  have c1 := R3.cell 1 rfl
  have z1 := R3.frozen 1
  have c2 := R3.cell 2 rfl
  have z2 := R3.frozen 2
  have c3 := R3.cell 3 rfl
  have z3 := R3.frozen 3
  have c4 := R3.cell 4 rfl
  have z4 := R3.frozen 4
  have c5 := R3.cell 5 rfl
  have z5 := R3.frozen 5
  have c6 := R3.cell 6 rfl
  have z6 := R3.frozen 6
  have c7 := R3.cell 7 rfl
  have z7 := R3.frozen 7
  have c8 := R3.cell 8 rfl
  have z8 := R3.frozen 8
  have c9 := R3.cell 9 rfl
  have z9 := R3.frozen 9
  have c10 := R3.cell 10 rfl
  have z10 := R3.frozen 10
  have c11 := R3.cell 11 rfl
  have z11 := R3.frozen 11
  have c12 := R3.cell 12 rfl
  have z12 := R3.frozen 12
  have c13 := R3.cell 13 rfl
  have z13 := R3.frozen 13
  have c14 := R3.cell 14 rfl
  have z14 := R3.frozen 14
  have c15 := R3.cell 15 rfl
  have z15 := R3.frozen 15
  go_wp2_with fail
  have hP := put_all R3 [.int .i64 id, .int .i64 0, .int .i64 1, .int .i64 0, .int .i64 9, .int .i64 1, .int .i64 3, .int .i64 127, .int .i64 1, .int .i64 2, .int .i64 12, .int .i64 0, .slice (some ⟨w1.heap.size + 1, 0, none⟩) 2 2, .int .i64 2, .int .i64 100, .slice none 0 0] rfl
  simp only [Go.Proofs.Ytcmodmchnokmgaa.puts, Nat.reduceAdd, Nat.zero_add] at hP
  obtain ⟨RP, CP⟩ := hP
  have p0 := RP.cell 0 rfl
  have p1 := RP.cell 1 rfl
  have p2 := RP.cell 2 rfl
  have p3 := RP.cell 3 rfl
  have p4 := RP.cell 4 rfl
  have p5 := RP.cell 5 rfl
  have p6 := RP.cell 6 rfl
  have p7 := RP.cell 7 rfl
  have p8 := RP.cell 8 rfl
  have p9 := RP.cell 9 rfl
  have p10 := RP.cell 10 rfl
  have p11 := RP.cell 11 rfl
  have p12 := RP.cell 12 rfl
  have p13 := RP.cell 13 rfl
  have p14 := RP.cell 14 rfl
  have p15 := RP.cell 15 rfl
  have lt1 : w.heap.size < w1.heap.size := l1
  have hfin : (plR id (w1.heap.size + 1)).In _ := ⟨nd_row (hn3.ch CP (by omega)) 12 [lf 1 1, lf 1 1] rfl (fun x hx => by simp at hx; subst hx; exact lf_in _ _ _) (by simp), lf_in _ _ _⟩
  refine bodyPost_ret (v := .agg #[.int .i64 id, .int .i64 0, .int .i64 1, .int .i64 0, .int .i64 9, .int .i64 1, .int .i64 3, .int .i64 127, .int .i64 1, .int .i64 2, .int .i64 12, .int .i64 0, .slice (some ⟨w1.heap.size + 1, 0, none⟩) 2 2, .int .i64 2, .int .i64 100, .slice none 0 0]) ?_ rfl ⟨_, rfl, hfin, CP.below HB3 (fun k hk => by omega) HB3.size⟩
  simp [results, Try.results38, go_sem, p0, p1, p2, p3, p4, p5, p6, p7, p8, p9, p10, p11, p12, p13, p14, p15]

end Go.Proofs.Ytcmodmchnokmgaa
