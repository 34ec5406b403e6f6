/-
  Texts built as one: XAltF, XAltG, XAltH, XAltI.
-/
import Derived.Test.YtijbhdpaikajkaaMAltA
import Derived.Test.YtijbhdpaikajkaaNiO
import Derived.Test.YtijbhdpaikajkaaOpenL
import Derived.Test.YtijbhdpaikajkaaPromB
import Derived.Test.YtijbhdpaikajkaaWPlain
import Derived.Test.YtijbhdpaikajkaaShareF
import Derived.Test.YtijbhdpaikajkaaWorstR
import Derived.Deep.RegionHeld3
namespace Go.Proofs.Ytijbhdpaikajkaa

section
set_option linter.unusedSimpArgs false
set_option linter.unusedVariables false
open Go.RowKit

/-- A night without its shares; a night's numbers. -/
def bareN (x : NightV) : NightV := ⟨x.rooms, x.sold, none, 0, 0, []⟩
def triN (x : NightV) : Int × Int × List Int := (x.rooms, x.sold, x.zs)
def plT (c : Nat) (most : Int) : List NightV → List ListV → List (Int × Int × List Int)
  | x :: l, y :: m => (x.rooms, x.sold, divA y.zs c (x.rooms + most - x.sold)) :: plT c most l m
  | _, _ => []
theorem plT_length (c : Nat) (most : Int) : ∀ (l : List NightV) (m : List ListV), m.length = l.length → (plT c most l m).length = l.length
  | [], [], _ => rfl
  | x :: l, y :: m, h => by simp only [List.length_cons] at h; simp [plT, plT_length c most l m (by omega)]
  | [], y :: m, h => by simp at h
  | x :: l, [], h => by simp at h
theorem plT_at {c : Nat} {most : Int} : ∀ {l : List NightV} {m : List ListV} {i : Nat} {x : NightV} {y : ListV}, l[i]? = some x → m[i]? = some y → (plT c most l m)[i]? = some (x.rooms, x.sold, divA y.zs c (x.rooms + most - x.sold))
  | [], m, i, x, y, h1, h2 => by simp at h1
  | x0 :: l, [], i, x, y, h1, h2 => by simp at h2
  | x0 :: l, y0 :: m, 0, x, y, h1, h2 => by
    simp at h1 h2
    subst h1 h2
    simp [plT]
  | x0 :: l, y0 :: m, i + 1, x, y, h1, h2 => by
    have ih := plT_at (c := c) (most := most) (l := l) (m := m) (i := i) (x := x) (y := y) (by simpa using h1) (by simpa using h2)
    simpa [plT] using ih
theorem take_at {α : Type} {l : List α} {i : Nat} {x : α} (h : l[i]? = some x) : l.take (i + 1) = l.take i ++ [x] := by
  rw [List.take_add_one, h]; rfl

theorem topS_nil (c : Nat) : topS [] c = 0 := by
  have h1 : topS [] c = (atL [] (topL [] c)).sum := rfl
  have h2 : topL [] c = [] := List.eq_nil_of_length_eq_zero (by rw [topL_length]; simp)
  rw [h1, h2]; rfl
theorem topL_nil (c : Nat) : topL [] c = [] := List.eq_nil_of_length_eq_zero (by rw [topL_length]; simp)
theorem wkI_bare (r s : Int) (c : Nat) : wkI r s [] c = max 0 (s - r) := by unfold wkI; rw [topS_nil]; simp
theorem brk_bare {c : Nat} {most : Int} (h0 : 0 ≤ most) (x : NightV) : brk c most (bareN x) = decide (x.rooms + most < x.sold) := by
  unfold brk wkN bareN
  rw [wkI_bare]
  have : (most < max 0 (x.sold - x.rooms)) ↔ x.rooms + most < x.sold := by omega
  simp [this]
theorem nightB_bare {r s : Int} {zs : List Int} (h : nightB r s zs = true) : nightB r s [] = true := by
  obtain ⟨_, _, p3, p4⟩ := nightB_parts h
  exact nightB_of (by simp) (fun z hz => by simp at hz) p3 p4
theorem nightsB_bare {l : List NightV} (h : nightsB l = true) (k : Nat) : nightsB ((l.take k).map bareN) = true := by
  have hl := nightsB_len h
  unfold nightsB
  simp only [Bool.and_eq_true, decide_eq_true_eq, List.all_eq_true]
  refine ⟨by simp; omega, fun y hy => ?_⟩
  obtain ⟨x, hx, rfl⟩ := List.mem_map.1 hy
  obtain ⟨i, hi, he⟩ := List.getElem_of_mem (List.mem_of_mem_take hx)
  exact nightB_bare (nightsB_at h (i := i) (x := x) (by rw [List.getElem?_eq_getElem hi, he]))
theorem bareN_in (x : NightV) (w : World) : (bareN x).In w := ⟨by simp [bareN], SlI.nil _ _⟩

/-- What lies between two rounds: out (the first ko nights, with shares) and bare (the first kb nights, without). -/
structure InvA (B0 : Nat) (l : List NightV) (T : List (Int × Int × List Int)) (w : World) (ko kb : Nat) (vo vb : Value) : Prop where
  out : ∃ Lo : List NightV, OwnN w B0 vo Lo ∧ Lo.map triN = T.take ko ∧ ∀ x ∈ Lo, OwnV w B0 (.slice x.at' x.n x.cap) x.zs ∧ x.zs.length = x.n
  bare : OwnN w B0 vb ((l.take kb).map bareN)
  sep : ∀ g, vo.ownBlock = some g → vb.ownBlock ≠ some g
theorem InvA.step {B0 : Nat} {l : List NightV} {T : List (Int × Int × List Int)} {w w1 : World} {ko kb : Nat} {vo vb : Value} (h : InvA B0 l T w ko kb vo vb) (hb : Below w.heap.size w w1) : InvA B0 l T w1 ko kb vo vb := by
  obtain ⟨⟨Lo, h1, h2, h3⟩, h4, h5⟩ := h
  exact ⟨⟨Lo, h1.step hb, h2, fun x hx => ⟨(h3 x hx).1.step hb, (h3 x hx).2⟩⟩, h4.step hb, h5⟩
theorem InvA.start (B0 : Nat) (l : List NightV) (T : List (Int × Int × List Int)) (w : World) : InvA B0 l T w 0 0 (.slice none 0 0) (.slice none 0 0) :=
  ⟨⟨[], OwnN.nil _ _, by simp, fun x hx => by simp at hx⟩, by rw [List.take_zero]; exact OwnN.nil _ _, fun g h => by simp [Value.ownBlock] at h⟩
theorem OwnN.lt {w : World} {base : Nat} {v : Value} {l : List NightV} (h : OwnN w base v l) : ∀ g, v.ownBlock = some g → base ≤ g ∧ g < w.heap.size := World.ownsRow.lt h
theorem OwnN.of_block {w w1 : World} {base : Nat} {v : Value} {l : List NightV} (h : OwnN w base v l) (hb : ∀ g, v.ownBlock = some g → w1.heap[g]? = w.heap[g]?) : OwnN w1 base v l := by
  obtain ⟨h1, h2⟩ := h
  refine ⟨h1, ?_⟩
  rcases h2 with h2 | ⟨g, cap, cur, e1, e2, e3, e4⟩
  · exact Or.inl h2
  · exact Or.inr ⟨g, cap, cur, e1, e2, (hb g (by rw [e1]; rfl)).trans e3, e4⟩
theorem OwnN.ty {w : World} {base : Nat} {v : Value} {l : List NightV} (h : OwnN w base v l) {g : Nat} (hg : v.ownBlock = some g) : ∃ cur, w.heap[g]? = some (.cells cur 24 (0, 0)) := by
  obtain ⟨h1, h2⟩ := h
  rcases h2 with ⟨rfl, _⟩ | ⟨g', cap, cur, rfl, e2, e3, e4⟩
  · simp [Value.ownBlock] at hg
  · simp [Value.ownBlock] at hg
    subst hg
    exact ⟨cur, e3⟩
theorem OwnV.of_block {w w1 : World} {base : Nat} {v : Value} {zs : List Int} (h : OwnV w base v zs) (hb : ∀ g, v.ownBlock = some g → w1.heap[g]? = w.heap[g]?) : OwnV w1 base v zs := by
  obtain ⟨h1, h2⟩ := h
  refine ⟨h1, ?_⟩
  rcases h2 with h2 | ⟨g, cap, cur, e1, e2, e3, e4⟩
  · exact Or.inl h2
  · exact Or.inr ⟨g, cap, cur, e1, e2, (hb g (by rw [e1]; rfl)).trans e3, e4⟩
/-- A block of nights is none of a slice of ints. -/
theorem OwnV.apart {w : World} {base : Nat} {v : Value} {zs : List Int} (h : OwnV w base v zs) {g q : Nat} (hg : v.ownBlock = some g) (hq : ∃ cur, w.heap[q]? = some (.cells cur 24 (0, 0))) : g ≠ q := by
  obtain ⟨cur, hq⟩ := hq
  rintro rfl
  obtain ⟨h1, h2⟩ := h
  rcases h2 with ⟨rfl, _⟩ | ⟨g', cap, cur', rfl, e2, e3, e4⟩
  · simp [Value.ownBlock] at hg
  · simp [Value.ownBlock] at hg
    subst hg
    rw [e3] at hq
    simp at hq
/-- Whatever block of nights q turns: what lies elsewhere stays. -/
theorem OwnV.keepN {w w1 : World} {base q : Nat} {v : Value} {zs : List Int} (h : OwnV w base v zs) (hq : ∃ cur, w.heap[q]? = some (.cells cur 24 (0, 0))) (hb : ∀ g, g < w.heap.size → g ≠ q → w1.heap[g]? = w.heap[g]?) : OwnV w1 base v zs :=
  h.of_block (fun g hg => hb g (World.ownsRow.lt h g hg).2 (h.apart hg hq))
theorem OwnV.grownN {w w1 : World} {base b1 : Nat} {v v1 : Value} {zs : List Int} {L : List NightV} (h : OwnV w base v zs) (h1 : OwnN w b1 v1 L) (hg : w.grownBy w1 v1.ownBlock) : OwnV w1 base v zs :=
  h.of_block (fun g hgg => hg.block g (World.ownsRow.lt h g hgg).2 (fun e => h.apart hgg (h1.ty e.symm) rfl))
/-- bare is appended to. -/
theorem InvA.addB {B0 : Nat} {l : List NightV} {T : List (Int × Int × List Int)} {w w1 : World} {ko kb : Nat} {vo vb vb1 : Value} (h : InvA B0 l T w ko kb vo vb) {x : NightV} (hx : l[kb]? = some x) (h1 : OwnN w1 B0 vb1 ((l.take kb).map bareN ++ [bareN x])) (hg : w.grownBy w1 vb.ownBlock)
    (he : vb1.ownBlock = vb.ownBlock ∨ vb1.ownBlock = some w.heap.size) : InvA B0 l T w1 ko (kb + 1) vo vb1 := by
  obtain ⟨⟨Lo, a1, a2, a3⟩, a4, a5⟩ := h
  refine ⟨⟨Lo, a1.of_block (fun g hgg => hg.block g (a1.lt g hgg).2 (fun e => a5 g hgg e.symm)), a2, fun y hy => ⟨(a3 y hy).1.grownN a4 hg, (a3 y hy).2⟩⟩, ?_, fun g hgg e => ?_⟩
  · rw [take_at hx, List.map_append]; exact h1
  · rcases he with he | he
    · exact a5 g hgg (he ▸ e)
    · have := (a1.lt g hgg).2
      rw [he] at e
      simp at e
      omega
/-- out is appended to. -/
theorem InvA.addO {B0 : Nat} {l : List NightV} {T : List (Int × Int × List Int)} {w w1 : World} {ko kb : Nat} {vo vb vo1 : Value} {Lo : List NightV} (h : InvA B0 l T w ko kb vo vb) (hL : OwnN w B0 vo Lo) (hT : Lo.map triN = T.take ko) (hS : ∀ x ∈ Lo, OwnV w B0 (.slice x.at' x.n x.cap) x.zs ∧ x.zs.length = x.n)
    {x : NightV} (hx : T[ko]? = some (triN x)) (hxs : OwnV w B0 (.slice x.at' x.n x.cap) x.zs ∧ x.zs.length = x.n) (h1 : OwnN w1 B0 vo1 (Lo ++ [x])) (hg : w.grownBy w1 vo.ownBlock)
    (he : vo1.ownBlock = vo.ownBlock ∨ vo1.ownBlock = some w.heap.size) : InvA B0 l T w1 (ko + 1) kb vo1 vb := by
  obtain ⟨_, a4, a5⟩ := h
  refine ⟨⟨Lo ++ [x], h1, by rw [List.map_append, hT, take_at hx]; rfl, fun y hy => ?_⟩, a4.of_block (fun g hgg => hg.block g (a4.lt g hgg).2 (fun e => a5 g e.symm hgg)), fun g hgg e => ?_⟩
  · rcases List.mem_append.1 hy with hy | hy
    · exact ⟨(hS y hy).1.grownN hL hg, (hS y hy).2⟩
    · simp only [List.mem_singleton] at hy
      subst hy
      exact ⟨hxs.1.grownN hL hg, hxs.2⟩
  · rcases he with he | he
    · exact a5 g (he ▸ hgg) e
    · have := (a4.lt g e).2
      rw [he] at hgg
      simp at hgg
      omega
/-- A block of nights besides is stored into. -/
theorem InvA.put {B0 q i : Nat} {l : List NightV} {T : List (Int × Int × List Int)} {w : World} {ko kb : Nat} {vo vb v : Value} (h : InvA B0 l T w ko kb vo vb) (hq : ∃ cur, w.heap[q]? = some (.cells cur 24 (0, 0))) (h1 : vo.ownBlock ≠ some q) (h2 : vb.ownBlock ≠ some q) :
    InvA B0 l T (w.setCell ⟨q, i, none⟩ v) ko kb vo vb := by
  have hb : ∀ g, g ≠ q → (w.setCell ⟨q, i, none⟩ v).heap[g]? = w.heap[g]? := fun g hg => Below.heap_setCell _ _ _ _ hg
  obtain ⟨⟨Lo, a1, a2, a3⟩, a4, a5⟩ := h
  exact ⟨⟨Lo, a1.of_block (fun g hg => hb g (fun e => h1 (e ▸ hg))), a2, fun x hx => ⟨(a3 x hx).1.keepN hq (fun g _ hg => hb g hg), (a3 x hx).2⟩⟩, a4.of_block (fun g hg => hb g (fun e => h2 (e ▸ hg))), a5⟩

end

section
set_option linter.unusedSimpArgs false
set_option linter.unusedVariables false
open Go.RowKit

theorem any_at {p : ListV → Bool} {ls : List ListV} (h : ls.any p = true) : ∃ (i : Nat) (x : ListV), ls[i]? = some x ∧ p x = true := by
  obtain ⟨x, hx, hp⟩ := List.any_eq_true.1 h
  obtain ⟨i, hi, he⟩ := List.getElem_of_mem hx
  exact ⟨i, x, by rw [List.getElem?_eq_getElem hi, he], hp⟩
theorem TopOk.at {zs : List Int} {c : Int} (h : sharesB zs = true) (hc : 0 ≤ c ∧ c ≤ 30) : TopOk zs c := ⟨h, hc.1, hc.2⟩

/-- Is Plan asked rightly? -/
def plB (l : List NightV) (ls : List ListV) (c most : Int) : Bool := nightsB l && inB c 30 && inB most 1000 && decide (ls.length = l.length) && !ls.any fun x => !sharesB x.zs

set_option maxRecDepth 100000 in
set_option maxHeartbeats 3200000 in
theorem Plan_arg (a b : Option Addr) (n cap m capm : Nat) (l : List NightV) (ls : List ListV) (c most : Int) (w : World) (hm : n ≤ 9223372036854775807) (hmm : m ≤ 9223372036854775807) (hs : SlN w a n l) (hcaps : ∀ x ∈ l, x.n ≤ x.cap ∧ x.cap ≤ maxLen) (ht : SlL w b m ls) (hB : plB l ls c most = false) :
    Calls Try.prog 19 #[.slice a n cap, .slice b m capm, .int .i64 c, .int .i64 most] w
      fun e w' => e = .returned (.tuple #[.slice none 0 0, .agg #[.int .i64 0, .int .i64 0, .slice none 0 0, .slice none 0 0], .bool false, .int .i64 1]) ∧ Below w.heap.size w w' := by
  have HS := Lib.hid hs
  have HT := Lib.hid ht
  have HC := Lib.hid hcaps
  have hl := hs.1
  have hlm := ht.1
  clear hs ht hcaps
  unfold plB at hB
  cases hg : (nightsB l && inB c 30 && inB most 1000) with
  | false =>
    have HG := Lib.hid hg
    clear hB hg
    go_enter Try.func19, Try.ntmps19
    go_wp2_with fail
    go_step3
    go_wp2_with fail
    refine (check_any _ _ _ l c most _ hm (HS.out.below (by (repeat' (first | (with_reducible exact Below.refl _ _) | (with_reducible assumption) | (with_reducible exact Bw.out (by with_reducible assumption)) | (with_reducible refine bw_alloc ?_ _) | (with_reducible refine bw_step ?_ (by with_reducible assumption)) | (with_reducible refine Below.alloc ?_ ?_ _) | (with_reducible refine Below.drew ?_) | (with_reducible refine below_drewN ?_ _) | (with_reducible refine Below.setCell ?_ ?_ _) | (with_reducible refine below_step ?_ (by with_reducible assumption) ?_) | (with_reducible exact Nat.le_refl _) | omega | (simp; omega) | (simp; done))))) HC.out false HG.out).mono ?_
    rintro e w1 ⟨rfl, hb1⟩
    have R_r_1 : Row w1 (w.heap.size) [.int .i64 (0), .int .i64 (0), .slice none 0 0, .slice none 0 0] := by (repeat' (first | (with_reducible assumption) | (with_reducible refine Row.new' _ _ _ (by first | rfl | (simp; done) | omega)) | (with_reducible refine Row.alloc ?_ _) | (with_reducible refine Row.drew ?_) | (with_reducible refine Row.drewN ?_ _) | (with_reducible refine Row.step ?_ (by with_reducible assumption)) | (with_reducible refine Row.set2' ?_ _ _; first | exact ⟨_, _, by with_reducible assumption⟩ | exact ⟨_, _, Row.alloc (by with_reducible assumption) _⟩ | exact ⟨_, _, Row.alloc (Row.alloc (by with_reducible assumption) _) _⟩) | (with_reducible refine Row.other ?_ (by first | omega | (simp; done) | (simp; omega)) _)))
    have c_r_0_1 := R_r_1.cell 0 rfl
    have c_r_1_1 := R_r_1.cell 1 rfl
    have c_r_2_1 := R_r_1.cell 2 rfl
    have c_r_3_1 := R_r_1.cell 3 rfl
    have z_r_0_1 := R_r_1.frozen 0
    have z_r_1_1 := R_r_1.frozen 1
    have z_r_2_1 := R_r_1.frozen 2
    have z_r_3_1 := R_r_1.frozen 3
    have l_r_1 := R_r_1.lt
    have HB1 : Below w.heap.size w w1 := by (repeat' (first | (with_reducible exact Below.refl _ _) | (with_reducible assumption) | (with_reducible exact Bw.out (by with_reducible assumption)) | (with_reducible refine bw_alloc ?_ _) | (with_reducible refine bw_step ?_ (by with_reducible assumption)) | (with_reducible refine Below.alloc ?_ ?_ _) | (with_reducible refine Below.drew ?_) | (with_reducible refine below_drewN ?_ _) | (with_reducible refine Below.setCell ?_ ?_ _) | (with_reducible refine below_step ?_ (by with_reducible assumption) ?_) | (with_reducible exact Nat.le_refl _) | omega | (simp; omega) | (simp; done)))
    have Rr := R_r_1
    have d0 := Rr.cell 0 rfl
    have d1 := Rr.cell 1 rfl
    have d2 := Rr.cell 2 rfl
    have d3 := Rr.cell 3 rfl
    have e0 := Rr.frozen 0
    have e1 := Rr.frozen 1
    have e2 := Rr.frozen 2
    have e3 := Rr.frozen 3
    have dl := Rr.lt
    have RZ := Row.set4' ⟨_, _, _, _, Rr⟩ (.int .i64 0) (.int .i64 0) (.slice none 0 0) (.slice none 0 0)
    have z0 := RZ.cell 0 rfl
    have z1 := RZ.cell 1 rfl
    have z2 := RZ.cell 2 rfl
    have z3 := RZ.cell 3 rfl
    have zl := RZ.lt
    go_wp2_with fail
    try rw [Exit.noGoto_ret]
    refine bodyPost_ret (v := .tuple #[.slice none 0 0, .agg #[.int .i64 0, .int .i64 0, .slice none 0 0, .slice none 0 0], .bool false, .int .i64 1]) (by simp [results, Try.results19, go_sem, z0, z1, z2, z3, zl, d0, d1, d2, d3, dl]) rfl ⟨rfl, ?_⟩
    (repeat' (first | (with_reducible exact Below.refl _ _) | (with_reducible assumption) | (with_reducible exact Bw.out (by with_reducible assumption)) | (with_reducible refine bw_alloc ?_ _) | (with_reducible refine bw_step ?_ (by with_reducible assumption)) | (with_reducible refine Below.alloc ?_ ?_ _) | (with_reducible refine Below.drew ?_) | (with_reducible refine below_drewN ?_ _) | (with_reducible refine Below.setCell ?_ ?_ _) | (with_reducible refine below_step ?_ (by with_reducible assumption) ?_) | (with_reducible exact Nat.le_refl _) | omega | (simp; omega) | (simp; done)))
  | true =>
    rw [hg, Bool.true_and] at hB
    have HG := Lib.hid hg
    by_cases hnm : m = n
    · subst hnm
      have hany : (ls.any fun x => !sharesB x.zs) = true := by
        rw [show decide (ls.length = l.length) = true by simp [hl, hlm]] at hB
        simpa using hB
      obtain ⟨q, y, hy, hyB⟩ := any_at hany
      have hc : 0 ≤ c ∧ c ≤ 30 := by
        simp only [Bool.and_eq_true] at hg
        exact inB_iff.1 hg.1.2
      have hq : q < m := by rw [← hlm]; exact (List.getElem?_eq_some_iff.1 hy).1
      have HY := Lib.hid hy
      have HYB : Hid (sharesB y.zs = false) := by show _ = _; simpa using hyB
      have HCC := Lib.hid hc
      clear hB hg hany hy hyB hc
      go_enter Try.func19, Try.ntmps19
      go_wp2_with fail
      go_step3
      go_wp2_with fail
      refine (check_any _ _ _ l c most _ hm (HS.out.below (by (repeat' (first | (with_reducible exact Below.refl _ _) | (with_reducible assumption) | (with_reducible exact Bw.out (by with_reducible assumption)) | (with_reducible refine bw_alloc ?_ _) | (with_reducible refine bw_step ?_ (by with_reducible assumption)) | (with_reducible refine Below.alloc ?_ ?_ _) | (with_reducible refine Below.drew ?_) | (with_reducible refine below_drewN ?_ _) | (with_reducible refine Below.setCell ?_ ?_ _) | (with_reducible refine below_step ?_ (by with_reducible assumption) ?_) | (with_reducible exact Nat.le_refl _) | omega | (simp; omega) | (simp; done))))) HC.out true HG.out).mono ?_
      rintro e w1 ⟨rfl, hb1⟩
      have R_r_1 : Row w1 (w.heap.size) [.int .i64 (0), .int .i64 (0), .slice none 0 0, .slice none 0 0] := by (repeat' (first | (with_reducible assumption) | (with_reducible refine Row.new' _ _ _ (by first | rfl | (simp; done) | omega)) | (with_reducible refine Row.alloc ?_ _) | (with_reducible refine Row.drew ?_) | (with_reducible refine Row.drewN ?_ _) | (with_reducible refine Row.step ?_ (by with_reducible assumption)) | (with_reducible refine Row.set2' ?_ _ _; first | exact ⟨_, _, by with_reducible assumption⟩ | exact ⟨_, _, Row.alloc (by with_reducible assumption) _⟩ | exact ⟨_, _, Row.alloc (Row.alloc (by with_reducible assumption) _) _⟩) | (with_reducible refine Row.other ?_ (by first | omega | (simp; done) | (simp; omega)) _)))
      have c_r_0_1 := R_r_1.cell 0 rfl
      have c_r_1_1 := R_r_1.cell 1 rfl
      have c_r_2_1 := R_r_1.cell 2 rfl
      have c_r_3_1 := R_r_1.cell 3 rfl
      have z_r_0_1 := R_r_1.frozen 0
      have z_r_1_1 := R_r_1.frozen 1
      have z_r_2_1 := R_r_1.frozen 2
      have z_r_3_1 := R_r_1.frozen 3
      have l_r_1 := R_r_1.lt
      have HB1 : Below w.heap.size w w1 := by (repeat' (first | (with_reducible exact Below.refl _ _) | (with_reducible assumption) | (with_reducible exact Bw.out (by with_reducible assumption)) | (with_reducible refine bw_alloc ?_ _) | (with_reducible refine bw_step ?_ (by with_reducible assumption)) | (with_reducible refine Below.alloc ?_ ?_ _) | (with_reducible refine Below.drew ?_) | (with_reducible refine below_drewN ?_ _) | (with_reducible refine Below.setCell ?_ ?_ _) | (with_reducible refine below_step ?_ (by with_reducible assumption) ?_) | (with_reducible exact Nat.le_refl _) | omega | (simp; omega) | (simp; done)))
      have HBB := Lib.hid HB1
      have HRR := Lib.hid R_r_1
      clear R_r_1 HB1
      go_wp2_with fail
      go_loopw [40] (fun i wr => ∃ k : Nat, k ≤ q ∧ i = .int .i64 k ∧ Hid (Below w1.heap.size w1 wr)) (fun i _ => m - (intOf i).toNat)
      case atStart => exact ⟨0, Nat.zero_le _, rfl, Below.refl _ _⟩
      case round =>
        obtain ⟨k, hk, rfl, hB⟩ := hrel
        have hBw : Hid (Below w.heap.size w wr) := HBB.out.trans (hB.out.mono HBB.out.size)
        obtain ⟨x, b1, off, hx, rfl, hb, KX, c0⟩ := (HT.out.below hBw.out).get (show k < m by omega)
        have HKX := Lib.hid KX
        have i1 : (0 : Int) ≤ (k : Int) := by omega
        have i2 : (k : Int) < (m : Int) := by omega
        have HX := Lib.hid hx
        clear KX hx
        cases hsb : sharesB x.zs with
        | true =>
          have HSB := Lib.hid hsb
          have hkq : k < q := by
            rcases Nat.lt_or_ge k q with h | h
            · exact h
            · exfalso
              obtain rfl : k = q := by omega
              have h1 := HX.out
              rw [HY.out] at h1
              cases h1
              rw [HYB.out] at hsb
              cases hsb
          clear hsb
          go_wp2_with fail
          refine (top_ok _ _ _ x.zs c _ HKX.out.len HKX.out.sl (TopOk.at HSB.out HCC.out)).mono ?_
          rintro e w4 ⟨v, rfl, _, hb4⟩
          go_wp2_with fail
          go_roundw
          case rel => exact ⟨k + 1, by omega, by go_num, hB.out.trans (hb4.mono hB.out.size)⟩
          case measure => simp [intOf]; omega
        | false =>
          have HSB := Lib.hid hsb
          clear hsb
          go_wp2_with fail
          refine (top_not _ _ _ x.zs c _ HKX.out.len HKX.out.sl (fun h => by rw [h.1] at HSB; cases HSB.out)).mono ?_
          rintro e w4 ⟨rfl, hb4⟩
          have hB4 : Below w.heap.size w w4 := hBw.out.trans (hb4.mono hBw.out.size)
          have Rr := (HRR.out.step hB.out).step hb4
          clear hb4 hB hBw
          have d0 := Rr.cell 0 rfl
          have d1 := Rr.cell 1 rfl
          have d2 := Rr.cell 2 rfl
          have d3 := Rr.cell 3 rfl
          have e0 := Rr.frozen 0
          have e1 := Rr.frozen 1
          have e2 := Rr.frozen 2
          have e3 := Rr.frozen 3
          have dl := Rr.lt
          have RZ := Row.set4' ⟨_, _, _, _, Rr⟩ (.int .i64 0) (.int .i64 0) (.slice none 0 0) (.slice none 0 0)
          have z0 := RZ.cell 0 rfl
          have z1 := RZ.cell 1 rfl
          have z2 := RZ.cell 2 rfl
          have z3 := RZ.cell 3 rfl
          have zl := RZ.lt
          go_wp2_with fail
          try rw [Exit.noGoto_ret]
          refine bodyPost_ret (v := .tuple #[.slice none 0 0, .agg #[.int .i64 0, .int .i64 0, .slice none 0 0, .slice none 0 0], .bool false, .int .i64 1]) (by simp [results, Try.results19, go_sem, z0, z1, z2, z3, zl, d0, d1, d2, d3, dl]) rfl ⟨rfl, ?_⟩
          (repeat' (first | (with_reducible exact Below.refl _ _) | (with_reducible assumption) | (with_reducible exact Bw.out (by with_reducible assumption)) | (with_reducible refine bw_alloc ?_ _) | (with_reducible refine bw_step ?_ (by with_reducible assumption)) | (with_reducible refine Below.alloc ?_ ?_ _) | (with_reducible refine Below.drew ?_) | (with_reducible refine below_drewN ?_ _) | (with_reducible refine Below.setCell ?_ ?_ _) | (with_reducible refine below_step ?_ (by with_reducible assumption) ?_) | (with_reducible exact Nat.le_refl _) | omega | (simp; omega) | (simp; done)))
    · have hne : ¬ ((m : Int) = (n : Int)) := by omega
      clear hB hg
      go_enter Try.func19, Try.ntmps19
      go_wp2_with fail
      go_step3
      go_wp2_with fail
      refine (check_any _ _ _ l c most _ hm (HS.out.below (by (repeat' (first | (with_reducible exact Below.refl _ _) | (with_reducible assumption) | (with_reducible exact Bw.out (by with_reducible assumption)) | (with_reducible refine bw_alloc ?_ _) | (with_reducible refine bw_step ?_ (by with_reducible assumption)) | (with_reducible refine Below.alloc ?_ ?_ _) | (with_reducible refine Below.drew ?_) | (with_reducible refine below_drewN ?_ _) | (with_reducible refine Below.setCell ?_ ?_ _) | (with_reducible refine below_step ?_ (by with_reducible assumption) ?_) | (with_reducible exact Nat.le_refl _) | omega | (simp; omega) | (simp; done))))) HC.out true HG.out).mono ?_
      rintro e w1 ⟨rfl, hb1⟩
      have R_r_1 : Row w1 (w.heap.size) [.int .i64 (0), .int .i64 (0), .slice none 0 0, .slice none 0 0] := by (repeat' (first | (with_reducible assumption) | (with_reducible refine Row.new' _ _ _ (by first | rfl | (simp; done) | omega)) | (with_reducible refine Row.alloc ?_ _) | (with_reducible refine Row.drew ?_) | (with_reducible refine Row.drewN ?_ _) | (with_reducible refine Row.step ?_ (by with_reducible assumption)) | (with_reducible refine Row.set2' ?_ _ _; first | exact ⟨_, _, by with_reducible assumption⟩ | exact ⟨_, _, Row.alloc (by with_reducible assumption) _⟩ | exact ⟨_, _, Row.alloc (Row.alloc (by with_reducible assumption) _) _⟩) | (with_reducible refine Row.other ?_ (by first | omega | (simp; done) | (simp; omega)) _)))
      have c_r_0_1 := R_r_1.cell 0 rfl
      have c_r_1_1 := R_r_1.cell 1 rfl
      have c_r_2_1 := R_r_1.cell 2 rfl
      have c_r_3_1 := R_r_1.cell 3 rfl
      have z_r_0_1 := R_r_1.frozen 0
      have z_r_1_1 := R_r_1.frozen 1
      have z_r_2_1 := R_r_1.frozen 2
      have z_r_3_1 := R_r_1.frozen 3
      have l_r_1 := R_r_1.lt
      have HB1 : Below w.heap.size w w1 := by (repeat' (first | (with_reducible exact Below.refl _ _) | (with_reducible assumption) | (with_reducible exact Bw.out (by with_reducible assumption)) | (with_reducible refine bw_alloc ?_ _) | (with_reducible refine bw_step ?_ (by with_reducible assumption)) | (with_reducible refine Below.alloc ?_ ?_ _) | (with_reducible refine Below.drew ?_) | (with_reducible refine below_drewN ?_ _) | (with_reducible refine Below.setCell ?_ ?_ _) | (with_reducible refine below_step ?_ (by with_reducible assumption) ?_) | (with_reducible exact Nat.le_refl _) | omega | (simp; omega) | (simp; done)))
      have Rr := R_r_1
      have d0 := Rr.cell 0 rfl
      have d1 := Rr.cell 1 rfl
      have d2 := Rr.cell 2 rfl
      have d3 := Rr.cell 3 rfl
      have e0 := Rr.frozen 0
      have e1 := Rr.frozen 1
      have e2 := Rr.frozen 2
      have e3 := Rr.frozen 3
      have dl := Rr.lt
      have RZ := Row.set4' ⟨_, _, _, _, Rr⟩ (.int .i64 0) (.int .i64 0) (.slice none 0 0) (.slice none 0 0)
      have z0 := RZ.cell 0 rfl
      have z1 := RZ.cell 1 rfl
      have z2 := RZ.cell 2 rfl
      have z3 := RZ.cell 3 rfl
      have zl := RZ.lt
      go_wp2_with fail
      try rw [Exit.noGoto_ret]
      refine bodyPost_ret (v := .tuple #[.slice none 0 0, .agg #[.int .i64 0, .int .i64 0, .slice none 0 0, .slice none 0 0], .bool false, .int .i64 1]) (by simp [results, Try.results19, go_sem, z0, z1, z2, z3, zl, d0, d1, d2, d3, dl]) rfl ⟨rfl, ?_⟩
      (repeat' (first | (with_reducible exact Below.refl _ _) | (with_reducible assumption) | (with_reducible exact Bw.out (by with_reducible assumption)) | (with_reducible refine bw_alloc ?_ _) | (with_reducible refine bw_step ?_ (by with_reducible assumption)) | (with_reducible refine Below.alloc ?_ ?_ _) | (with_reducible refine Below.drew ?_) | (with_reducible refine below_drewN ?_ _) | (with_reducible refine Below.setCell ?_ ?_ _) | (with_reducible refine below_step ?_ (by with_reducible assumption) ?_) | (with_reducible exact Nat.le_refl _) | omega | (simp; omega) | (simp; done)))

end

section
set_option linter.unusedSimpArgs false
set_option linter.unusedVariables false
open Go.RowKit

theorem bareL_in (l : List NightV) (k : Nat) (w : World) : ∀ y ∈ (l.take k).map bareN, y.In w := fun y hy => by
  obtain ⟨x, _, rfl⟩ := List.mem_map.1 hy
  exact bareN_in x w
theorem bareL_caps (l : List NightV) (k : Nat) : ∀ y ∈ (l.take k).map bareN, y.n ≤ y.cap ∧ y.cap ≤ maxLen := fun y hy => by
  obtain ⟨x, _, rfl⟩ := List.mem_map.1 hy
  exact ⟨Nat.le_refl _, Nat.zero_le _⟩
theorem bare_at {l : List NightV} {k i : Nat} {x : NightV} (hi : i < k) (hx : l[i]? = some x) : ((l.take k).map bareN)[i]? = some (bareN x) := by
  rw [List.getElem?_map, List.getElem?_take, if_pos hi, hx]; rfl
theorem bare_idx {l : List NightV} {q c : Nat} {x : NightV} {most : Int} (h0 : 0 ≤ most) (hx : l[q]? = some x) (hbr : x.rooms + most < x.sold) (hP : ∀ (j : Nat) y, j < q → l[j]? = some y → y.sold ≤ y.rooms + most) :
    idxN (brk c most) ((l.take (q + 1)).map bareN) 0 = (q : Int) ∧ ((l.take (q + 1)).map bareN)[q]? = some ⟨x.rooms, x.sold, none, 0, 0, []⟩ ∧ brk c most ⟨x.rooms, x.sold, none, 0, 0, []⟩ = true := by
  have h1 : ((l.take (q + 1)).map bareN)[q]? = some (bareN x) := bare_at (by omega) hx
  have h2 : brk c most (bareN x) = true := by rw [brk_bare h0]; simpa using hbr
  refine ⟨?_, h1, h2⟩
  rcases first_brk (brk c most) ((l.take (q + 1)).map bareN) with h | ⟨i, y, hi, hy, hby, hpre⟩
  · have := any_brk h h1
    rw [h2] at this
    cases this
  · rw [hi]
    rcases Nat.lt_trichotomy i q with h | h | h
    · exfalso
      have hl : i < l.length := by have := (List.getElem?_eq_some_iff.1 hx).1; omega
      have h3 := bare_at (k := q + 1) (by omega) (List.getElem?_eq_getElem hl)
      rw [hy] at h3
      cases h3
      rw [brk_bare h0] at hby
      have := hP i _ h (List.getElem?_eq_getElem hl)
      simp at hby
      omega
    · rw [h]
    · have := hpre q _ h h1
      rw [h2] at this
      cases this
theorem SlC.empty {w w1 : World} {a : Option Addr} {d : Nat} (h : SlC w a 0 d []) : SlC w1 a 0 d [] := by
  obtain ⟨_, a', c', e, _, h3⟩ := h
  cases e
  exact ⟨rfl, a, d, rfl, SlI.nil _ _, h3⟩
theorem SlV.parts {w : World} {a : Option Addr} {n cap : Nat} {zs : List Int} (h : SlV w (.slice a n cap) zs) : zs.length = n ∧ SlI w a n zs ∧ n ≤ cap ∧ cap ≤ maxLen := by
  obtain ⟨ad, cp, e, h1, h2, h3⟩ := h
  simp only [Value.slice.injEq] at e
  obtain ⟨rfl, rfl, rfl⟩ := e
  exact ⟨rfl, h1, h2, h3⟩
theorem alloc_ty (w : World) (cs : Array Value) : ∃ cur, (w.alloc (.cells cs 24)).heap[w.heap.size]? = some (.cells cur 24 (0, 0)) := ⟨cs, by show (w.heap.push _)[w.heap.size]? = _; simp⟩
theorem InvA.old {B0 : Nat} {l : List NightV} {T : List (Int × Int × List Int)} {w : World} {ko kb : Nat} {vo vb : Value} (h : InvA B0 l T w ko kb vo vb) : ∀ g, vo.ownBlock = some g → B0 ≤ g ∧ g < w.heap.size := by
  obtain ⟨⟨Lo, h1, _⟩, _, _⟩ := h
  exact h1.lt

/-- What Plan returns where it is asked rightly. -/
def PlP (l : List NightV) (ls : List ListV) (c : Nat) (most : Int) (n : Nat) (e : Ending) (w' : World) : Prop :=
  (∃ ad cp L, e = .returned (.tuple #[.slice ad n cp, .agg #[.int .i64 0, .int .i64 0, .slice none 0 0, .slice none 0 0], .bool true, .int .i64 0]) ∧ SlN w' ad n L ∧ (∀ x ∈ L, x.n ≤ x.cap ∧ x.cap ≤ maxLen) ∧ n ≤ cp ∧ cp ≤ maxLen ∧ L.map triN = plT c most l ls ∧ ∀ (j : Nat) x, l[j]? = some x → x.sold ≤ x.rooms + most) ∨
  (∃ (i : Nat) (x : NightV) (a1 : Option Addr) (d1 : Nat) (a2 : Option Addr) (d2 : Nat), e = .returned (.tuple #[.slice none 0 0, .agg #[.int .i64 i, .int .i64 (x.sold - x.rooms), .slice a1 0 d1, .slice a2 0 d2], .bool false, .int .i64 0]) ∧ SlC w' a1 0 d1 [] ∧ SlC w' a2 0 d2 [] ∧ l[i]? = some x ∧ x.rooms + most < x.sold ∧ ∀ (j : Nat) y, j < i → l[j]? = some y → y.sold ≤ y.rooms + most)

set_option maxRecDepth 100000 in
set_option maxHeartbeats 6400000 in
theorem Plan_ok (a b : Option Addr) (n cap capm : Nat) (l : List NightV) (ls : List ListV) (c : Nat) (most : Int) (w : World) (hs : SlN w a n l) (hcaps : ∀ x ∈ l, x.n ≤ x.cap ∧ x.cap ≤ maxLen) (ht : SlL w b n ls) (hB : plB l ls c most = true) :
    Calls Try.prog 19 #[.slice a n cap, .slice b n capm, .int .i64 c, .int .i64 most] w fun e w' => PlP l ls c most n e w' ∧ Below w.heap.size w w' := by
  have HS := Lib.hid hs
  have HT := Lib.hid ht
  have HC := Lib.hid hcaps
  have hl := hs.1
  have hlm := ht.1
  unfold plB at hB
  simp only [Bool.and_eq_true] at hB
  obtain ⟨⟨⟨⟨h1, h2⟩, h3⟩, h4⟩, h5⟩ := hB
  have hc30 : c ≤ 30 := by have := (inB_iff.1 h2).2; omega
  obtain ⟨hm0, hm1⟩ := inB_iff.1 h3
  have hn : n ≤ 366 := by have := nightsB_len h1; omega
  have HN := Lib.hid h1
  have HG : Hid ((nightsB l && inB (c : Int) 30 && inB most 1000) = true) := by show _ = _; rw [h1, h2, h3]; rfl
  have HSH : Hid (∀ (i : Nat) y, ls[i]? = some y → sharesB y.zs = true) := fun i y hy => by
    have h6 := h5
    simp only [Bool.not_eq_true', List.any_eq_false] at h6
    have := h6 y (List.mem_of_getElem? hy)
    simpa using this
  obtain ⟨T, hT⟩ : ∃ T, plT c most l ls = T := ⟨_, rfl⟩
  have HTT := Lib.hid hT
  clear hs ht hcaps h1 h2 h3 h4 h5 hT
  go_enter Try.func19, Try.ntmps19
  go_wp2_with fail
  go_step3
  go_wp2_with fail
  refine (check_any _ _ _ l c most _ (by omega) (HS.out.below (by (repeat' (first | (with_reducible exact Below.refl _ _) | (with_reducible assumption) | (with_reducible exact Bw.out (by with_reducible assumption)) | (with_reducible refine bw_alloc ?_ _) | (with_reducible refine bw_step ?_ (by with_reducible assumption)) | (with_reducible refine Below.alloc ?_ ?_ _) | (with_reducible refine Below.drew ?_) | (with_reducible refine below_drewN ?_ _) | (with_reducible refine Below.setCell ?_ ?_ _) | (with_reducible refine below_step ?_ (by with_reducible assumption) ?_) | (with_reducible exact Nat.le_refl _) | omega | (simp; omega) | (simp; done))))) HC.out true HG.out).mono ?_
  rintro e w1 ⟨rfl, hb1⟩
  have R_r_1 : Row w1 (w.heap.size) [.int .i64 (0), .int .i64 (0), .slice none 0 0, .slice none 0 0] := by (repeat' (first | (with_reducible assumption) | (with_reducible refine Row.new' _ _ _ (by first | rfl | (simp; done) | omega)) | (with_reducible refine Row.alloc ?_ _) | (with_reducible refine Row.drew ?_) | (with_reducible refine Row.drewN ?_ _) | (with_reducible refine Row.step ?_ (by with_reducible assumption)) | (with_reducible refine Row.set2' ?_ _ _; first | exact ⟨_, _, by with_reducible assumption⟩ | exact ⟨_, _, Row.alloc (by with_reducible assumption) _⟩ | exact ⟨_, _, Row.alloc (Row.alloc (by with_reducible assumption) _) _⟩) | (with_reducible refine Row.other ?_ (by first | omega | (simp; done) | (simp; omega)) _)))
  have c_r_0_1 := R_r_1.cell 0 rfl
  have c_r_1_1 := R_r_1.cell 1 rfl
  have c_r_2_1 := R_r_1.cell 2 rfl
  have c_r_3_1 := R_r_1.cell 3 rfl
  have z_r_0_1 := R_r_1.frozen 0
  have z_r_1_1 := R_r_1.frozen 1
  have z_r_2_1 := R_r_1.frozen 2
  have z_r_3_1 := R_r_1.frozen 3
  have l_r_1 := R_r_1.lt
  have HB1 : Below w.heap.size w w1 := by (repeat' (first | (with_reducible exact Below.refl _ _) | (with_reducible assumption) | (with_reducible exact Bw.out (by with_reducible assumption)) | (with_reducible refine bw_alloc ?_ _) | (with_reducible refine bw_step ?_ (by with_reducible assumption)) | (with_reducible refine Below.alloc ?_ ?_ _) | (with_reducible refine Below.drew ?_) | (with_reducible refine below_drewN ?_ _) | (with_reducible refine Below.setCell ?_ ?_ _) | (with_reducible refine below_step ?_ (by with_reducible assumption) ?_) | (with_reducible exact Nat.le_refl _) | omega | (simp; omega) | (simp; done)))
  have HBB := Lib.hid HB1
  have HRR := Lib.hid R_r_1
  have hlr := l_r_1
  clear R_r_1 HB1 c_r_0_1 c_r_1_1 c_r_2_1 c_r_3_1 z_r_0_1 z_r_1_1 z_r_2_1 z_r_3_1 hb1
  go_wp2_with fail
  go_loopw [40] (fun i wr => ∃ k : Nat, k ≤ n ∧ i = .int .i64 k ∧ Hid (Below w1.heap.size w1 wr)) (fun i _ => n - (intOf i).toNat)
  case atStart => exact ⟨0, Nat.zero_le _, rfl, Below.refl _ _⟩
  case round =>
    obtain ⟨k, hk, rfl, hB⟩ := hrel
    have hBw : Hid (Below w.heap.size w wr) := HBB.out.trans (hB.out.mono HBB.out.size)
    by_cases hlt : k < n
    · obtain ⟨x, b1, off, hx, rfl, hb, KX, c0⟩ := (HT.out.below hBw.out).get hlt
      have HKX := Lib.hid KX
      have HSB := Lib.hid (HSH.out _ _ hx)
      have i1 : (0 : Int) ≤ (k : Int) := by omega
      have i2 : (k : Int) < (n : Int) := by omega
      clear KX hx
      go_wp2_with fail
      refine (top_ok _ _ _ x.zs c _ HKX.out.len HKX.out.sl (TopOk.at HSB.out (by omega))).mono ?_
      rintro e w4 ⟨v, rfl, _, hb4⟩
      go_wp2_with fail
      go_roundw
      case rel => exact ⟨k + 1, by omega, by go_num, hB.out.trans (hb4.mono hB.out.size)⟩
      case measure => simp [intOf]; omega
    · obtain rfl : k = n := by omega
      obtain ⟨w2, hw2⟩ : ∃ wd : World, wd = wr := ⟨_, rfl⟩
      subst hw2
      have HBw2 := hBw
      have HRR2 := Lib.hid (HRR.out.step hB.out)
      have hlr2 := HRR2.out.lt
      clear hlt hB hBw HRR hk hlr HBB
      go_wp2_with fail
      go_step3
      go_wp2_with fail
      go_loopw [17, 18, 57] (fun vo vb i wr => ∃ (q : Nat) (ao ab : Option Addr) (co cb : Nat), q ≤ k ∧ vo = .slice ao q co ∧ vb = .slice ab q cb ∧ i = .int .i64 q ∧ Hid (InvA w2.heap.size l T wr q q (.slice ao q co) (.slice ab q cb)) ∧ Hid (∀ (j : Nat) x, j < q → l[j]? = some x → x.sold ≤ x.rooms + most) ∧ Hid (Below w2.heap.size w2 wr)) (fun _ _ i _ => k - (intOf i).toNat)
      case atStart => exact ⟨0, none, none, 0, 0, Nat.zero_le _, rfl, rfl, rfl, InvA.start _ _ _ _, (fun j x h => by omega), Below.refl _ _⟩
      case round =>
        obtain ⟨q, ao, ab, co, cb, hq, rfl, rfl, rfl, hI, hP, hB⟩ := hrel
        have hBw : Hid (Below w.heap.size w wr) := HBw2.out.trans (hB.out.mono HBw2.out.size)
        have hsz := hB.out.size
        by_cases hlt : q < k
        · obtain ⟨x, b0, off, hx, hd, hin, rfl, hb, c0, c1, c2⟩ := (HS.out.below hBw.out).get hlt
          have HX := Lib.hid hx
          have i1 : (0 : Int) ≤ (q : Int) := by omega
          have i2 : (q : Int) < (k : Int) := by omega
          have hnx := nightsB_at HN.out hx
          obtain ⟨_, _, ⟨p1, p2⟩, p3, p4⟩ := nightB_parts hnx
          clear hd hin hx hnx
          have hgo := hI.out.old
          have hgb := hI.out.bare.lt
          have hlk : q < l.length := by omega
          have HLT : Hid (((l.take q).map bareN).length = q) := by show _ = _; rw [List.length_map, List.length_take]; omega
          have hB3 : Below wr.heap.size wr (wr.alloc (.cells #[.int .i64 x.rooms, .int .i64 x.sold, .slice none 0 0] 24)) := by (repeat' (first | (with_reducible exact Below.refl _ _) | (with_reducible assumption) | (with_reducible exact Bw.out (by with_reducible assumption)) | (with_reducible refine bw_alloc ?_ _) | (with_reducible refine bw_step ?_ (by with_reducible assumption)) | (with_reducible refine Below.alloc ?_ ?_ _) | (with_reducible refine Below.drew ?_) | (with_reducible refine below_drewN ?_ _) | (with_reducible refine Below.setCell ?_ ?_ _) | (with_reducible refine below_step ?_ (by with_reducible assumption) ?_) | (with_reducible exact Nat.le_refl _) | omega | (simp; omega) | (simp; done)))
          have hR3 : Row (wr.alloc (.cells #[.int .i64 x.rooms, .int .i64 x.sold, .slice none 0 0] 24)) wr.heap.size [.int .i64 x.rooms, .int .i64 x.sold, .slice none 0 0] := Row.new' _ _ _ rfl
          have hT3 : ∃ cur, (wr.alloc (.cells #[.int .i64 x.rooms, .int .i64 x.sold, .slice none 0 0] 24)).heap[wr.heap.size]? = some (.cells cur 24 (0, 0)) := alloc_ty _ _
          have hI3 := hI.out.step hB3
          have hB3w : Below w2.heap.size w2 (wr.alloc (.cells #[.int .i64 x.rooms, .int .i64 x.sold, .slice none 0 0] 24)) := hB.out.trans (hB3.mono hsz)
          have hs3 : (wr.alloc (.cells #[.int .i64 x.rooms, .int .i64 x.sold, .slice none 0 0] 24)).heap.size = wr.heap.size + 1 := by simp
          obtain ⟨gn, hgn⟩ : ∃ gn, wr.heap.size = gn := ⟨_, rfl⟩
          clear hB3
          go_upto_region 15 with fail
          generalize wr.alloc (.cells #[.int .i64 x.rooms, .int .i64 x.sold, .slice none 0 0] 24) = w3 at hR3 hT3 hI3 hB3w hs3 ⊢
          rw [hgn] at hR3 hT3 hs3 hgo hgb hsz
          have HI3 := Lib.hid hI3
          have HS3 := Lib.hid hs3
          have HR3 := Lib.hid hR3
          have HT3 := Lib.hid hT3
          have HB3 := Lib.hid hB3w
          have HGO := Lib.hid hgo
          have HGB := Lib.hid hgb
          have k0 := hR3.cell 0 rfl
          have k1 := hR3.cell 1 rfl
          have k2 := hR3.cell 2 rfl
          clear hs3 hR3 hT3 hI3 hB3w hgo hgb c0 c1 c2 hI hB hBw hb
          go_upto_region 16 with (at_builtin; refine wpList_append_night rfl _ _ _ rfl Try.underlying25 w2.heap.size _ ((l.take q).map bareN) rfl (HI3.out.bare.alloc _) w3.heap.size 1 (bareN x) rfl (Row.new' w3 [_, _, _] _ rfl) (by rw [HLT.out]; omega) (by have := HB3.out.size; simp; omega) ?_; intro v' w5 hown1 hgr1 hat1 hbl1)
          have hI5 : InvA w2.heap.size l T w5 q (q + 1) (.slice ao q co) v' := InvA.addB (HI3.out.step (by (repeat' (first | (with_reducible exact Below.refl _ _) | (with_reducible assumption) | (with_reducible exact Bw.out (by with_reducible assumption)) | (with_reducible refine bw_alloc ?_ _) | (with_reducible refine bw_step ?_ (by with_reducible assumption)) | (with_reducible refine Below.alloc ?_ ?_ _) | (with_reducible refine Below.drew ?_) | (with_reducible refine below_drewN ?_ _) | (with_reducible refine Below.setCell ?_ ?_ _) | (with_reducible refine below_step ?_ (by with_reducible assumption) ?_) | (with_reducible exact Nat.le_refl _) | omega | (simp; omega) | (simp; done))))) HX.out hown1 hgr1 hat1
          have hB5 : Below w2.heap.size w2 w5 := hbl1 w2 (Below.alloc HB3.out (by simpa using HB3.out.size) _)
          have hne3 : ∀ g, Value.ownBlock (.slice ab q cb) = some g → g ≠ gn := fun g hg => by have := HGB.out g hg; omega
          have hk3 : w5.heap[gn]? = w3.heap[gn]? := by
            have h1 := hgr1.block gn (by simp [HS3.out]; omega) (fun e => hne3 gn e.symm rfl)
            exact h1.trans (Below.heap_alloc _ _ _ (by rw [HS3.out]; omega))
          have hR5 : Row w5 gn [.int .i64 x.rooms, .int .i64 x.sold, .slice none 0 0] := HR3.out.of_block hk3
          have hT5 : ∃ cur, w5.heap[gn]? = some (.cells cur 24 (0, 0)) := by rw [hk3]; exact HT3.out
          have hN5 : v'.ownBlock ≠ some gn := fun e => by
            rcases hat1 with h | h
            · exact hne3 gn (h ▸ e) rfl
            · rw [e] at h
              have h3 := HS3.out
              simp at h
              omega
          have HLT1 : Hid (((l.take (q + 1)).map bareN).length = q + 1) := by show _ = _; rw [List.length_map, List.length_take]; omega
          obtain ⟨ab1, cb1, rfl, hbs⟩ := hI5.bare.shape (q + 1) HLT1.out
          have hN0 : (Value.slice ao q co).ownBlock ≠ some gn := fun e => by have := (HGO.out gn e).2; omega
          have HI5 := Lib.hid hI5
          have HR5 := Lib.hid hR5
          have HT5 := Lib.hid hT5
          have HB5 := Lib.hid hB5
          have HN5 := Lib.hid hN5
          have HN0 := Lib.hid hN0
          have k0 := hR5.cell 0 rfl
          have k1 := hR5.cell 1 rfl
          have k2 := hR5.cell 2 rfl
          have e2 := hR5.frozen 2
          have lgn := hR5.lt
          clear hI5 hR5 hT5 hB5 hN5 hN0 hbs hown1 hgr1 hat1 hbl1 hne3 hk3 HR3 HT3 HB3 HI3 HGO HGB HS3
          by_cases hbr : x.rooms + most - x.sold < 0
          · have hbr2 : x.rooms + most < x.sold := by omega
            obtain ⟨j1, j2, j3⟩ := bare_idx (c := c) hm0 HX.out hbr2 hP.out
            have J1 := Lib.hid j1
            have J2 := Lib.hid j2
            have J3 := Lib.hid j3
            have HGq : Hid ((nightsB ((l.take (q + 1)).map bareN) && inB (c : Int) 30 && inB most 1000) = true) := by
              show _ = _
              have h1 := HG.out
              simp only [Bool.and_eq_true] at h1 ⊢
              exact ⟨⟨nightsB_bare h1.1.1 _, h1.1.2⟩, h1.2⟩
            have hw1 : scW x.rooms x.sold most = x.sold - x.rooms := by unfold scW; omega
            have HW1 := Lib.hid hw1
            clear j1 j2 j3 hw1
            go_wp2_with fail
            refine (Promise_c ab1 (q + 1) cb1 ((l.take (q + 1)).map bareN) c most q x.rooms x.sold [] 0 0 _ (HI5.out.bare.sl (bareL_in _ _ _)).1 (bareL_caps _ _) HGq.out none J2.out J1.out J3.out (x.sold - x.rooms) [] [] 0 HW1.out (by rw [topL_nil]; rfl) (by rw [topL_nil]; rfl) rfl (c : Int) rfl).mono ?_
            rintro e w6 ⟨a1, d1, a2, d2, rfl, K1, K2, hb6⟩
            have hBw6 : Below w.heap.size w w6 := HBw2.out.trans ((HB5.out.trans (hb6.mono HB5.out.size)).mono HBw2.out.size)
            have R6 := (HRR2.out.below HB5.out hlr2).step hb6
            have l6 := R6.lt
            go_upto_region 24 with fail
            obtain ⟨w7, hW7⟩ : ∃ W, w6.alloc (.cells #[.int .i64 q, .int .i64 (x.sold - x.rooms), .slice a1 0 d1, .slice a2 0 d2] 37) = W := ⟨_, rfl⟩
            rw [hW7]
            have hB67 : Below w6.heap.size w6 w7 := by rw [← hW7]; (repeat' (first | (with_reducible exact Below.refl _ _) | (with_reducible assumption) | (with_reducible exact Bw.out (by with_reducible assumption)) | (with_reducible refine bw_alloc ?_ _) | (with_reducible refine bw_step ?_ (by with_reducible assumption)) | (with_reducible refine Below.alloc ?_ ?_ _) | (with_reducible refine Below.drew ?_) | (with_reducible refine below_drewN ?_ _) | (with_reducible refine Below.setCell ?_ ?_ _) | (with_reducible refine below_step ?_ (by with_reducible assumption) ?_) | (with_reducible exact Nat.le_refl _) | omega | (simp; omega) | (simp; done)))
            have R7 : Row w7 w6.heap.size [.int .i64 q, .int .i64 (x.sold - x.rooms), .slice a1 0 d1, .slice a2 0 d2] := by rw [← hW7]; exact Row.new' _ _ _ rfl
            have Rr := R6.step hB67
            have hBw7 : Below w.heap.size w w7 := hBw6.trans (hB67.mono hBw6.size)
            have K1' := K1.step hB67
            have K2' := K2.step hB67
            obtain ⟨g7, hg7⟩ : ∃ g, w6.heap.size = g := ⟨_, rfl⟩
            rw [hg7] at R7 l6 ⊢
            have HK1 := Lib.hid K1'
            have HK2 := Lib.hid K2'
            have HB7 := Lib.hid hBw7
            clear hW7 hB67 K1 K2 K1' K2' hb6 hBw6 R6 k0 k1 k2 e2 lgn hg7 hBw7 HRR2
            have q0 := R7.cell 0 rfl
            have q1 := R7.cell 1 rfl
            have q2 := R7.cell 2 rfl
            have q3 := R7.cell 3 rfl
            refine AnyJ.beginP (fun w' : World => w'.cell? ⟨g7, 0, none⟩ = some (.int .i64 q) ∧ w'.cell? ⟨g7, 1, none⟩ = some (.int .i64 (x.sold - x.rooms)) ∧ w'.cell? ⟨g7, 2, none⟩ = some (.slice a1 0 d1) ∧ w'.cell? ⟨g7, 3, none⟩ = some (.slice a2 0 d2)) (fun _ => true) (by kernel_rfl) ⟨q0, q1, q2, q3⟩ (fun hS => ?_)
            refine AnyJ.takeD (i := 0) (d := some 105) (v := ?_) rfl (by kernel_rfl) (by kernel_rfl) (by kernel_rfl) (by kernel_rfl) (by kernel_rfl) (fun _ _ _ h => h) (Or.inl ⟨by kernel_rfl, ?_⟩) hS ?_
            rotate_left
            · intro w' hS
              obtain ⟨sF0, sF1, sF2, sF3⟩ := hS
              go_simp
              try with_reducible rfl
            refine AnyJ.takeD (i := 1) (d := some 8) (v := ?_) rfl (by kernel_rfl) (by kernel_rfl) (by kernel_rfl) (by kernel_rfl) (by kernel_rfl) (fun _ _ _ h => h) (Or.inl ⟨by kernel_rfl, ?_⟩) hS ?_
            rotate_left
            · intro w' hS
              clear hS
              go_simp
              try with_reducible rfl
            have d0 := Rr.cell 0 rfl
            have d1' := Rr.cell 1 rfl
            have d2' := Rr.cell 2 rfl
            have d3 := Rr.cell 3 rfl
            have e0 := Rr.frozen 0
            have e1 := Rr.frozen 1
            have e2 := Rr.frozen 2
            have e3 := Rr.frozen 3
            have dl := Rr.lt
            refine AnyJ.one (i := 2) (by kernel_rfl) rfl (fun Kz hKz => ?_)
            go_simp
            obtain ⟨w8, hW8⟩ : ∃ W, ((((w7.setCell ⟨w.heap.size, 0, none⟩ (.int .i64 q)).setCell ⟨w.heap.size, 1, none⟩ (.int .i64 (x.sold - x.rooms))).setCell ⟨w.heap.size, 2, none⟩ (.slice a1 0 d1)).setCell ⟨w.heap.size, 3, none⟩ (.slice a2 0 d2)).drew = W := ⟨_, rfl⟩
            rw [hW8]
            have RZ : Row w8 w.heap.size [.int .i64 q, .int .i64 (x.sold - x.rooms), .slice a1 0 d1, .slice a2 0 d2] := by rw [← hW8]; exact (Row.set4' ⟨_, _, _, _, Rr⟩ _ _ _ _).drew
            have R8 : Row w8 g7 [.int .i64 q, .int .i64 (x.sold - x.rooms), .slice a1 0 d1, .slice a2 0 d2] := by
              rw [← hW8]
              exact ((((R7.other (by simp; omega) _).other (by simp; omega) _).other (by simp; omega) _).other (by simp; omega) _).drew
            have hB8 : Below w.heap.size w w8 := by
              rw [← hW8]
              exact (Below.setCell (Below.setCell (Below.setCell (Below.setCell HB7.out (Nat.le_refl _) _) (Nat.le_refl _) _) (Nat.le_refl _) _) (Nat.le_refl _) _).drew
            have z0 := RZ.cell 0 rfl
            have z1 := RZ.cell 1 rfl
            have z2 := RZ.cell 2 rfl
            have z3 := RZ.cell 3 rfl
            have zl := RZ.lt
            have hS8 : w8.cell? ⟨g7, 0, none⟩ = some (.int .i64 q) ∧ w8.cell? ⟨g7, 1, none⟩ = some (.int .i64 (x.sold - x.rooms)) ∧ w8.cell? ⟨g7, 2, none⟩ = some (.slice a1 0 d1) ∧ w8.cell? ⟨g7, 3, none⟩ = some (.slice a2 0 d2) := ⟨R8.cell 0 rfl, R8.cell 1 rfl, R8.cell 2 rfl, R8.cell 3 rfl⟩
            have HK3 : Hid (SlC w8 a1 0 d1 []) := SlC.empty HK1.out
            have HK4 : Hid (SlC w8 a2 0 d2 []) := SlC.empty HK2.out
            refine hKz _ _ (fun _ => hS8) ?_
            clear hKz Kz hW8 hS d0 d1' d2' d3 e0 e1 e2 e3 dl Rr R7 HB7 HK1 HK2 q0 q1 q2 q3
            refine AnyJ.takeD (i := 3) (d := some 10) (v := ?_) rfl (by kernel_rfl) (by kernel_rfl) (by kernel_rfl) (by kernel_rfl) (by kernel_rfl) (fun _ _ _ h => h) (Or.inl ⟨by kernel_rfl, ?_⟩) hS8 ?_
            rotate_left
            · intro w' hS
              clear hS
              go_simp
              try with_reducible rfl
            refine AnyJ.takeD (i := 4) (d := some 11) (v := ?_) rfl (by kernel_rfl) (by kernel_rfl) (by kernel_rfl) (by kernel_rfl) (by kernel_rfl) (fun _ _ _ h => h) (Or.inl ⟨by kernel_rfl, ?_⟩) hS8 ?_
            rotate_left
            · intro w' hS
              clear hS
              go_simp
              try with_reducible rfl
            clear hS8
            refine AnyJ.done (by kernel_rfl) ?_ _
            try simp only [Act.put, List.setIfInBounds_toArray, List.set_cons_zero, List.set_cons_succ]
            go_wp2_with fail
            try rw [Exit.noGoto_ret]
            refine bodyPost_ret (v := .tuple #[.slice none 0 0, .agg #[.int .i64 q, .int .i64 (x.sold - x.rooms), .slice a1 0 d1, .slice a2 0 d2], .bool false, .int .i64 0]) (by simp [results, Try.results19, go_sem, z0, z1, z2, z3, zl]) rfl ⟨Or.inr ⟨q, x, a1, d1, a2, d2, rfl, HK3.out, HK4.out, HX.out, hbr2, hP.out⟩, hB8⟩
          · have hbr2 : x.sold ≤ x.rooms + most := by omega
            have hBw5 : Below w.heap.size w w5 := HBw2.out.trans (HB5.out.mono HBw2.out.size)
            obtain ⟨y, b1, off1, hy, rfl, hb1, KY, cy⟩ := (HT.out.below hBw5).get hlt
            have HY := Lib.hid hy
            have hsb := HSH.out _ _ hy
            have hyn : y.n ≤ 30 := by have := (sharesB_in hsb).1; have := KY.1; omega
            have HSB := Lib.hid hsb
            have HKY := Lib.hid KY
            clear hy hsb KY hBw5
            go_wp2_with fail
            refine (divide_any y.zs c (x.rooms + most - x.sold) y.at' y.n y.cap _ HKY.out HSB.out hc30 hyn (by omega) (by omega)).mono ?_
            rintro e w6 ⟨v, rfl, HO6, hb6⟩
            obtain ⟨D, hD⟩ : ∃ D, divA y.zs c (x.rooms + most - x.sold) = D := ⟨_, rfl⟩
            have hDl : D.length = y.n := by rw [← hD, divA, divP_length]; exact HKY.out.1
            rw [hD] at HO6
            obtain ⟨ad6, cp6, rfl, HO6'⟩ := HO6.form y.n hDl
            have hk6 : w6.heap[gn]? = w5.heap[gn]? := hb6.block gn lgn
            have hT6 : ∃ cur, w6.heap[gn]? = some (.cells cur 24 (0, 0)) := by rw [hk6]; exact HT5.out
            have hR6 := HR5.out.of_block hk6
            have hI6 := HI5.out.step hb6
            have hB6 : Below w2.heap.size w2 w6 := HB5.out.trans (hb6.mono HB5.out.size)
            have hV6 : OwnV w6 w2.heap.size (.slice ad6 y.n cp6) D := HO6'.low HB5.out.size
            have hI7 := hI6.put (i := 2) (v := .slice ad6 y.n cp6) hT6 HN0.out HN5.out
            have hR7 : Row (w6.setCell ⟨gn, 2, none⟩ (.slice ad6 y.n cp6)) gn [.int .i64 x.rooms, .int .i64 x.sold, .slice ad6 y.n cp6] := hR6.putAt 2 _ rfl
            have hV7 : OwnV (w6.setCell ⟨gn, 2, none⟩ (.slice ad6 y.n cp6)) w2.heap.size (.slice ad6 y.n cp6) D := hV6.keepN hT6 (fun g _ hg => Below.heap_setCell _ _ _ _ hg)
            have hB7 : Below w2.heap.size w2 (w6.setCell ⟨gn, 2, none⟩ (.slice ad6 y.n cp6)) := Below.setCell hB6 hsz _
            have k60 := hR6.cell 0 rfl
            have k61 := hR6.cell 1 rfl
            have k62 := hR6.cell 2 rfl
            have e6 := hR6.frozen 2
            have l6 := hR6.lt
            have HD := Lib.hid hD
            have HDL := Lib.hid hDl
            clear HO6 HO6' hk6 hT6 hR6 hI6 hB6 hV6 k0 k1 k2 e2 lgn hb6 hD hDl HKY HSB cy hb1
            go_upto_region 18 with fail
            generalize w6.setCell ⟨gn, 2, none⟩ (.slice ad6 y.n cp6) = w7 at hI7 hR7 hV7 hB7 ⊢
            clear k60 k61 k62 e6 l6
            obtain ⟨Lo, o1, o2, o3⟩ := hI7.out
            have HLo : Hid (Lo.length ≤ 366) := by
              show _ ≤ _
              have h1 := congrArg List.length o2
              simp at h1
              omega
            have k70 := hR7.cell 0 rfl
            have k71 := hR7.cell 1 rfl
            have k72 := hR7.cell 2 rfl
            have HI7 := Lib.hid hI7
            have HV7 := Lib.hid hV7
            have HB7 := Lib.hid hB7
            have HO1 := Lib.hid o1
            have HO2 := Lib.hid o2
            have HO3 := Lib.hid o3
            clear hI7 hR7 hV7 hB7 o1 o2 o3
            go_upto_region 20 with (at_builtin; refine wpList_append_night rfl _ _ _ rfl Try.underlying25 w2.heap.size _ Lo rfl (HO1.out.alloc _) w7.heap.size 1 ⟨x.rooms, x.sold, ad6, y.n, cp6, D⟩ rfl (Row.new' w7 [_, _, _] _ rfl) (by have := HLo.out; omega) (by have := HB7.out.size; simp; omega) ?_; intro v' w8 hown1 hgr1 hat1 hbl1)
            have hB8 : Below w2.heap.size w2 w8 := hbl1 w2 (Below.alloc HB7.out (by simpa using HB7.out.size) _)
            have hal := (show Below w7.heap.size w7 (w7.alloc (.cells #[.int .i64 x.rooms, .int .i64 x.sold, .slice ad6 y.n cp6] 24)) by (repeat' (first | (with_reducible exact Below.refl _ _) | (with_reducible assumption) | (with_reducible exact Bw.out (by with_reducible assumption)) | (with_reducible refine bw_alloc ?_ _) | (with_reducible refine bw_step ?_ (by with_reducible assumption)) | (with_reducible refine Below.alloc ?_ ?_ _) | (with_reducible refine Below.drew ?_) | (with_reducible refine below_drewN ?_ _) | (with_reducible refine Below.setCell ?_ ?_ _) | (with_reducible refine below_step ?_ (by with_reducible assumption) ?_) | (with_reducible exact Nat.le_refl _) | omega | (simp; omega) | (simp; done))))
            have hTq : T[q]? = some (triN ⟨x.rooms, x.sold, ad6, y.n, cp6, D⟩) := by rw [← HTT.out, plT_at HX.out HY.out, HD.out]; rfl
            have hI8 : InvA w2.heap.size l T w8 (q + 1) (q + 1) v' (.slice ab1 (q + 1) cb1) := InvA.addO (HI7.out.step hal) (HO1.out.step hal) HO2.out (fun z hz => ⟨(HO3.out z hz).1.step hal, (HO3.out z hz).2⟩) hTq ⟨HV7.out.step hal, HDL.out⟩ hown1 hgr1 hat1
            have hLl : (Lo ++ [(⟨x.rooms, x.sold, ad6, y.n, cp6, D⟩ : NightV)]).length = q + 1 := by
              have h1 := congrArg List.length HO2.out
              have h2 : T.length = k := by rw [← HTT.out, plT_length c most l ls (by omega)]; exact hl
              simp at h1 ⊢
              omega
            obtain ⟨ao8, co8, rfl, _⟩ := hown1.shape (q + 1) hLl
            have HI8 := Lib.hid hI8
            have HB8 := Lib.hid hB8
            have HP8 : Hid (∀ (j : Nat) z, j < q + 1 → l[j]? = some z → z.sold ≤ z.rooms + most) := fun j z hj hz => by
              rcases Nat.lt_or_ge j q with h | h
              · exact hP.out j z h hz
              · obtain rfl : j = q := by omega
                have := HX.out
                rw [hz] at this
                cases this
                exact hbr2
            clear hown1 hgr1 hat1 hbl1 hB8 hal hTq hI8 hLl HI7 HO1 HO2 HO3 HV7 k70 k71 k72 HB7
            go_wp2_with fail
            go_roundw
            case rel => exact ⟨q + 1, ao8, ab1, co8, cb1, by omega, rfl, rfl, by go_num, HI8.out, HP8.out, HB8.out⟩
            case measure => simp [intOf]; omega
        · obtain rfl : q = k := by omega
          have hnq : ((q : Nat) : Int) = (q : Int) := rfl
          have Rr := HRR2.out.below hB.out hlr2
          have lr := Rr.lt
          obtain ⟨Lo, o1, o2, o3⟩ := hI.out.out
          have hTl : T.length = q := by rw [← HTT.out, plT_length c most l ls (by omega)]; exact hl
          rw [List.take_of_length_le (by omega)] at o2
          obtain ⟨WZ, hWZ⟩ : ∃ W, (((wr.setCell ⟨w.heap.size, 0, none⟩ (.int .i64 0)).setCell ⟨w.heap.size, 1, none⟩ (.int .i64 0)).setCell ⟨w.heap.size, 2, none⟩ (.slice none 0 0)).setCell ⟨w.heap.size, 3, none⟩ (.slice none 0 0) = W := ⟨_, rfl⟩
          have hBz : Below w.heap.size w WZ := by rw [← hWZ]; exact Below.setCell (Below.setCell (Below.setCell (Below.setCell hBw.out (Nat.le_refl _) _) (Nat.le_refl _) _) (Nat.le_refl _) _) (Nat.le_refl _) _
          have hbk : ∀ g, w2.heap.size ≤ g → WZ.heap[g]? = wr.heap[g]? := fun g hg => by
            rw [← hWZ]
            rw [Below.heap_setCell _ _ _ _ (by simp; omega), Below.heap_setCell _ _ _ _ (by simp; omega), Below.heap_setCell _ _ _ _ (by simp; omega), Below.heap_setCell _ _ _ _ (by simp; omega)]
          have o1z : OwnN WZ w2.heap.size (.slice ao q co) Lo := o1.of_block (fun g hg => hbk g (o1.lt g hg).1)
          have o3z : ∀ x ∈ Lo, x.In WZ ∧ x.n ≤ x.cap ∧ x.cap ≤ maxLen := fun x hx => by
            have h1 : OwnV WZ w2.heap.size (.slice x.at' x.n x.cap) x.zs := (o3 x hx).1.of_block (fun g hg => hbk g (World.ownsRow.lt (o3 x hx).1 g hg).1)
            obtain ⟨h2, h3, h4, h5⟩ := h1.sl.parts
            exact ⟨⟨by unfold maxLen at h5; omega, h3⟩, h4, h5⟩
          have hsl := o1z.sl (fun x hx => (o3z x hx).1)
          have hcp : ∀ x ∈ Lo, x.n ≤ x.cap ∧ x.cap ≤ maxLen := fun x hx => (o3z x hx).2
          have HSL := Lib.hid hsl
          have HCP := Lib.hid hcp
          have HO2 := Lib.hid o2
          clear o1 o2 o3 hsl hcp hI hTl o1z o3z hbk
          have hBr : Below w.heap.size w wr := hBw.out
          have d0 := Rr.cell 0 rfl
          have d1 := Rr.cell 1 rfl
          have d2 := Rr.cell 2 rfl
          have d3 := Rr.cell 3 rfl
          have e0 := Rr.frozen 0
          have e1 := Rr.frozen 1
          have e2 := Rr.frozen 2
          have e3 := Rr.frozen 3
          have dl := Rr.lt
          have RZ := Row.set4' ⟨_, _, _, _, Rr⟩ (.int .i64 0) (.int .i64 0) (.slice none 0 0) (.slice none 0 0)
          have z0 := RZ.cell 0 rfl
          have z1 := RZ.cell 1 rfl
          have z2 := RZ.cell 2 rfl
          have z3 := RZ.cell 3 rfl
          have zl := RZ.lt
          go_wp2_with fail
          try rw [Exit.noGoto_ret]
          rw [hWZ] at z0 z1 z2 z3 zl
          refine bodyPost_ret (v := .tuple #[.slice ao q co, .agg #[.int .i64 0, .int .i64 0, .slice none 0 0, .slice none 0 0], .bool true, .int .i64 0]) (by simp [results, Try.results19, go_sem, z0, z1, z2, z3, zl]) rfl ⟨Or.inl ⟨ao, co, Lo, rfl, HSL.out.1, HCP.out, HSL.out.2.1, HSL.out.2.2, by rw [HO2.out, HTT.out], fun j z hz => hP.out j z (by have := (List.getElem?_eq_some_iff.1 hz).1; omega) hz⟩, hBz⟩

end

section
set_option linter.unusedSimpArgs false
set_option linter.unusedVariables false
open Go.RowKit

/-- Are the nights the same? -/
def sameNsB (l m : List NightV) : Bool := decide (l.map triN = m.map triN)
theorem triN_same (x y : NightV) : sameB x.rooms x.sold x.zs y.rooms y.sold y.zs = decide (triN x = triN y) := by
  unfold sameB triN
  by_cases h1 : x.rooms = y.rooms <;> by_cases h2 : x.sold = y.sold <;> by_cases h3 : x.zs = y.zs <;> simp [h1, h2, h3]

set_option maxRecDepth 100000 in
set_option maxHeartbeats 3200000 in
theorem R_SameNights_any (a b : Option Addr) (n m cap cap2 : Nat) (l l2 : List NightV) (w : World) (hn : n ≤ 9223372036854775807) (hmm : m ≤ 9223372036854775807) (hs : SlN w a n l) (hc : ∀ x ∈ l, x.n ≤ x.cap ∧ x.cap ≤ maxLen) (ht : SlN w b m l2) (hc2 : ∀ x ∈ l2, x.n ≤ x.cap ∧ x.cap ≤ maxLen) (B : Bool) (hB : sameNsB l l2 = B) :
    Calls Try.prog 21 #[.slice a n cap, .slice b m cap2] w fun e w' => e = .returned (.bool B) ∧ Below w.heap.size w w' := by
  have HL := Lib.hid hs.1
  have HL2 := Lib.hid ht.1
  have HS := Lib.hid hs
  have HT := Lib.hid ht
  have HC := Lib.hid hc
  have HC2 := Lib.hid hc2
  clear hs ht hc hc2
  by_cases hnm : m = n
  · subst hnm
    have HB := Lib.hid hB
    clear hB
    go_enter Try.func21, Try.ntmps21
    go_wp2_with fail
    go_loopw [5] (fun i wr => ∃ k : Nat, k ≤ m ∧ i = .int .i64 k ∧ Hid ((l.take k).map triN = (l2.take k).map triN) ∧ Bw w.heap.size w wr) (fun i _ => m - (intOf i).toNat)
    case atStart => exact ⟨0, Nat.zero_le _, rfl, by show _ = _; simp, Below.refl _ _⟩
    case round =>
      obtain ⟨k, hk, rfl, hP, hBw⟩ := hrel
      have hB' := hBw.out
      by_cases hlt : k < m
      · obtain ⟨x, b0, off, hx, rfl, hb, KX, hxn, e0, e1, e2⟩ := HS.out.night HC.out hlt
        obtain ⟨y, b1, off1, hy, rfl, hb1, KY, hyn, f0, f1, f2⟩ := HT.out.night HC2.out hlt
        have E0 : CellAt wr b0 (off + k * 3) (.int .i64 x.rooms) := CellAt.step e0 hB'
        have E1 : CellAt wr b0 (off + k * 3 + 1) (.int .i64 x.sold) := CellAt.step e1 hB'
        have E2 : CellAt wr b0 (off + k * 3 + 2) (.slice x.at' x.n x.cap) := CellAt.step e2 hB'
        have F0 : CellAt wr b1 (off1 + k * 3) (.int .i64 y.rooms) := CellAt.step f0 hB'
        have F1 : CellAt wr b1 (off1 + k * 3 + 1) (.int .i64 y.sold) := CellAt.step f1 hB'
        have F2 : CellAt wr b1 (off1 + k * 3 + 2) (.slice y.at' y.n y.cap) := CellAt.step f2 hB'
        have KX3 : SlC wr x.at' x.n x.cap x.zs := KX.out.step hB'
        have KY3 : SlC wr y.at' y.n y.cap y.zs := KY.out.step hB'
        have i1 : (0 : Int) ≤ (k : Int) := by omega
        have i2 : (k : Int) < (m : Int) := by omega
        obtain ⟨p, hp⟩ : ∃ p, sameB x.rooms x.sold x.zs y.rooms y.sold y.zs = p := ⟨_, rfl⟩
        have HPP := Lib.hid hp
        have HX := Lib.hid hx.out
        have HY := Lib.hid hy.out
        clear hp hx hy KX KY e0 e1 e2 f0 f1 f2
        go_wp2_with fail
        go_region_held3 (fun w' => w'.cell? ⟨b0, off + k * 3, none⟩ = some (.int .i64 x.rooms) ∧ w'.cell? ⟨b0, off + k * 3 + 1, none⟩ = some (.int .i64 x.sold) ∧ w'.cell? ⟨b0, off + k * 3 + 2, none⟩ = some (.slice x.at' x.n x.cap) ∧ w'.cell? ⟨b1, off1 + k * 3, none⟩ = some (.int .i64 y.rooms) ∧ w'.cell? ⟨b1, off1 + k * 3 + 1, none⟩ = some (.int .i64 y.sold) ∧ w'.cell? ⟨b1, off1 + k * 3 + 2, none⟩ = some (.slice y.at' y.n y.cap) ∧ Bw w.heap.size w w')
          (((try go_split_ands); exact ⟨CellAt.out (by (repeat' (first | (with_reducible assumption) | (with_reducible refine CellAt.drew ?_) | (with_reducible refine CellAt.drewN ?_ _) | (with_reducible refine CellAt.alloc ?_ _) | (with_reducible refine CellAt.step ?_ (by with_reducible assumption))))), CellAt.out (by (repeat' (first | (with_reducible assumption) | (with_reducible refine CellAt.drew ?_) | (with_reducible refine CellAt.drewN ?_ _) | (with_reducible refine CellAt.alloc ?_ _) | (with_reducible refine CellAt.step ?_ (by with_reducible assumption))))), CellAt.out (by (repeat' (first | (with_reducible assumption) | (with_reducible refine CellAt.drew ?_) | (with_reducible refine CellAt.drewN ?_ _) | (with_reducible refine CellAt.alloc ?_ _) | (with_reducible refine CellAt.step ?_ (by with_reducible assumption))))), CellAt.out (by (repeat' (first | (with_reducible assumption) | (with_reducible refine CellAt.drew ?_) | (with_reducible refine CellAt.drewN ?_ _) | (with_reducible refine CellAt.alloc ?_ _) | (with_reducible refine CellAt.step ?_ (by with_reducible assumption))))), CellAt.out (by (repeat' (first | (with_reducible assumption) | (with_reducible refine CellAt.drew ?_) | (with_reducible refine CellAt.drewN ?_ _) | (with_reducible refine CellAt.alloc ?_ _) | (with_reducible refine CellAt.step ?_ (by with_reducible assumption))))), CellAt.out (by (repeat' (first | (with_reducible assumption) | (with_reducible refine CellAt.drew ?_) | (with_reducible refine CellAt.drewN ?_ _) | (with_reducible refine CellAt.alloc ?_ _) | (with_reducible refine CellAt.step ?_ (by with_reducible assumption))))), (by (repeat' (first | (with_reducible exact Below.refl _ _) | (with_reducible assumption) | (with_reducible exact Bw.out (by with_reducible assumption)) | (with_reducible refine bw_alloc ?_ _) | (with_reducible refine bw_step ?_ (by with_reducible assumption)) | (with_reducible refine Below.alloc ?_ ?_ _) | (with_reducible refine Below.drew ?_) | (with_reducible refine below_drewN ?_ _) | (with_reducible refine Below.setCell ?_ ?_ _) | (with_reducible refine below_step ?_ (by with_reducible assumption) ?_) | (with_reducible exact Nat.le_refl _) | omega | (simp; omega) | (simp; done))) : Below _ _ _)⟩))
          (first | (go_at_call 28; (with_reducible refine (R_same_c _ _ _ _ _ _ _ _ _ _ x.zs y.zs p _ (by (repeat' (first | (with_reducible assumption) | (with_reducible refine SlC.drew ?_) | (with_reducible refine SlC.drewN ?_ _) | (with_reducible refine SlC.alloc ?_ _) | (with_reducible refine SlC.step ?_ (by with_reducible assumption))))) (by (repeat' (first | (with_reducible assumption) | (with_reducible refine SlC.drew ?_) | (with_reducible refine SlC.drewN ?_ _) | (with_reducible refine SlC.alloc ?_ _) | (with_reducible refine SlC.step ?_ (by with_reducible assumption))))) HPP.out).mono ?_); rintro e wx ⟨rfl, hbx⟩; obtain ⟨hcx, hzx⟩ := bcell hbx; have hsx := hbx.size; (try simp at hsx); have hsy := bsize hbx))
        all_goals
          rename_i hH
          obtain ⟨_, _, _, _, _, _, hHB⟩ := hH
          have HB6 := hHB
          cases p with
          | true =>
            have HP2 : Hid ((l.take (k + 1)).map triN = (l2.take (k + 1)).map triN) := by
              have h1 := HPP.out
              rw [triN_same] at h1
              show _ = _
              rw [take_at HX.out, take_at HY.out, List.map_append, List.map_append, hP.out]
              simp at h1
              simp [h1]
            go_wp2_with fail
            go_roundw
            case rel => exact ⟨k + 1, by omega, by go_num, HP2.out, HB6⟩
            case measure => simp [intOf]; omega
          | false =>
            have HR : Hid (B = false) := by
              show _ = _
              rw [← HB.out]
              unfold sameNsB
              rw [decide_eq_false_iff_not]
              intro h
              have h1 := HPP.out
              rw [triN_same] at h1
              have h2 : (l.map triN)[k]? = (l2.map triN)[k]? := by rw [h]
              rw [List.getElem?_map, List.getElem?_map, HX.out, HY.out] at h2
              simp at h2 h1
              exact h1 h2
            have hr := HR.out
            subst hr
            go_wp2_with fail
            go_ret
            exact ⟨rfl, HB6.out⟩
      · obtain rfl : k = m := by omega
        have HR : Hid (B = true) := by
          show _ = _
          rw [← HB.out]
          have h1 := hP.out
          rw [List.take_of_length_le (by rw [HL.out]; omega), List.take_of_length_le (by rw [HL2.out]; omega)] at h1
          unfold sameNsB
          simpa using h1
        have hr := HR.out
        subst hr
        go_wp2_with fail
        go_ret
        exact ⟨rfl, hB'⟩
  · have hne : ¬ ((n : Int) = (m : Int)) := by omega
    obtain rfl : false = B := by
      rw [← hB]
      unfold sameNsB
      symm
      rw [decide_eq_false_iff_not]
      intro h
      have := congrArg List.length h
      simp at this
      rw [HL.out, HL2.out] at this
      omega
    go_enter Try.func21, Try.ntmps21
    go_wp2_with fail
    go_ret
    refine ⟨(by first | rfl | exact ret_bool (by first | rfl | (simp; done) | (simp; omega))), ?_⟩
    (repeat' (first | (with_reducible exact Below.refl _ _) | (with_reducible assumption) | (with_reducible exact Bw.out (by with_reducible assumption)) | (with_reducible refine bw_alloc ?_ _) | (with_reducible refine bw_step ?_ (by with_reducible assumption)) | (with_reducible refine Below.alloc ?_ ?_ _) | (with_reducible refine Below.drew ?_) | (with_reducible refine below_drewN ?_ _) | (with_reducible refine Below.setCell ?_ ?_ _) | (with_reducible refine below_step ?_ (by with_reducible assumption) ?_) | (with_reducible exact Nat.le_refl _) | omega | (simp; omega) | (simp; done)))

end

end Go.Proofs.Ytijbhdpaikajkaa
