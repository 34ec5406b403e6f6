/-
  Package colour's Colours.
-/
import Derived.Test.YtbafhmlmibjgpaaColC
import Derived.Test.YtbafhmlmibjgpaaHeldQ
import Derived.ArgAppend
namespace Go.Proofs.Ytbafhmlmibjgpaa
set_option linter.unusedSimpArgs false
set_option linter.unusedVariables false
open Go.RowKit Go.Shelf

attribute [local go_sem] Oper.semAt_some

/-- The first number that is not beyond another one. -/
def idxF (t : Int) : List Int → Nat → Int
  | [], _ => -1
  | e :: r, k => if e ≤ t then (k : Int) else idxF t r (k + 1)
theorem idxF_cases (t : Int) : ∀ (E : List Int) (k : Nat), (idxF t E k = -1 ∧ ∀ i, i < E.length → t < E.getD i 0) ∨ ∃ c : Nat, idxF t E k = ((k + c : Nat) : Int) ∧ c < E.length ∧ E.getD c 0 ≤ t ∧ ∀ i, i < c → t < E.getD i 0
  | [], k => Or.inl ⟨rfl, fun i hi => by simp at hi⟩
  | e :: r, k => by
    unfold idxF
    by_cases h : e ≤ t
    · rw [if_pos h]
      exact Or.inr ⟨0, by simp, by simp, by simpa using h, fun i hi => by omega⟩
    · rw [if_neg h]
      rcases idxF_cases t r (k + 1) with ⟨h1, h2⟩ | ⟨c, h1, h2, h3, h4⟩
      · refine Or.inl ⟨h1, fun i hi => ?_⟩
        cases i with
        | zero => simp; omega
        | succ i => simpa using h2 i (by simpa using hi)
      · refine Or.inr ⟨c + 1, by rw [h1]; omega, by simpa using h2, by simpa using h3, fun i hi => ?_⟩
        cases i with
        | zero => simp; omega
        | succ i => simpa using h4 i (by omega)

set_option maxRecDepth 100000 in
set_option maxHeartbeats 1600000 in
theorem colours1_any (e : Int) (i n cap : Nat) (a : Option Addr) (l : List SpV) (P Q : Nat) (w : World) (hs : SlP w a n l) (hi : i < n) (hP : w.cell? ⟨P, 0, none⟩ = some (.slice a n cap)) (hQ : w.cell? ⟨Q, 0, none⟩ = some (.int .i64 i)) :
    Calls Try.prog 24 #[.int .i64 e, .pointer (some ⟨P, 0, none⟩), .pointer (some ⟨Q, 0, none⟩)] w fun x w' => x = .returned (.bool (decide (e ≤ frP l i))) ∧ w = w' := by
  obtain ⟨f, u, b, off, hx, _, _, ha, hb, c0, c1⟩ := hs.get hi
  subst ha
  have e1 : frP l i = f := by unfold frP; rw [Int.toNat_natCast, hx.out]
  rw [e1]
  have i1 : (0 : Int) ≤ (i : Int) := by omega
  have i2 : (i : Int) < (n : Int) := by omega
  clear hx hs e1
  go_enter Try.func24, Try.ntmps24
  go_wp2_with fail
  go_ret
  exact ⟨rfl, rfl⟩

set_option maxRecDepth 100000 in
set_option maxHeartbeats 1600000 in
theorem index_colours (a1 : Option Addr) (m cap1 : Nat) (E : List Int) (i n cap : Nat) (a : Option Addr) (l : List SpV) (P Q : Nat) (w : World) (hm : m ≤ 9223372036854775807) (hE : SlI w a1 m E) (hs : SlP w a n l) (hi : i < n) (hP : w.cell? ⟨P, 0, none⟩ = some (.slice a n cap)) (hQ : w.cell? ⟨Q, 0, none⟩ = some (.int .i64 i)) :
    Calls Try.prog 23 #[.slice a1 m cap1, .func (.func 24) #[] #[.pointer (some ⟨P, 0, none⟩), .pointer (some ⟨Q, 0, none⟩)]] w
      fun e w' => e = .returned (.int .i64 (idxF (frP l i) E 0)) ∧ w = w' := by
  obtain ⟨R, hR⟩ : ∃ R, R = idxF (frP l i) E 0 := ⟨_, rfl⟩
  rw [← hR]
  have HR := Lib.hid hR
  have hl := hE.1
  have HS := Lib.hid hE
  have HP := Lib.hid hs
  have HC1 := Lib.hid hP
  have HC2 := Lib.hid hQ
  clear hR hs hE hP hQ
  go_enter Try.func23, Try.ntmps23
  go_wp2_with fail
  go_loop [8] (fun i2 => ∃ k : Nat, k ≤ m ∧ i2 = .int .i64 k ∧ Hid (R = idxF (frP l i) (E.drop k) k)) (fun i => m - (intOf i).toNat)
  case atStart => exact ⟨0, Nat.zero_le _, rfl, HR⟩
  case round =>
    obtain ⟨k, hk, rfl, hrk⟩ := hrel
    by_cases hlt : k < m
    · obtain ⟨b, off, z, rfl, hb, hck, hz, hd, _⟩ := HS.out.get hlt
      obtain ⟨p, hp⟩ : ∃ p, decide (z ≤ frP l i) = p := ⟨_, rfl⟩
      have HPP := Lib.hid hp
      clear hp
      go_wp2_with fail
      refine (colours1_any z i n cap a l P Q _ HP.out hi HC1.out HC2.out).mono ?_
      rintro e w' ⟨rfl, rfl⟩
      rw [HPP.out]
      cases p with
      | true =>
        go_wp2_with fail
        go_ret
        exact ⟨ret_int (by rw [hrk.out, hd.out]; have := HPP.out; simp at this; simp [idxF, this]), rfl⟩
      | false =>
        go_wp2_with fail
        go_round
        case rel => exact ⟨k + 1, by omega, by go_num, by show R = _; rw [hrk.out, hd.out]; have := HPP.out; simp at this; simp [idxF]; intro h; omega⟩
        case measure => simp [intOf]; omega
    · obtain rfl : k = m := by omega
      go_wp2_with fail
      go_ret
      exact ⟨ret_int (by rw [hrk.out, List.drop_of_length_le (by omega)]; rfl), rfl⟩

/-- 'append' of one int to a full slice: a new one. -/
theorem wpList_grow_int {w : World} {ops : Array Oper} {rest : List Oper} {o : Oper} {a : Act} {Q : Exit → Act → World → Prop} (hgd : o.guard = none) (s x : Operand) (t : TypeId)
    (ho : o.op = .call { callee := .builtin .append, args := #[s, x], argTypes := #[t, t] }) (ht : Try.prog.underlying t = some (.slice 3))
    (ao : Option Addr) (n : Nat) (zs : List Int) (hs : a.eval s = .slice ao n n) (hnone : ao = none → n = 0) (hsl : SlI w ao n zs) (g c : Nat) (z : Int) (hx : a.eval x = .slice (some ⟨g, 0, none⟩) 1 c) (hc : w.cell? ⟨g, 0, none⟩ = some (.int .i64 z)) (hn : n ≤ 1000000000000)
    (h : ∀ v' w', OwnV w' w.heap.size v' (zs ++ [z]) → Below w.heap.size w w' → wpList Try.prog ops Q rest (a.put o.dst v') w') : wpList Try.prog ops Q (o :: rest) a w := by
  obtain ⟨i0, hi, hz0, hz1, hz2⟩ := info_parts info_int
  refine wpList_append_grows w hgd s x t ho 3 i0 (.int .i64 0) 1 8 ht hi hz0 hz1 hz2 rfl (by decide) ao n n (zs.map (Value.int .i64)) hs (fun e => ⟨hnone e, hnone e⟩) (by simp [hsl.1]) ?_
    ⟨g, 0, none⟩ 1 c [.int .i64 z] hx rfl ?_ ?_ (by omega) (by unfold maxLen; omega) (by omega) ?_
  · intro b hb j u hu
    have hj : j < n := by
      have := (List.getElem?_eq_some_iff.1 hu).1
      simpa [hsl.1] using this
    obtain ⟨b', off, e, hcc⟩ := hsl.2 j hj
    rw [hb] at e
    cases e
    rw [show (⟨b', off, none⟩ : Addr).add j = ⟨b', off + j, none⟩ by simp [Addr.add], hcc]
    have hjz : j < zs.length := by rw [hsl.1]; exact hj
    simp [hjz] at hu
    simp [List.getD, hjz, hu]
  · intro j u hj
    cases j with
    | zero => simp at hj; subst hj; exact hc
    | succ j => simp at hj
  · intro u hu; simp at hu; subst hu; rfl
  · intro v' w' h1 h2
    refine h v' w' ?_ ((Below.refl _ w).grown h2 (Nat.le_refl _) (fun k hk => by cases hk))
    unfold OwnV
    simpa [hsl.1] using h1

/-- What lies between two rounds: where the last span of each colour ends; the colours. -/
def colS (l : List SpV) (s : List Int × List Int) (i : Int) : List Int × List Int :=
  if idxF (frP l i) s.1 0 < 0 then (s.1 ++ [unP l i], s.2.set i.toNat (s.1.length : Int)) else (s.1.set (idxF (frP l i) s.1 0).toNat (unP l i), s.2.set i.toNat (idxF (frP l i) s.1 0))
def colK (l : List SpV) (k : Nat) : List Int × List Int := ((ordL l).take k).foldl (colS l) ([], List.replicate l.length 0)
def colE (l : List SpV) : List Int := (colK l l.length).1
def colO (l : List SpV) : List Int := (colK l l.length).2
theorem colK_succ {l : List SpV} {k : Nat} (hk : k < l.length) : colK l (k + 1) = colS l (colK l k) ((ordL l).getD k 0) := by
  have h : k < (ordL l).length := by rw [ordL_length]; exact hk
  unfold colK
  rw [List.take_succ_eq_append_getElem h, List.foldl_append]
  simp [List.getD, h]
theorem colK_length (l : List SpV) : ∀ k, k ≤ l.length → (colK l k).1.length ≤ k ∧ (colK l k).2.length = l.length
  | 0, _ => by simp [colK]
  | k + 1, hk => by
    have ih := colK_length l k (by omega)
    rw [colK_succ (by omega)]
    unfold colS
    split
    · simp; omega
    · simp; omega

end Go.Proofs.Ytbafhmlmibjgpaa
