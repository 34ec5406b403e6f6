/-
 Maps by ID; the walk of rooms.Valid.
-/
import Derived.Test.YtlmajlfhjbhdpaaGreatZE
import Derived.Test.YtlmajlfhjbhdpaaGreatMapI
namespace Go.Proofs.YtlmajlfhjbhdpaaGreat
set_option linter.unusedSimpArgs false
set_option linter.unusedVariables false
open Go.RowKit
theorem IMap.grown {w w' : World} {r : Nat} {f : List (Int × Value)} (h : IMap w r f) {s : Option Nat} (hg : w.grownBy w' s) (hn : s ≠ some r) : IMap w' r f := h.of_block (hg.block r h.lt (fun e => hn e.symm))
/-- The map of some elements by their keys. -/
def mapOf {α : Type} (key : α → Int) (val : α → Value) (l : List α) : List (Int × Value) := l.foldl (fun f x => upd f (key x) (val x)) []
section
variable {α : Type} {key : α → Int} {val : α → Value}
theorem mapOf_snoc (l : List α) (x : α) : mapOf key val (l ++ [x]) = upd (mapOf key val l) (key x) (val x) := by unfold mapOf; rw [List.foldl_append]; rfl
theorem mapOf_take {l : List α} {k : Nat} {x : α} (h : l[k]? = some x) : mapOf key val (l.take (k + 1)) = upd (mapOf key val (l.take k)) (key x) (val x) := by
 obtain ⟨hk, e⟩ := List.getElem?_eq_some_iff.1 h
 rw [List.take_succ_eq_append_getElem hk, e, mapOf_snoc]
theorem nodup_inj {β : Type} {f : α → β} : ∀ {l : List α}, (l.map f).Nodup → ∀ {x y : α}, x ∈ l → y ∈ l → f x = f y → x = y
 | [], _, x, y, h, _, _ => by simp at h
 | z :: r, hn, x, y, hx, hy, e => by
  rw [List.map_cons, List.nodup_cons] at hn
  rcases List.mem_cons.1 hx with h1 | h1
  ·
   rcases List.mem_cons.1 hy with h2 | h2
   ·
    rw [h1, h2]
   ·
    exact (hn.1 (List.mem_map.2 ⟨y, h2, by rw [← e, h1]⟩)).elim
  ·
   rcases List.mem_cons.1 hy with h2 | h2
   ·
    exact (hn.1 (List.mem_map.2 ⟨x, h1, by rw [e, h2]⟩)).elim
   ·
    exact nodup_inj hn.2 h1 h2 e
theorem mapOf_none {k : Int} {l : List α} (h : k ∉ l.map key) : look (mapOf key val l) k = none := by
 suffices hh : ∀ (l : List α) (f : List (Int × Value)), k ∉ l.map key → look f k = none → look (l.foldl (fun f x => upd f (key x) (val x)) f) k = none from hh l [] h rfl
 intro l
 induction l with
 | nil => intro f _ h; exact h
 | cons x r ih =>
  intro f h1 h2
  simp only [List.map_cons, List.mem_cons, not_or] at h1
  rw [List.foldl_cons]
  refine ih _ h1.2 ?_
  rw [look_upd, if_neg h1.1, h2]
theorem mapOf_some {l : List α} (hn : (l.map key).Nodup) {x : α} (hx : x ∈ l) : look (mapOf key val l) (key x) = some (val x) := by
 suffices hh : ∀ (l : List α) (f : List (Int × Value)), (l.map key).Nodup → (x ∈ l ∨ (key x ∉ l.map key ∧ look f (key x) = some (val x))) → look (l.foldl (fun f x => upd f (key x) (val x)) f) (key x) = some (val x) from hh l [] hn (Or.inl hx)
 intro l
 induction l with
 | nil => intro f _ h; rcases h with h | h; simp at h; exact h.2
 | cons y r ih =>
  intro f h1 h2
  rw [List.map_cons, List.nodup_cons] at h1
  rw [List.foldl_cons]
  refine ih _ h1.2 ?_
  rcases h2 with h2 | h2
  ·
   rcases List.mem_cons.1 h2 with rfl | h2
   ·
    exact Or.inr ⟨h1.1, by rw [look_upd, if_pos rfl]⟩
   ·
    exact Or.inl h2
  ·
   simp only [List.map_cons, List.mem_cons, not_or] at h2
   exact Or.inr ⟨h2.1.2, by rw [look_upd, if_neg h2.1.1]; exact h2.2⟩
theorem upd_len {f : List (Int × Value)} {k : Int} {v : Value} (h : look f k = none) : (upd f k v).length = f.length + 1 := by
 induction f with
 | nil => rfl
 | cons x r ih =>
  unfold look at h
  by_cases hk : k = x.1
  ·
   rw [if_pos hk] at h; cases h
  ·
   rw [if_neg hk] at h
   unfold upd
   rw [if_neg hk, List.length_cons, ih h, List.length_cons]
theorem mapOf_len : ∀ {n : Nat} {l : List α}, l.length = n → (l.map key).Nodup → (mapOf key val l).length = n
 | 0, l, h, _ => by rw [List.eq_nil_of_length_eq_zero h]; rfl
 | n + 1, l, h, hn => by
  have hl : l ≠ [] := by intro e; rw [e] at h; simp at h
  have e := List.dropLast_concat_getLast hl
  have hd : l.dropLast.length = n := by rw [List.length_dropLast, h]; omega
  rw [← e, List.map_append, List.nodup_append] at hn
  rw [← e, mapOf_snoc, upd_len (mapOf_none (fun hm => hn.2.2 _ hm _ (by simp) rfl)), mapOf_len hd hn.1]
end
def RoomV.val (r : RoomV) : Value := .agg #[.int .i64 r.id, .int .i64 r.ho, .int .i64 r.kd, .int .i64 r.jn, .bool r.ac, .slice r.ba r.bl.length r.bc]
abbrev zroom : RoomV := ⟨0, 0, 0, 0, false, none, 0, []⟩
theorem zero_room (w : World) : (zeroValue 42).run Tryz.prog w = .ok (.agg #[.int .i64 0, .int .i64 0, .int .i64 0, .int .i64 0, .bool false, .slice none 0 0]) w := by kernel_rfl
/-- What is found at a key: a room, or what is no room. -/
theorem look_room {l : List RoomV} (hn : (l.map RoomV.id).Nodup) (k : Int) : (∃ o ∈ l, o.id = k ∧ look (mapOf RoomV.id RoomV.val l) k = some o.val) ∨ (k ∉ l.map RoomV.id ∧ look (mapOf RoomV.id RoomV.val l) k = none) := by
 by_cases h : k ∈ l.map RoomV.id
 ·
  obtain ⟨o, ho, rfl⟩ := List.mem_map.1 h
  exact Or.inl ⟨o, ho, rfl, mapOf_some hn ho⟩
 ·
  exact Or.inr ⟨h, mapOf_none h⟩
theorem joins_look {l : List RoomV} (hn : (l.map RoomV.id).Nodup) (r : RoomV) (hr : 1 ≤ r.id) : ∃ o : RoomV, (look (mapOf RoomV.id RoomV.val l) r.jn).getD (.agg #[.int .i64 0, .int .i64 0, .int .i64 0, .int .i64 0, .bool false, .slice none 0 0]) = o.val ∧ (r.jn ≠ 0 → joinsB l r = (decide (o.jn = r.id) && decide (o.ho = r.ho))) := by
 have hj : r.jn ≠ 0 → joinsB l r = l.any (fun o => decide (o.id = r.jn) && (decide (o.jn = r.id) && decide (o.ho = r.ho))) := fun h => by unfold joinsB; simp [h]
 rcases look_room hn r.jn with ⟨o, ho, e, h⟩ | ⟨hm, h⟩
 ·
  refine ⟨o, by rw [h]; rfl, fun h0 => ?_⟩
  rw [hj h0, Bool.eq_iff_iff, List.any_eq_true]
  constructor
  ·
   rintro ⟨x, hx, hp⟩
   simp only [Bool.and_eq_true, decide_eq_true_eq] at hp ⊢
   have : x = o := nodup_inj hn hx ho (hp.1.trans e.symm)
   subst this
   exact hp.2
  ·
   intro hp
   exact ⟨o, ho, by rw [decide_eq_true e, Bool.true_and]; exact hp⟩
 ·
  refine ⟨zroom, by rw [h]; rfl, fun h0 => ?_⟩
  rw [hj h0, show decide (zroom.jn = r.id) = false from decide_eq_false (by show ¬ (0 : Int) = r.id; omega), Bool.false_and, List.any_eq_false]
  intro x hx hp
  simp only [Bool.and_eq_true, decide_eq_true_eq] at hp
  exact hm (List.mem_map.2 ⟨x, hx, hp.1⟩)
/-- The first k rooms. -/
theorem formed_take {l : List RoomV} {k : Nat} {r : RoomV} (h : l[k]? = some r) : ((l.take (k + 1)).all formedR && decide (((l.take (k + 1)).map RoomV.id).Nodup)) = (((l.take k).all formedR && decide (((l.take k).map RoomV.id).Nodup)) && (!decide (r.id ∈ (l.take k).map RoomV.id) && formedR r)) := by
 have hs : l.take (k + 1) = l.take k ++ [r] := by
  obtain ⟨hk, e⟩ := List.getElem?_eq_some_iff.1 h
  rw [List.take_succ_eq_append_getElem hk, e]
 rw [hs, Bool.eq_iff_iff]
 simp only [Bool.and_eq_true, decide_eq_true_eq, List.all_append, List.map_append, List.map_cons, List.map_nil, List.all_cons, List.all_nil, Bool.and_true, Bool.not_eq_true', decide_eq_false_iff_not]
 rw [List.nodup_append]
 constructor
 ·
  rintro ⟨⟨h1, h2⟩, h3, _, h5⟩
  exact ⟨⟨h1, h3⟩, fun hm => h5 _ hm _ (by simp) rfl, h2⟩
 ·
  rintro ⟨⟨h1, h3⟩, h4, h2⟩
  exact ⟨⟨h1, h2⟩, h3, by simp, fun a ha b hb => by simp at hb; subst hb; exact fun e => h4 (e ▸ ha)⟩
theorem validM_no {l : List RoomV} {k : Nat} (h : ((l.take k).all formedR && decide (((l.take k).map RoomV.id).Nodup)) = false) : validM l = false := by
 rw [← Bool.not_eq_true]
 intro hv
 obtain ⟨_, h1, h2⟩ := validM_in hv
 rw [← List.take_append_drop k l] at h2
 rw [List.map_append] at h2
 rw [decide_eq_true (List.nodup_append.1 h2).1, Bool.and_true, ← Bool.not_eq_true] at h
 exact h (List.all_eq_true.2 (fun x hx => h1 x (List.mem_of_mem_take hx)))
end Go.Proofs.YtlmajlfhjbhdpaaGreat
