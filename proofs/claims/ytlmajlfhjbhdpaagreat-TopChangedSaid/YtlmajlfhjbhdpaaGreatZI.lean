/-
 Sorting a slice of the call's own: what it holds then, and what has changed.
-/
import Derived.Test.YtlmajlfhjbhdpaaGreatZA
import Derived.Test.YtlmajlfhjbhdpaaGreatZH
import Derived.Test.YtlmajlfhjbhdpaaGreatZL
import Derived.Shelf.SlSortCmp.WholeK
import Derived.Shelf.SlicesG.Cmp
namespace Go.Proofs.YtlmajlfhjbhdpaaGreat
set_option linter.unusedSimpArgs false
set_option linter.unusedVariables false
open Go.RowKit
section
variable {α : Type} [Inhabited α] {E : Enc α}
theorem flatK_list (l : List α) : Go.Sort.flatK E.c E.k l.toArray = (l.flatMap E.c).toArray := by
 have hs : (Go.Sort.flatK E.c E.k l.toArray).size = (l.flatMap E.c).toArray.size := by
  rw [Go.Sort.size_flatK, List.size_toArray, List.size_toArray, E.flat_len]
 refine Array.ext hs fun t h1 h2 => ?_
 have ht : t < l.toArray.size * E.k := by rwa [Go.Sort.size_flatK] at h1
 have hg := Go.Sort.get_flatK E.c E.k l.toArray t ht
 rw [getElem!_pos _ t h1] at hg
 rw [hg]
 have hk := E.pos
 have hi : t / E.k < l.length := (Nat.div_lt_iff_lt_mul hk).2 (by simpa using ht)
 have hx : l[t / E.k]? = some (l[t / E.k]'hi) := List.getElem?_eq_getElem hi
 have hf := E.flat l (t / E.k) _ (t % E.k) hx (Nat.mod_lt _ hk)
 have e : t / E.k * E.k + t % E.k = t := by rw [Nat.mul_comm]; exact Nat.div_add_mod t E.k
 rw [e] at hf
 have h3 : t % E.k < (E.c (l[t / E.k]'hi)).length := by rw [E.len]; exact Nat.mod_lt _ hk
 rw [List.getElem?_eq_getElem (by simpa using h2), List.getElem?_eq_getElem h3] at hf
 have h4 : l.toArray[t / E.k]! = l[t / E.k]'hi := by rw [getElem!_pos l.toArray (t / E.k) (by simpa using hi)]; simp
 rw [h4, getElem!_pos (E.c (l[t / E.k]'hi)) (t % E.k) h3]
 simpa using (Option.some.inj hf).symm
theorem OwnG.holds {T : TypeId} {w : World} {base g n cap : Nat} {l : List α} (h : OwnG E T w base (.slice (some ⟨g, 0, none⟩) n cap) l) (h0 : 0 < l.length) : Go.Sort.HoldsK E.c E.k w g 0 l.toArray := by
 obtain ⟨g', c', rest, e, _, hr, _⟩ := h.at h0
 simp only [Value.slice.injEq, Option.some.injEq, Addr.mk.injEq] at e
 obtain ⟨⟨rfl, _⟩, rfl, rfl⟩ := e
 unfold Go.Sort.HoldsK
 rw [flatK_list]
 intro j hj
 have hj' : j < (l.flatMap E.c).length := by simpa using hj
 refine ⟨hr.cell (0 + j) ?_, hr.frozen _⟩
 rw [Nat.zero_add, List.getElem?_append_left hj', List.getElem?_eq_getElem hj', getElem!_pos _ j hj]
 simp
theorem own_sorted {T : TypeId} {w : World} {base g n cap m : Nat} {l l' : List α} {os : Array Obj} (h : OwnG E T w base (.slice (some ⟨g, 0, none⟩) n cap) l) (h0 : 0 < l.length) (hl : l'.length = l.length) :
  OwnG E T (sortWorldK E.c E.k w g 0 m l'.toArray os) base (.slice (some ⟨g, 0, none⟩) n cap) l' ∧ Ch (fun k => k = g) w (sortWorldK E.c E.k w g 0 m l'.toArray os) := by
 obtain ⟨h1, h2⟩ := h
 rcases h2 with h2 | ⟨g', c', cur, e, e2, e3, e4, e5, e6, e7⟩
 ·
  omega
 simp only [Value.slice.injEq, Option.some.injEq, Addr.mk.injEq] at e
 obtain ⟨⟨rfl, _⟩, rfl, rfl⟩ := e
 have hg := (Array.getElem?_eq_some_iff.1 e3).1
 have hF : (l'.flatMap E.c).length = l.length * E.k := by rw [E.flat_len, hl]
 have hcs : (l'.flatMap E.c).length ≤ cur.size := by rw [hF, e6]; exact Nat.mul_le_mul_right _ e4
 unfold sortWorldK Go.Sort.putRowK Go.Sort.putRow
 rw [flatK_list]
 have hheap : ∀ k, k < w.heap.size → (Go.Sort.grow (Go.Sort.mapBlock (Go.Sort.ahead w m) g (Go.Sort.putCells id 0 (l'.flatMap E.c).toArray)) os).heap[k]? = if g = k then some (.cells (Go.Sort.putCells id 0 (l'.flatMap E.c).toArray cur) T (0, 0)) else w.heap[k]? := by
  intro k hk
  rw [Go.Sort.heap_grow_old _ _ (by simpa [Go.Sort.mapBlock] using hk)]
  simp only [Go.Sort.mapBlock, Go.Sort.heap_ahead, Array.getElem?_modify]
  by_cases hgk : g = k
  ·
   subst hgk
   simp [e3, Go.Sort.onCells]
  ·
   simp [hgk]
 have hsz : w.heap.size ≤ (Go.Sort.grow (Go.Sort.mapBlock (Go.Sort.ahead w m) g (Go.Sort.putCells id 0 (l'.flatMap E.c).toArray)) os).heap.size := by simp [Go.Sort.mapBlock]
 refine ⟨⟨E.flat_len l', Or.inr ⟨g, _, Go.Sort.putCells id 0 (l'.flatMap E.c).toArray cur, by rw [hl], e2, (hheap g hg).trans (if_pos rfl), by rw [hl]; exact e4, e5, ?_, ?_⟩⟩, ⟨rfl, rfl, rfl, hsz, fun k hk hn => (hheap k hk).trans (if_neg (fun e => hn e.symm))⟩⟩
 ·
  rw [← e6]; simp [Go.Sort.putCells]
 ·
  refine List.ext_getElem? fun i => ?_
  rw [List.getElem?_take]
  by_cases hi : i < l'.length * E.k
  ·
   have hi2 : i < (l'.flatMap E.c).length := by rw [E.flat_len]; exact hi
   rw [if_pos hi, Array.getElem?_toList]
   unfold Go.Sort.putCells
   rw [Array.getElem?_mapIdx, Array.getElem?_eq_getElem (by omega), Option.map_some, if_pos ⟨Nat.zero_le _, by simpa using hi2⟩, List.getElem?_eq_getElem hi2]
   simp [getElem!_pos, List.getElem?_eq_getElem hi2]
  ·
   rw [if_neg hi, List.getElem?_eq_none (by rw [E.flat_len]; omega)]
/-- A slice, sorted. -/
def srtG (cf : α → α → Int) (l : List α) : List α := (Go.Sort.pdq (ltOf cf) l.toArray 0 l.length (Lib.bitLen l.length) true true).toList
theorem srtG_perm {cf : α → α → Int} (hO : Go.Sort.SWO (ltOf cf)) (l : List α) : (srtG cf l).Perm l := by
 have h := (Go.Sort.pdq_sorts (ltOf cf) hO l.toArray 0 l.length (Lib.bitLen l.length) true true (Nat.zero_le _) (by simp) (Or.inl rfl)).1
 have h1 := h.1
 have h2 := h.2.2
 unfold srtG
 rw [Array.extract_eq_self_of_le (by rw [h1]; simp), Array.extract_eq_self_of_le (by simp)] at h2
 simpa using h2
end
/-! The ends of spans by their number. -/
def cfE (x y : Int × Int × Int) : Int := Lib.compareInt x.1 y.1
theorem lt_cmp (a b : Int) : decide (Lib.compareInt a b < 0) = decide (a < b) := by
 unfold Lib.compareInt
 by_cases h1 : a < b
 ·
  simp [h1]
 ·
  by_cases h2 : b < a <;> simp [h1, h2]
theorem swo_key {α : Type} (key : α → Int) : Go.Sort.SWO (ltOf fun x y : α => Lib.compareInt (key x) (key y)) where
 irrefl x := by unfold ltOf; rw [lt_cmp]; simp
 trans x y z h1 h2 := by unfold ltOf at *; rw [lt_cmp] at *; simp at *; omega
 ntrans x y z h1 h2 := by unfold ltOf at *; rw [lt_cmp] at *; simp at *; omega
set_option maxHeartbeats 1600000 in
theorem cmpE_grows (x y : Int × Int × Int) (W : World) : Calls Tryz.prog 131 #[.agg #[.int .i64 x.1, .int .i64 x.2.1, .int .i64 x.2.2], .agg #[.int .i64 y.1, .int .i64 y.2.1, .int .i64 y.2.2]] W fun e w' => e = .returned (.int .i64 (cfE x y)) ∧ ∃ q os', w' = Go.Sort.grow (W.drewN q) os' := by
 have hcon := fun W' => AnyG.cmp_Compare_int lay_cmpI x.1 y.1 W'
 change ∀ W', Calls Tryz.prog 68 _ _ _ at hcon
 unfold cfE
 generalize Lib.compareInt x.1 y.1 = r at hcon ⊢
 go_enter Tryz.func131, Tryz.ntmps131
 go_wp2_with (go_at_call 68; refine (hcon _).mono ?_; rintro e w' ⟨rfl, rfl⟩)
 go_ret
 exact ⟨rfl, 0, _, by rw [Go.Sort.alloc_eq_grow, Go.Sort.alloc_eq_grow, Go.Sort.grow_grow]; rfl⟩
def srtE (l : List (Int × Int × Int)) : List (Int × Int × Int) := srtG cfE l
theorem srtE_perm (l : List (Int × Int × Int)) : (srtE l).Perm l := srtG_perm (swo_key (fun x : Int × Int × Int => x.1)) l
theorem sortE_any (base g n cap : Nat) (l : List (Int × Int × Int)) (w : World) (h : OwnG trE 87 w base (.slice (some ⟨g, 0, none⟩) n cap) l) (h0 : 0 < l.length) (hn : n < 4611686018427387904) :
  Calls Tryz.prog 130 #[.slice (some ⟨g, 0, none⟩) n cap, .func (.func 131) #[] #[]] w fun e w' => e = .returned (.tuple #[]) ∧ OwnG trE 87 w' base (.slice (some ⟨g, 0, none⟩) n cap) (srtE l) ∧ Ch (fun k => k = g) w w' := by
 have hsz := h.sizes
 obtain ⟨hl, _⟩ := hsz
 subst hl
 have hg : g < w.heap.size := (h.lt (g := g) rfl).2
 have hcon := AnyQ.slices_SortFunc_eq lay_sortE 3 Tryz.isAgg87 Tryz.sizeOf87 trE.c trE.len trE.one cfE (swo_key (fun x : Int × Int × Int => x.1)) 131 #[] g 0 cap l.toArray w
  (enters_of Tryz.func131 (by kernel_rfl) rfl) (fun _ _ _ _ x y => cmpE_grows x y _) (h.holds h0) hg (by simpa using hn)
 change Calls Tryz.prog 130 _ _ _ at hcon
 refine hcon.mono ?_
 rintro e w' ⟨rfl, m, os, rfl⟩
 have hs := own_sorted (l' := srtE l) (m := m) (os := os) h h0 (srtE_perm l).length_eq
 exact ⟨rfl, hs⟩
end Go.Proofs.YtlmajlfhjbhdpaaGreat
