/-
 Slices of ints of the call's own: sorted, compacted; slices of stays, cloned.
-/
import Derived.Test.YtlmajlfhjbhdpaaGreatZU
import Derived.Sort.EveryDepth
import Derived.Shelf.SortM.Plain
import Derived.Shelf.SortM.SortNone
import Derived.Shelf.SlicesG.CompactI
import Derived.Shelf.SlicesE.Clone
namespace Go.Proofs.YtlmajlfhjbhdpaaGreat
set_option linter.unusedSimpArgs false
set_option linter.unusedVariables false
open Go.RowKit Go.Shelf
def intE : Enc Int := ⟨1, fun x => [.int .i64 x], fun _ => rfl, fun x u hu => by simp only [List.mem_cons, List.not_mem_nil, or_false] at hu; subst hu; rfl, by decide⟩
theorem inI : InfoG intE 3 (.int .i64 0) 8 := ⟨by kernel_rfl, by kernel_rfl⟩
theorem stI : InfoG stE 37 (.agg #[.int .i64 0, .int .i64 0, .int .i64 0, .int .i64 0, .int .i64 0, .int .i64 0, .int .i64 0, .bool false, .bool false]) 64 := ⟨by kernel_rfl, by kernel_rfl⟩
theorem int_flat : ∀ l : List Int, l.flatMap intE.c = l.map (Value.int .i64)
 | [] => rfl
 | x :: r => by rw [List.flatMap_cons, int_flat r]; rfl
theorem slI_get {w : World} {a : Option Addr} {n : Nat} {l : List Int} (h : SlG intE w a n l) {i : Nat} (hi : i < n) :
  ∃ (x : Int) (b off : Nat), Hid (l[i]? = some x) ∧ a = some ⟨b, off, none⟩ ∧ b < w.heap.size ∧ w.cell? ⟨b, off + i, none⟩ = some (.int .i64 x) := by
 obtain ⟨x, b, off, h1, h2, h3, g⟩ := h.get hi
 have := g 0 _ rfl
 rw [show off + i * intE.k + 0 = off + i by show off + i * 1 + 0 = _; omega] at this
 exact ⟨x, b, off, h1, h2, h3, this⟩
section
variable {α β : Type} {E : Enc α} [Inhabited β]
theorem own_cells {T : TypeId} {w : World} {base g n cap n' m : Nat} {l l' : List α} {os : Array Obj} (f : β → Value) (arr : Array β) (h : OwnG E T w base (.slice (some ⟨g, 0, none⟩) n cap) l) (h0 : 0 < l.length) (hn : n' ≤ n) (hl : l'.length = n') (ha : arr.size = n * E.k)
  (hc : (arr.toList.map f).take (n' * E.k) = l'.flatMap E.c) :
  OwnG E T (Go.Sort.grow (Go.Sort.putRow f (Go.Sort.ahead w m) g 0 arr) os) base (.slice (some ⟨g, 0, none⟩) n' cap) l' ∧ Ch (fun k => k = g) w (Go.Sort.grow (Go.Sort.putRow f (Go.Sort.ahead w m) g 0 arr) os) := by
 obtain ⟨h1, h2⟩ := h
 rcases h2 with h2 | ⟨g', c', cur, e, e2, e3, e4, e5, e6, e7⟩
 ·
  omega
 simp only [Value.slice.injEq, Option.some.injEq, Addr.mk.injEq] at e
 obtain ⟨⟨rfl, _⟩, rfl, rfl⟩ := e
 have hg := (Array.getElem?_eq_some_iff.1 e3).1
 have hcs : arr.size ≤ cur.size := by rw [ha, e6]; exact Nat.mul_le_mul_right _ e4
 unfold Go.Sort.putRow
 have hheap : ∀ k, k < w.heap.size → (Go.Sort.grow (Go.Sort.mapBlock (Go.Sort.ahead w m) g (Go.Sort.putCells f 0 arr)) os).heap[k]? = if g = k then some (.cells (Go.Sort.putCells f 0 arr cur) T (0, 0)) else w.heap[k]? := by
  intro k hk
  rw [Go.Sort.heap_grow_old _ _ (by simpa [Go.Sort.mapBlock] using hk)]
  simp only [Go.Sort.mapBlock, Go.Sort.heap_ahead, Array.getElem?_modify]
  by_cases hgk : g = k
  ·
   subst hgk
   simp [e3, Go.Sort.onCells]
  ·
   simp [hgk]
 have hsz : w.heap.size ≤ (Go.Sort.grow (Go.Sort.mapBlock (Go.Sort.ahead w m) g (Go.Sort.putCells f 0 arr)) os).heap.size := by simp [Go.Sort.mapBlock]
 have hlen : n' * E.k ≤ arr.size := by rw [ha]; exact Nat.mul_le_mul_right _ hn
 refine ⟨⟨E.flat_len l', Or.inr ⟨g, _, Go.Sort.putCells f 0 arr cur, by rw [hl], e2, (hheap g hg).trans (if_pos rfl), by omega, e5, ?_, ?_⟩⟩, ⟨rfl, rfl, rfl, hsz, fun k hk hn => (hheap k hk).trans (if_neg (fun e => hn e.symm))⟩⟩
 ·
  rw [← e6]; simp [Go.Sort.putCells]
 ·
  rw [← hc, hl]
  refine List.ext_getElem? fun i => ?_
  rw [List.getElem?_take, List.getElem?_take]
  by_cases hi : i < n' * E.k
  ·
   rw [if_pos hi, if_pos hi, Array.getElem?_toList]
   unfold Go.Sort.putCells
   rw [Array.getElem?_mapIdx, Array.getElem?_eq_getElem (by omega), Option.map_some, if_pos ⟨Nat.zero_le _, by omega⟩, List.getElem?_map, Array.getElem?_toList, Array.getElem?_eq_getElem (show i < arr.size by omega)]
   simp [getElem!_pos arr i (by omega)]
  ·
   rw [if_neg hi, if_neg hi]
end
theorem OwnG.holdsI {T : TypeId} {w : World} {base g n cap : Nat} {l : List Int} (h : OwnG intE T w base (.slice (some ⟨g, 0, none⟩) n cap) l) (h0 : 0 < l.length) : Go.Sort.Holds (Value.int .i64) w g 0 l.toArray := by
 obtain ⟨g', c', rest, e, _, hr, _⟩ := h.at h0
 simp only [Value.slice.injEq, Option.some.injEq, Addr.mk.injEq] at e
 obtain ⟨⟨rfl, _⟩, rfl, rfl⟩ := e
 intro j hj
 have hj' : j < l.length := by simpa using hj
 refine ⟨hr.cell (0 + j) ?_, hr.frozen _⟩
 rw [int_flat, Nat.zero_add, List.getElem?_append_left (by simpa using hj'), List.getElem?_map, List.getElem?_eq_getElem hj', getElem!_pos _ j hj]
 simp
def srtI (l : List Int) : List Int := l.mergeSort fun x y => decide (x ≤ y)
theorem srtI_perm (l : List Int) : (srtI l).Perm l := List.mergeSort_perm _ _
theorem sortI_any (base : Nat) (ad : Option Addr) (n cap : Nat) (l : List Int) (w : World) (h : OwnG intE 3 w base (.slice ad n cap) l) (hn : n < 4611686018427387904) :
  Calls Tryz.prog 81 #[.slice ad n cap] w fun e w' => e = .returned (.tuple #[]) ∧ OwnG intE 3 w' base (.slice ad n cap) (srtI l) ∧ Ch (fun k => (Value.slice ad n cap).ownBlock = some k) w w' := by
 have hsz := h.sizes
 obtain ⟨hl, _⟩ := hsz
 by_cases h0 : 0 < n
 ·
  obtain ⟨g, rfl, hgb, hgl⟩ := h.ad h0
  subst hl
  have hcon := AnyM.slices_Sort_int lay_sortI g 0 cap l w (h.holdsI h0) hgl hn
  change Calls Tryz.prog 81 _ _ _ at hcon
  refine hcon.mono ?_
  rintro e w' ⟨rfl, m, os, rfl⟩
  have hp := srtI_perm l
  have hs := own_cells (l' := srtI l) (m := m) (os := os) (Value.int .i64) (srtI l).toArray h h0 (Nat.le_refl _) hp.length_eq (by show _ = l.length * 1; simp [hp.length_eq]) (by rw [int_flat, List.take_of_length_le (by rw [List.length_map]; show (srtI l).length ≤ l.length * 1; rw [hp.length_eq]; omega)])
  exact ⟨rfl, hs.1, hs.2.mono (fun k _ hk => by subst hk; rfl)⟩
 ·
  obtain rfl : n = 0 := by omega
  have hcon := AnyM.slices_Sort_int_none lay_sortI ad cap w
  change Calls Tryz.prog 81 _ _ _ at hcon
  refine hcon.mono ?_
  rintro e w' ⟨rfl, rfl⟩
  have : l = [] := List.eq_nil_of_length_eq_zero hl
  subst this
  exact ⟨rfl, by show OwnG _ _ _ _ _ (List.mergeSort [] _); rw [List.mergeSort_nil]; exact h, Ch.refl _ _⟩
theorem compI_any (base : Nat) (ad : Option Addr) (n cap : Nat) (l : List Int) (w : World) (h : OwnG intE 3 w base (.slice ad n cap) l) :
  Calls Tryz.prog 82 #[.slice ad n cap] w fun e w' => ∃ m, e = .returned (.slice ad m cap) ∧ m ≤ n ∧ OwnG intE 3 w' base (.slice ad m cap) (Go.Lib.compact l) ∧ Ch (fun k => (Value.slice ad n cap).ownBlock = some k) w w' := by
 have hsz := h.sizes
 obtain ⟨hl, hc1, hc2⟩ := hsz
 by_cases h0 : 0 < n
 ·
  obtain ⟨g, rfl, hgb, hgl⟩ := h.ad h0
  subst hl
  have hcon := AnyG.slices_Compact_int lay_compI g 0 cap l w (h.holdsI h0) (by unfold maxLen at hc2; omega) hc1
  change Calls Tryz.prog 82 _ _ _ at hcon
  refine hcon.mono ?_
  rintro e w' ⟨rfl, m, rfl⟩
  have hle : (Go.Lib.compact l).length ≤ l.length := by
   unfold Go.Lib.compact Go.Lib.compactUpTo
   rw [List.length_map]
   refine Nat.le_trans (List.length_filter_le _ _) ?_
   simp
  have hs := own_cells (l' := Go.Lib.compact l) (m := m) (os := #[]) (Value.int .i64) (Go.Lib.compact l ++ List.replicate (l.length - (Go.Lib.compact l).length) 0).toArray h h0 hle rfl (by show _ = l.length * 1; simp; omega) (by
   rw [int_flat, show (Go.Lib.compact l).length * intE.k = ((Go.Lib.compact l).map (Value.int .i64)).length by rw [List.length_map]; exact Nat.mul_one _]
   simp [List.map_append, List.take_left])
  have hg0 : ∀ W : World, Go.Sort.grow W #[] = W := fun W => by simp [Go.Sort.grow]
  rw [hg0] at hs
  exact ⟨_, rfl, hle, hs.1, hs.2.mono (fun k _ hk => by subst hk; rfl)⟩
 ·
  obtain rfl : n = 0 := by omega
  have hcon := AnyG.slices_Compact_int_empty lay_compI ad cap w
  change Calls Tryz.prog 82 _ _ _ at hcon
  refine hcon.mono ?_
  rintro e w' ⟨rfl, rfl⟩
  have : l = [] := List.eq_nil_of_length_eq_zero hl
  subst this
  exact ⟨0, rfl, Nat.le_refl _, h, Ch.refl _ _⟩
theorem cloneT_any (a : Option Addr) (n cap : Nat) (l : List StayV) (w : World) (ha : a = none ∨ ∃ b off, a = some ⟨b, off, none⟩) (hs : SlG stE w a n l) (hn : n ≤ 1000000) :
  Calls Tryz.prog 52 #[.slice a n cap] w fun e w' => ∃ ad cp, e = .returned (.slice ad n cp) ∧ OwnG stE 37 w' w.heap.size (.slice ad n cp) l ∧ Below w.heap.size w w' := by
 rcases ha with rfl | ⟨b, off, rfl⟩
 ·
  have hl : l = [] := by
   cases l with
   | nil => rfl
   | cons y r => obtain ⟨_, _, e, _⟩ := hs.2 0 y rfl; cases e
  subst hl
  have hn0 : n = 0 := hs.1.symm
  subst hn0
  have hcon := AnyE.slices_Clone_nil lay_cloneT 0 cap w
  change Calls Tryz.prog 52 _ _ _ at hcon
  refine hcon.mono ?_
  rintro e w' ⟨rfl, rfl⟩
  exact ⟨none, 0, rfl, OwnG.nil _ _ _ _, Below.refl _ _⟩
 ·
  obtain ⟨i0, hi, hz0, hz1, hz2⟩ := info_parts stI.1
  have hcon := AnyE.slices_Clone lay_cloneT i0 _ 9 64 hi hz0 hz1 hz2 stI.2 (by decide) Tryz.sizeOf37 b off n cap (l.flatMap stE.c) w (by rw [stE.flat_len, hs.1]; rfl) (by unfold maxLen; omega) (by omega) (fun j u hj => by rw [← Addr.add_lit]; exact hs.news j u hj) (stE.one_all l)
  change Calls Tryz.prog 52 _ _ _ at hcon
  refine hcon.mono ?_
  rintro e w' ⟨v, rfl, ho, _, hb⟩
  have ho' : OwnG stE 37 w' w.heap.size v l := by unfold OwnG; rw [hs.1]; exact ho
  obtain ⟨ad, cp, rfl, h1, _⟩ := ho'.shape hs.1
  exact ⟨ad, cp, rfl, h1, hb⟩
end Go.Proofs.YtlmajlfhjbhdpaaGreat
