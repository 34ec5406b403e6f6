/-
 Maps with int keys in the kit's words; the keys of a map, sorted: maps.Keys, slices.Sorted.
-/
import Derived.Test.YtlmajlfhjbhdpaaGreatYF
import Derived.Shelf.SlIterI.Sorted
import Derived.Shelf.SlIterI.Keys
import Derived.Shelf.SlIterI.Collect
namespace Go.Proofs.YtlmajlfhjbhdpaaGreat
set_option linter.unusedSimpArgs false
set_option linter.unusedVariables false
open Go.RowKit Go.Shelf Go.Maps Go.MapKept
open Go.WideElems (Fit rd rg pl rd_mk rg_of)
theorem key_wf {k : Int} (h : -9223372036854775808 ≤ k ∧ k ≤ 9223372036854775807) : (Lit.int .i64 k).wf = true := by
 obtain ⟨h1, h2⟩ := h
 simp [Lit.wf, IntKind.min, IntKind.max, IntKind.signed, IntKind.bits, h1, h2]
/-- A map in the kit's words; its keys. -/
theorem IMap.owns {w : World} {r : Nat} {f : List (Int × Value)} (h : IMap w r f) (R : Value → Option (DataW Unit × List MemPlace)) (hk : ∀ x ∈ f, -9223372036854775808 ≤ x.1 ∧ x.1 ≤ 9223372036854775807) (hR : ∀ x ∈ f, ∃ z, R x.2 = some z) (hn : f.length ≤ maxLen) :
  ∃ D : DataW Unit, w.ownsMap Tryz.prog 3 R r f.length D ∧ (intKeys D).Perm (f.map Prod.fst) ∧ Maps.size D = f.length ∧ ∀ x : Int, Maps.has D (.int .i64 x) = true ↔ x ∈ f.map Prod.fst := by
 obtain ⟨es, c, hb, hp, hst⟩ := h
 have hlen := pairs_len hp
 have hmem : ∀ x ∈ es.toList, ∃ y ∈ f, x.key = .int .i64 y.1 ∧ x.val = y.2 := fun x hx => by
  have : (x.key, x.val) ∈ es.toList.map (fun e => (e.key, e.val)) := List.mem_map.2 ⟨x, hx, rfl⟩
  rw [hp] at this
  obtain ⟨y, hy, e⟩ := List.mem_map.1 this
  simp only [Prod.mk.injEq] at e
  exact ⟨y, hy, e.1.symm, e.2.symm⟩
 have hrd : ∀ x ∈ es.toList, ∀ y : Int × Value, y ∈ f → x.key = .int .i64 y.1 → x.val = y.2 → ∃ z, R y.2 = some z ∧ rd Tryz.prog 3 R x = some (.int .i64 y.1, z.1) := fun x _ y hy e1 e2 => by
  obtain ⟨z, hz⟩ := hR y hy
  refine ⟨z, hz, ?_⟩
  have := rd_mk (born := x.born) (keyOf_int_mk Tryz.underlying3 (key_wf (hk y hy))) hz
  rw [← e1, ← e2] at this
  exact this
 have hF : Fit Tryz.prog 3 R es c := ⟨by rw [Array.size_eq_length_toList, hlen]; exact hn, hst, fun x hx => by
  obtain ⟨y, hy, e1, e2⟩ := hmem x hx
  obtain ⟨z, _, h⟩ := hrd x hx y hy e1 e2
  exact ⟨_, h⟩⟩
 refine ⟨_, ⟨es, c, hb, hF, by rw [Array.size_eq_length_toList, hlen]; exact Nat.le_refl _, rfl⟩, ?_, ?_, fun x => ?_⟩
 ·
  show (((es.toList.map (rg Tryz.prog 3 R)).foldr DataW.insert []).map fun p => Go.intOf p.1).Perm _
  refine ((Go.WideShapes.sorted_perm _).map _).trans ?_
  rw [List.map_map]
  have e : es.toList.map ((fun p : Lit × DataW Unit => Go.intOf p.1) ∘ rg Tryz.prog 3 R) = f.map Prod.fst := by
   have hg : es.toList.map ((fun p : Lit × DataW Unit => Go.intOf p.1) ∘ rg Tryz.prog 3 R) = es.toList.map (fun x => match x.key with | .int .i64 k => k | _ => 0) := by
    refine List.map_congr_left fun x hx => ?_
    obtain ⟨y, hy, e1, e2⟩ := hmem x hx
    obtain ⟨z, _, h⟩ := hrd x hx y hy e1 e2
    simp only [Function.comp, rg_of h, e1]
    rfl
   rw [hg]
   have := congrArg (List.map (fun p : Value × Value => match p.1 with | .int .i64 k => k | _ => 0)) hp
   rw [List.map_map, List.map_map] at this
   exact this.trans (List.map_congr_left fun x _ => rfl)
  rw [e]
 ·
  show ((es.toList.map (rg Tryz.prog 3 R)).foldr DataW.insert []).length = _
  rw [(Go.WideShapes.sorted_perm _).length_eq, List.length_map, hlen]
 ·
  show ((es.toList.map (rg Tryz.prog 3 R)).foldr DataW.insert []).any (fun p => p.1.sameKey (.int .i64 x)) = true ↔ _
  rw [List.any_eq_true]
  constructor
  ·
   rintro ⟨p, hp', hs⟩
   obtain ⟨e, he, rfl⟩ := List.mem_map.1 ((Go.WideShapes.sorted_perm _).mem_iff.1 hp')
   obtain ⟨y, hy, e1, e2⟩ := hmem e he
   obtain ⟨z, _, h⟩ := hrd e he y hy e1 e2
   rw [rg_of h] at hs
   exact List.mem_map.2 ⟨y, hy, by simpa [Lit.sameKey] using hs⟩
  ·
   intro hx
   obtain ⟨y, hy, rfl⟩ := List.mem_map.1 hx
   have : (Value.int .i64 y.1, y.2) ∈ f.map (fun x => (Value.int .i64 x.1, x.2)) := List.mem_map.2 ⟨y, hy, rfl⟩
   rw [← hp] at this
   obtain ⟨e, he, e'⟩ := List.mem_map.1 this
   simp only [Prod.mk.injEq] at e'
   obtain ⟨z, _, h⟩ := hrd e he y hy e'.1 e'.2
   exact ⟨_, (Go.WideShapes.sorted_perm _).mem_iff.2 (List.mem_map.2 ⟨e, he, rfl⟩), by rw [rg_of h]; simp [Lit.sameKey]⟩
theorem keysI_any (rb : Nat) (w : World) : Calls Tryz.prog 126 #[.map (some rb)] w fun e w' => e = .returned (.func (.func 142) #[] #[.pointer (some ⟨w.heap.size, 0, none⟩)]) ∧ Row w' w.heap.size [.map (some rb)] ∧ Below w.heap.size w w' := by
 have h := callsIn_wide.1 (AnyZI.keys_in lay_keysI Fence.wide 3 trivial rfl (some rb) w)
 change Calls Tryz.prog 126 _ _ _ at h
 refine h.mono ?_
 rintro e w' ⟨rfl, rfl⟩
 exact ⟨rfl, Row.new' _ _ _ rfl, (Below.refl _ _).alloc (Nat.le_refl _) _⟩
/-- The numbers of a set, sorted. -/
theorem sortedKeys_any (rb B : Nat) (R : List Nat) (w : World) (hm : IMap w rb (bl R)) (hr : Row w B [.map (some rb)]) (hR : ∀ j ∈ R, j ≤ 1000000) (hl : R.length ≤ 1000000) :
  Calls Tryz.prog 125 #[.func (.func 142) #[] #[.pointer (some ⟨B, 0, none⟩)]] w fun e w' => ∃ (ad : Option Addr) (cp : Nat) (ls : List Int), e = .returned (.slice ad R.length cp) ∧ OwnG intE 3 w' w.heap.size (.slice ad R.length cp) ls ∧ ls.Perm (R.map fun j : Nat => (j : Int)) ∧ Below w.heap.size w w' := by
 have hlb : (bl R).length = R.length := by simp [bl]
 obtain ⟨D, hD, hp, hsz, _⟩ := hm.owns (plainElem Tryz.prog 4) (fun x hx => by
  obtain ⟨j, hj, rfl⟩ := List.mem_map.1 hx
  have := hR j hj
  simp only
  omega) (fun x hx => by
  obtain ⟨j, hj, rfl⟩ := List.mem_map.1 hx
  exact ⟨_, plainElem_bool Tryz.underlying4 true⟩) (by rw [hlb]; unfold maxLen; omega)
 have hfst : (bl R).map Prod.fst = R.map fun j : Nat => (j : Int) := by simp [bl]
 rw [hfst] at hp
 rw [hlb] at hsz hD
 have hg : SeqGives Fence.wide (6 - 1 - 1 - 1) Tryz.prog 142 #[.pointer (some ⟨B, 0, none⟩)] encZ (fun ss => ss.Perm (intKeys D)) (Maps.size D) w := AnyZI.keys_gives { lay_keysI with } Fence.wide 3 trivial rfl (by omega) B rb _ D w hr.lt (hr.cell 0 rfl) hD
 have hs : AnyZI.SortsIn Tryz.prog lay_sortedI_ren Fence.wide (6 - 1) := ⟨fun blk off cap ss W h1 h2 h3 => callsIn_wide.2 (AnyM.slices_Sort_int lay_sortI blk off cap ss W h1 h2 h3), fun p cap W => callsIn_wide.2 (AnyM.slices_Sort_int_none lay_sortI p cap W)⟩
 have h := callsIn_wide.1 (AnyZI.sorted_in lay_sortedI Fence.wide 6 trivial trivial trivial trivial rfl (by omega) hs (enters_of Tryz.func81 (by kernel_rfl) rfl) 142 #[.pointer (some ⟨B, 0, none⟩)] trivial (enters_of Tryz.func142 (by kernel_rfl) rfl) _ (Maps.size D) (by rw [hsz]; unfold maxLen; omega) (by rw [hsz]; omega) w hg)
 change Calls Tryz.prog 125 _ _ _ at h
 refine h.mono ?_
 rintro e w' ⟨v, ss, rfl, hss, hown, _, hb⟩
 have hpl := hss.trans hp
 have hln : ss.length = R.length := by rw [hpl.length_eq, List.length_map]
 have hso : (ss.mergeSort fun x y => decide (x ≤ y)).length = R.length := by rw [(List.mergeSort_perm _ _).length_eq, hln]
 have ho : OwnG intE 3 w' w.heap.size v (ss.mergeSort fun x y => decide (x ≤ y)) := by
  unfold OwnG
  rw [int_flat, hso]
  rw [hln] at hown
  exact hown
 obtain ⟨ad, cp, rfl, h1, _⟩ := ho.shape hso
 exact ⟨ad, cp, _, rfl, h1, (List.mergeSort_perm _ _).trans hpl, hb⟩
end Go.Proofs.YtlmajlfhjbhdpaaGreat
