/-
 Texts built as one: XYJ, XYK, XYL.
-/
import Derived.Test.YtlmajlfhjbhdpaaGreatYC
import Derived.Test.YtlmajlfhjbhdpaaGreatYH
import Derived.Maps.RangeWalk
import Derived.Lib.SlMapMerge
import Derived.Lib.SlMapFilter
import Derived.Test.YtlmajlfhjbhdpaaGreatZL
import Derived.Shelf.SlMaps.Copy
import Derived.Shelf.SlMaps.DeleteFunc
import Derived.Shelf.SlMaps.Clone
namespace Go.Proofs.YtlmajlfhjbhdpaaGreat
section
set_option linter.unusedSimpArgs false
set_option linter.unusedVariables false
open Go.RowKit Go.Shelf Go.Maps Go.MapKept
open Go.WideElems (Fit rd rg pl rd_mk rg_of rd_key rd_val)
/-- Rooms and stays are in range. -/
def OB (m sn : Nat) (O : OwnO) : Prop := ∀ k j, O k = some j → k < m ∧ j < sn
theorem OB.set {m sn : Nat} {O : OwnO} (h : OB m sn O) {k i : Nat} (hk : k < m) (hi : i < sn) : OB m sn (setO O k i) := fun x j e => by
 unfold setO at e
 split at e
 ·
  next hx => cases e; exact ⟨by omega, hi⟩
 ·
  exact h x j e
theorem findL_ob {m sn : Nat} {fits : Nat → Nat → Bool} {fixed : Nat} {rec : SetB → OwnO → Nat → Bool × SetB × OwnO} (hrec : ∀ S O j, OB m sn O → j < sn → OB m sn (rec S O j).2.2) {i : Nat} (hi : i < sn) :
  ∀ (ks : List Nat) (S : SetB) (O : OwnO), (∀ k ∈ ks, k < m) → OB m sn O → OB m sn (findL fits fixed rec i ks S O).2.2
 | [], S, O, _, h => h
 | k :: r, S, O, hk, h => by
  have hk0 : k < m := hk k (by simp)
  have hr : ∀ x ∈ r, x < m := fun x hx => hk x (by simp [hx])
  unfold findL
  split
  ·
   exact findL_ob hrec hi r S O hr h
  ·
   split
   ·
    exact h.set hk0 hi
   ·
    next j hj =>
    split
    ·
     exact findL_ob hrec hi r _ O hr h
    ·
     have h1 := hrec (setB S k) O j h (h k j hj).2
     split
     ·
      next S2 O2 e => rw [e] at h1; exact OB.set h1 hk0 hi
     ·
      next S2 O2 e => rw [e] at h1; exact findL_ob hrec hi r _ O2 hr h1
theorem findF_ob {m sn : Nat} {fits : Nat → Nat → Bool} {fixed : Nat} : ∀ (d : Nat) (S : SetB) (O : OwnO) (i : Nat), OB m sn O → i < sn → OB m sn (findF fits fixed m d S O i).2.2
 | 0, _, _, _, h, _ => h
 | d + 1, S, O, i, h, hi => by
  unfold findF
  exact findL_ob (fun S O j h hj => findF_ob d S O j h hj) hi _ S O (fun k hk => List.mem_range.1 hk) h
/-- A datum of rooms and their stays. -/
def GoodD (m sn : Nat) (D : DataW Unit) : Prop := ∃ l, D = .map l ∧ ∀ p ∈ l, ∃ k j : Nat, k < m ∧ j < sn ∧ p = (.int .i64 (k : Int), .lit (.int .i64 (j : Int)))
theorem GoodD.del {m sn : Nat} {D : DataW Unit} (h : GoodD m sn D) (kl : Lit) : GoodD m sn (D.del kl) := by
 obtain ⟨l, rfl, hl⟩ := h
 refine ⟨_, rfl, fun p hp => hl p (List.mem_filter.1 hp).1⟩
theorem GoodD.put {m sn : Nat} {D : DataW Unit} (h : GoodD m sn D) {k j : Nat} (hk : k < m) (hj : j < sn) : GoodD m sn (D.put (.int .i64 (k : Int)) (.lit (.int .i64 (j : Int)))) := by
 obtain ⟨l, rfl, hl⟩ := h
 rw [DataW.put_eq]
 refine ⟨_, rfl, fun p hp => ?_⟩
 rcases Go.ChangeMaps.mem_insert_iff.1 hp with rfl | hp
 ·
  exact ⟨k, j, hk, hj, rfl⟩
 ·
  exact hl p (List.mem_filter.1 hp).1
theorem GoodD.merge {m sn : Nat} {D D2 : DataW Unit} (h : GoodD m sn D) (h2 : GoodD m sn D2) : GoodD m sn (Lib.mergeD D D2) := by
 obtain ⟨l2, rfl, hl2⟩ := h2
 show GoodD m sn (l2.foldl (fun D p => D.put p.1 p.2) D)
 induction l2 generalizing D with
 | nil => exact h
 | cons p r ih =>
  obtain ⟨k, j, hk, hj, e⟩ := hl2 p (by simp)
  refine ih ?_ (fun q hq => hl2 q (by simp [hq]))
  rw [e]
  exact h.put hk hj
theorem GoodD.nil (m sn : Nat) : GoodD m sn (.map []) := ⟨[], rfl, by simp⟩
theorem GoodD.wiped {m sn : Nat} {D : DataW Unit} (h : GoodD m sn D) : Lib.deleteFuncD (fun _ _ => true) D = .map [] := by
 obtain ⟨l, rfl, _⟩ := h
 show DataW.map _ = _
 rw [List.filter_eq_nil_iff.2 (by simp)]
theorem look_mem {f : List (Int × Value)} {k : Int} {v : Value} (h : look f k = some v) : (k, v) ∈ f := by
 induction f with
 | nil => simp [look] at h
 | cons x r ih =>
  unfold look at h
  split at h
  ·
   next e => cases h; subst e; exact List.mem_cons_self
  ·
   exact List.mem_cons_of_mem _ (ih h)
theorem look_of_mem {f : List (Int × Value)} (hn : (f.map Prod.fst).Nodup) {x : Int × Value} (hx : x ∈ f) : look f x.1 = some x.2 := by
 induction f with
 | nil => simp at hx
 | cons y r ih =>
  rw [List.map_cons, List.nodup_cons] at hn
  unfold look
  rcases List.mem_cons.1 hx with rfl | hx
  ·
   rw [if_pos rfl]
  ·
   rw [if_neg (fun e => hn.1 (by rw [← e]; exact List.mem_map.2 ⟨x, hx, rfl⟩))]
   exact ih hn.2 hx
theorem look_some {f : List (Int × Value)} {x : Int × Value} (hx : x ∈ f) : ∃ v, look f x.1 = some v := by
 induction f with
 | nil => simp at hx
 | cons y r ih =>
  unfold look
  split
  ·
   exact ⟨_, rfl⟩
  ·
   next e =>
   rcases List.mem_cons.1 hx with rfl | hx
   ·
    exact (e rfl).elim
   ·
    exact ih hx
theorem nodup_le {l : List Nat} {m : Nat} (hn : l.Nodup) (hm : ∀ x ∈ l, x < m) : l.length ≤ m := by
 have h1 : ((List.range m).filter (fun k => decide (k ∈ l))).Perm l := (List.perm_ext_iff_of_nodup (List.nodup_range.filter _) hn).2 fun k => by
  rw [List.mem_filter, List.mem_range, decide_eq_true_eq]
  exact ⟨fun hh => hh.2, fun hh => ⟨hm k hh, hh⟩⟩
 rw [← h1.length_eq]
 exact Nat.le_trans (List.length_filter_le _ _) (by simp)
/-- From rooms and stays to the kit's word. -/
theorem OMap.down {w : World} {b m sn : Nat} {O : OwnO} (h : OMap w b O) (hO : OB m sn O) (hm : m ≤ 1000) (hs : sn ≤ 100000) : ∃ (n : Nat) (D : DataW Unit), n ≤ m ∧ w.ownsMap Tryz.prog 3 (plainElem Tryz.prog 3) b n D ∧ GoodD m sn D ∧ Maps.size D ≤ m := by
 obtain ⟨f, ⟨es, c, hb, hp, hst⟩, hl, hk⟩ := h
 have hlen := pairs_len hp
 have hmem : ∀ x ∈ es.toList, ∃ y ∈ f, x.key = .int .i64 y.1 ∧ x.val = y.2 := fun x hx => by
  have : (x.key, x.val) ∈ es.toList.map (fun e => (e.key, e.val)) := List.mem_map.2 ⟨x, hx, rfl⟩
  rw [hp] at this
  obtain ⟨y, hy, e⟩ := List.mem_map.1 this
  simp only [Prod.mk.injEq] at e
  exact ⟨y, hy, e.1.symm, e.2.symm⟩
 have hnd : (f.map Prod.fst).Nodup := by
  have h1 := hst.2.2
  have h2 := congrArg (List.map fun p : Value × Value => p.1) hp
  rw [List.map_map, List.map_map] at h2
  have e1 : es.toList.map ((fun p : Value × Value => p.1) ∘ fun e : MapEntry => (e.key, e.val)) = es.toList.map (·.key) := rfl
  have e2 : f.map ((fun p : Value × Value => p.1) ∘ fun x : Int × Value => (Value.int .i64 x.1, x.2)) = (f.map Prod.fst).map (Value.int .i64) := by rw [List.map_map]; rfl
  rw [e1, e2] at h2
  rw [h2] at h1
  exact List.Pairwise.of_map _ (fun a b hab e => hab (by rw [e])) h1
 have hgood : ∀ y ∈ f, ∃ k j : Nat, k < m ∧ j < sn ∧ y.1 = (k : Int) ∧ y.2 = .int .i64 (j : Int) := fun y hy => by
  obtain ⟨k, e⟩ := hk y hy
  have h1 := look_of_mem hnd hy
  rw [e, hl k] at h1
  obtain ⟨j, hj, e2⟩ := Option.map_eq_some_iff.1 h1
  exact ⟨k, j, (hO k j hj).1, (hO k j hj).2, e, e2.symm⟩
 have hfl : f.length ≤ m := by
  have := nodup_le (l := (f.map Prod.fst).map Int.toNat) (m := m) (by
   rw [List.nodup_iff_pairwise_ne, List.pairwise_map]
   refine (List.nodup_iff_pairwise_ne.1 hnd).imp_of_mem fun {a b} ha hb2 hab e => hab ?_
   obtain ⟨y, hy, rfl⟩ := List.mem_map.1 ha
   obtain ⟨z, hz, rfl⟩ := List.mem_map.1 hb2
   obtain ⟨k, _, _, _, e1, _⟩ := hgood y hy
   obtain ⟨k', _, _, _, e2, _⟩ := hgood z hz
   omega) (fun x hx => by
   obtain ⟨a, ha, rfl⟩ := List.mem_map.1 hx
   obtain ⟨y, hy, rfl⟩ := List.mem_map.1 ha
   obtain ⟨k, _, h1, _, e1, _⟩ := hgood y hy
   omega)
  simpa using this
 have hrd : ∀ x ∈ es.toList, ∃ k j : Nat, k < m ∧ j < sn ∧ rd Tryz.prog 3 (plainElem (H := Unit) Tryz.prog 3) x = some (.int .i64 (k : Int), .lit (.int .i64 (j : Int))) := fun x hx => by
  obtain ⟨y, hy, e1, e2⟩ := hmem x hx
  obtain ⟨k, j, h1, h2, e3, e4⟩ := hgood y hy
  refine ⟨k, j, h1, h2, ?_⟩
  have := rd_mk (born := x.born) (keyOf_int_mk Tryz.underlying3 (key_wf (k := (k : Int)) (by omega))) (plainElem_int (H := Unit) Tryz.underlying3 (key_wf (k := (j : Int)) (by omega)))
  rw [← e3, ← e4, ← e1, ← e2] at this
  rw [← e3] at *
  exact this
 have hF : Fit Tryz.prog 3 (plainElem (H := Unit) Tryz.prog 3) es c := ⟨by rw [Array.size_eq_length_toList, hlen]; unfold maxLen; omega, hst, fun x hx => by
  obtain ⟨k, j, _, _, h⟩ := hrd x hx
  exact ⟨_, h⟩⟩
 refine ⟨f.length, _, hfl, ⟨es, c, hb, hF, by rw [Array.size_eq_length_toList, hlen]; exact Nat.le_refl _, rfl⟩, ⟨_, rfl, fun p hp' => ?_⟩, ?_⟩
 ·
  obtain ⟨e, he, rfl⟩ := List.mem_map.1 ((Go.WideShapes.sorted_perm _).mem_iff.1 hp')
  obtain ⟨k, j, h1, h2, h⟩ := hrd e he
  exact ⟨k, j, h1, h2, rg_of h⟩
 ·
  show ((es.toList.map (rg Tryz.prog 3 _)).foldr DataW.insert []).length ≤ _
  rw [(Go.WideShapes.sorted_perm _).length_eq, List.length_map, hlen]
  exact hfl
/-- .. and back. -/
theorem OMap.up {w : World} {b m sn n : Nat} {D : DataW Unit} (h : w.ownsMap Tryz.prog 3 (plainElem Tryz.prog 3) b n D) (hD : GoodD m sn D) : ∃ O, OMap w b O ∧ OB m sn O := by
 obtain ⟨es, c, hb, hF, _, rfl⟩ := h
 obtain ⟨l, hl, hg⟩ := hD
 cases hl
 have hes : ∀ x ∈ es.toList, ∃ k j : Nat, k < m ∧ j < sn ∧ x.key = .int .i64 (k : Int) ∧ x.val = .int .i64 (j : Int) := fun x hx => by
  obtain ⟨y, hy⟩ := hF.reads x hx
  obtain ⟨k, j, h1, h2, e⟩ := hg _ ((Go.WideShapes.sorted_perm _).mem_iff.2 (List.mem_map.2 ⟨x, hx, rfl⟩))
  rw [rg_of hy] at e
  subst e
  obtain ⟨x', e1, e2, _⟩ := Maps.keyOf_int_inv Tryz.underlying3 (rd_key hy)
  obtain ⟨z, e3, e4⟩ := rd_val hy
  obtain ⟨y', e5, rfl, _⟩ := plainElem_int_inv Tryz.underlying3 e3
  cases e2
  cases e4
  exact ⟨k, j, h1, h2, e1, e5⟩
 obtain ⟨f, hf⟩ : ∃ f, f = es.toList.map (fun e : MapEntry => (intOf e.key, e.val)) := ⟨_, rfl⟩
 have hfm : ∀ x ∈ f, ∃ k j : Nat, k < m ∧ j < sn ∧ x = ((k : Int), .int .i64 (j : Int)) := fun x hx => by
  rw [hf] at hx
  obtain ⟨e, he, rfl⟩ := List.mem_map.1 hx
  obtain ⟨k, j, h1, h2, e1, e2⟩ := hes e he
  exact ⟨k, j, h1, h2, by rw [e1, e2]; rfl⟩
 have hpf : IsPairs es.toList f := by
  unfold IsPairs
  rw [hf, List.map_map]
  refine List.map_congr_left fun e he => ?_
  obtain ⟨k, j, _, _, e1, e2⟩ := hes e he
  simp only [Function.comp, e1]
  rfl
 refine ⟨fun k => (look f (k : Int)).map fun v => (intOf v).toNat, ⟨f, ⟨es, c, hb, hpf, hF.stamped⟩, fun k => ?_, fun x hx => ?_⟩, fun k j e => ?_⟩
 ·
  show _ = Option.map _ (Option.map _ _)
  cases hk : look f (k : Int) with
  | none => rfl
  | some v =>
   obtain ⟨k', j, _, _, e⟩ := hfm _ (look_mem hk)
   cases e
   rfl
 ·
  obtain ⟨k, j, _, _, rfl⟩ := hfm x hx
  exact ⟨k, rfl⟩
 ·
  obtain ⟨v, hv, rfl⟩ := Option.map_eq_some_iff.1 e
  obtain ⟨k', j, h1, h2, e⟩ := hfm _ (look_mem hv)
  simp only [Prod.mk.injEq] at e
  obtain ⟨e1, rfl⟩ := e
  have : (intOf (.int .i64 (j : Int))).toNat = j := by simp [intOf]
  omega
end
section
set_option linter.unusedSimpArgs false
set_option linter.unusedVariables false
open Go.RowKit Go.Shelf Go.Maps
theorem wiped_any (a b : Int) (W : World) : Calls Tryz.prog 145 #[.int .i64 a, .int .i64 b] W fun e w' => e = .returned (.bool true) ∧ w' = W := by
 go_enter Tryz.func145, Tryz.ntmps145
 go_wp2_with fail
 go_ret
 exact ⟨rfl, rfl⟩
theorem cloneM_any (b : Nat) (O : OwnO) (w : World) (h : OMap w b O) : Calls Tryz.prog 143 #[.map (some b)] w fun e w' => e = .returned (.map (some w.heap.size)) ∧ OMap w' w.heap.size O ∧ Below w.heap.size w w' ∧ w'.heap.size = w.heap.size + 1 := by
 obtain ⟨f, ⟨es, c, hb, hp⟩, hs⟩ := h
 have h := AnyW.maps_Clone lay_cloneM b es c w hb
 change Calls Tryz.prog 143 _ _ _ at h
 refine h.mono ?_
 rintro e w' ⟨rfl, rfl⟩
 exact ⟨rfl, ⟨f, ⟨es, c, (MapKept.heap_alloc w _).1, hp⟩, hs⟩, (Below.refl _ _).alloc (Nat.le_refl _) _, by simp⟩
theorem wipe_any (b m sn : Nat) (O : OwnO) (w : World) (hm : m ≤ 1000) (hs : sn ≤ 100000) (h : OMap w b O) (hO : OB m sn O) : Calls Tryz.prog 144 #[.map (some b), .func (.func 145) #[] #[]] w fun e w' => e = .returned (.tuple #[]) ∧ (∃ n, n ≤ m ∧ w'.ownsMap Tryz.prog 3 (plainElem (H := Unit) Tryz.prog 3) b n (.map [])) ∧ w.grownBy w' (some b) := by
 obtain ⟨n, D, hn, ho, hg, _⟩ := h.down hO hm hs
 have h := AnyDf.maps_DeleteFunc lay_delM (Maps.int_keyed Tryz.underlying3) (plainElem (H := Unit) Tryz.prog 3) (fun _ _ => true) 145 #[] b n D w (enters_of Tryz.func145 (by kernel_rfl) rfl) ho (fun W key val kl yd yp _ hk hv => by
  obtain ⟨x, rfl, _⟩ := Maps.keyOf_int_inv Tryz.underlying3 hk
  obtain ⟨y, rfl, _⟩ := plainElem_int_inv Tryz.underlying3 hv
  refine (wiped_any x y W).mono ?_
  rintro e w' ⟨rfl, rfl⟩
  exact ⟨rfl, ⟨rfl, rfl, rfl, Nat.le_refl _, fun _ _ _ => rfl⟩⟩)
 change Calls Tryz.prog 144 _ _ _ at h
 refine h.mono ?_
 rintro e w' ⟨rfl, h1, h2⟩
 rw [hg.wiped] at h1
 exact ⟨rfl, ⟨n, hn, h1⟩, h2⟩
theorem copyM_any (b s n m sn : Nat) (O : OwnO) (w : World) (hm : m ≤ 1000) (hs : sn ≤ 100000) (hn : n ≤ m) (h : w.ownsMap Tryz.prog 3 (plainElem (H := Unit) Tryz.prog 3) b n (.map [])) (h2 : OMap w s O) (hO : OB m sn O) (hne : b ≠ s) :
  Calls Tryz.prog 146 #[.map (some b), .map (some s)] w fun e w' => e = .returned (.tuple #[]) ∧ (∃ O', OMap w' b O' ∧ OB m sn O') ∧ w.grownBy w' (some b) := by
 obtain ⟨n2, D, hn2, ho, hg, hz⟩ := h2.down hO hm hs
 have h := AnyX.maps_Copy lay_copyM (Maps.int_keyed Tryz.underlying3) (plainElem (H := Unit) Tryz.prog 3) b s n n2 (.map []) D w h ho hne (by unfold maxLen; omega)
 change Calls Tryz.prog 146 _ _ _ at h
 refine h.mono ?_
 rintro e w' ⟨rfl, h1, _, h3⟩
 exact ⟨rfl, OMap.up h1 ((GoodD.nil m sn).merge hg), h3⟩
set_option maxRecDepth 100000 in
set_option maxHeartbeats 6400000 in
theorem move_any (sa : Option Addr) (sn sc : Nat) (NS : List StayV) (ra : Option Addr) (m rc : Nat) (NR : List RoomV) (fb : Nat) (F : List (Int × Int)) (nb ob stay room : Nat) (O : OwnO) (w : World) (hm : m ≤ 1000) (hsn : sn ≤ 100000) (hst : stay < sn) (hrm : room < m) (hN : NightIn w nb sa sn sc NS ra m rc NR fb F) (hM : OMap w ob O) (hO : OB m sn O) :
  Calls Tryz.prog 127 #[.pointer (some ⟨nb, 0, none⟩), .map (some ob), .int .i64 (stay : Int), .int .i64 (room : Int)] w fun e w' => ∃ b O', e = .returned (.bool b) ∧ OMap w' ob O' ∧ OB m sn O' ∧ Ch (fun x => x = ob) w w' := by
 have hob := hM.lt
 have HLO := Lib.hid hN.lo
 have HN := Lib.hid hN
 have HM := Lib.hid hM
 clear hN hM
 go_enter Tryz.func127, Tryz.ntmps127
 go_wp2_with fail
 refine (cloneM_any ob O w HM.out).mono ?_
 obtain ⟨nx, hnx⟩ : ∃ nx, w.heap.size = nx := ⟨_, rfl⟩
 rintro e w1 ⟨rfl, hnm, hb1, hs1⟩
 rw [hnx] at hnm hs1 ⊢
 obtain ⟨n0, D0, hn0, ho0, hg0, hz0⟩ := (HM.out.step hb1).down hO hm hsn
 obtain ⟨n1, D1, hn1, ho1, hg1, hz1⟩ := hnm.down hO hm hsn
 have HO0 := Lib.hid ho0
 have HO1 := Lib.hid ho1
 have HG1 := Lib.hid hg1
 have HB1 := Lib.hid hb1
 clear ho0 hg0 ho1 hg1 hnm hb1
 go_wp2_with (at_range; refine wpList_range_own _ rfl _ 140 rfl 3 3 (Maps.int_keyed Tryz.underlying3) Tryz.underlying140 _ ob _ _ rfl HO0.out ?_; intro w2 hrg2 hg2 hs2)
 have HO2 := Lib.hid (HO1.out.kept hg2 (by simp))
 have HC2 : Hid (Ch (fun x => x = nx) w1 w2) := Ch.of_grown hg2 (fun k e => by simp at e)
 have HRG2 := Lib.hid hrg2
 obtain ⟨it, hit⟩ : ∃ it, w1.heap.size = it := ⟨_, rfl⟩
 rw [hit] at HRG2 ⊢
 clear hrg2 hg2
 go_frame
 go_loopw [10, 11] (fun _ _ wr => ∃ (left : Lit → Bool) (cnt : Nat) (DN : DataW Unit), Hid (wr.ranges Tryz.prog 3 (plainElem Tryz.prog 3) ob it n0 D0 left cnt) ∧ Hid (wr.ownsMap Tryz.prog 3 (plainElem (H := Unit) Tryz.prog 3) nx n1 DN) ∧ Hid (GoodD m sn DN) ∧ Hid (Ch (fun x => x = nx) w1 wr)) (fun _ _ wr => wr.rangeLeft ob it)
 case atStart => exact ⟨_, _, D1, HRG2.out, HO2.out, HG1.out, HC2.out⟩
 case round =>
  obtain ⟨left, cnt, DN, hrg, hoN, hgN, hC⟩ := hrel
  have hrg' := hrg.out
  go_wp2_with (at_next; refine wpList_next_ranges_ii _ rfl _ rfl 3 3 .i64 .i64 (Maps.int_keyed Tryz.underlying3) Tryz.underlying3 Tryz.underlying3 ob it n0 D0 left cnt rfl hrg' ?_ ?_)
  ·
   intro hc0 hl0
   clear hrg'
   obtain ⟨OZ, hMZ, hOZ⟩ := OMap.up hoN.out hgN.out
   have hCn : Ch (fun x => x = nx) w1 wr := hC.out
   have HBZ : Hid (Below w.heap.size w wr) := hCn.below HB1.out (fun k hk => by omega) HB1.out.size
   have HOBZ := Lib.hid (HM.out.step HBZ.out)
   have HOZ := Lib.hid hOZ
   have hbz := HBZ.out.size
   have hlo := run_lookup_omap hMZ room
   obtain ⟨f, hf1, hf2⟩ := hMZ
   have HF1 := Lib.hid hf1
   have HF2 := Lib.hid hf2
   have HCN := Lib.hid hCn
   clear hf1 hf2 hCn hOZ hrg hoN hgN hC
   cases hOK : OZ room with
   | none =>
    rw [hOK] at hlo
    simp only [Option.getD_none, Option.isSome_none] at hlo
    clear hOK
    go_wp2_with (
     refine wpList_update_imap _ rfl _ _ _ 140 (.inl rfl) 3 3 Tryz.underlying140 Tryz.underlying3 nx f rfl HF1.out (room : Int) (.int .i64 (stay : Int)) rfl rfl ?_
     intro w5 hm5 hg5
     have HNX5 := Lib.hid (omap_upd (n := room) (i := stay) HF2.out hm5)
     have HOX5 := Lib.hid (HOZ.out.set hrm hst)
     have HOB5 := Lib.hid (HOBZ.out.of_block (hg5.block ob (by omega) (by simp; omega)))
     have HC5 : Hid (Ch (fun x => x = nx) w w5) := Ch.over HB1.out (HCN.out.trans (Ch.of_grown hg5 (fun k e => by simpa using e.symm))) (fun k h => Or.inl h)
     have HB5 : Hid (Below w.heap.size w w5) := HC5.out.below (Below.refl _ _) (fun k hk => by omega) (Nat.le_refl _)
     have hs5 := hg5.size
     clear hm5 hg5)
    refine (wipe_any ob m sn O w5 hm hsn HOB5.out hO).mono ?_
    rintro e w8 ⟨rfl, ⟨n8, hn8, ho8⟩, hg8⟩
    have HN8 := Lib.hid (HNX5.out.of_block (hg8.block nx HNX5.out.lt (by simp; omega)))
    have HC8 : Hid (Ch (fun x => x = ob) w w8) := Ch.over (Below.refl _ _) ((HC5.out.mono (p := fun x => x = ob ∨ w.heap.size ≤ x) (fun k _ h => Or.inr (by omega))).trans ((Ch.of_grown (o := fun x => x = ob) hg8 (fun k e => by simpa using e.symm)).mono (fun k _ h => Or.inl h))) (fun k h => h)
    have HO8 := Lib.hid ho8
    clear ho8 hg8
    go_wp2_with fail
    refine (copyM_any ob nx n8 m sn _ w8 hm hsn hn8 HO8.out HN8.out HOX5.out (by omega)).mono ?_
    rintro e w9 ⟨rfl, ⟨O9, hM9, hO9⟩, hg9⟩
    have HC9 : Hid (Ch (fun x => x = ob) w w9) := HC8.out.trans (Ch.of_grown hg9 (fun k e => by simpa using e.symm))
    have HM9 := Lib.hid hM9
    have HO9 := Lib.hid hO9
    clear hM9 hO9 hg9
    go_wp2_with fail
    go_ret
    exact ⟨true, O9, rfl, HM9.out, HO9.out, HC9.out⟩
   | some j =>
    have hjs := (HOZ.out room j hOK).2
    rw [hOK] at hlo
    simp only [Option.getD_some, Option.isSome_some] at hlo
    clear hOK
    go_wp2_with (
     refine wpList_update_imap _ rfl _ _ _ 140 (.inl rfl) 3 3 Tryz.underlying140 Tryz.underlying3 nx f rfl HF1.out (room : Int) (.int .i64 (stay : Int)) rfl rfl ?_
     intro w5 hm5 hg5
     have HNX5 := Lib.hid (omap_upd (n := room) (i := stay) HF2.out hm5)
     have HOX5 := Lib.hid (HOZ.out.set hrm hst)
     have HOB5 := Lib.hid (HOBZ.out.of_block (hg5.block ob (by omega) (by simp; omega)))
     have HC5 : Hid (Ch (fun x => x = nx) w w5) := Ch.over HB1.out (HCN.out.trans (Ch.of_grown hg5 (fun k e => by simpa using e.symm))) (fun k h => Or.inl h)
     have HB5 : Hid (Below w.heap.size w w5) := HC5.out.below (Below.refl _ _) (fun k hk => by omega) (Nat.le_refl _)
     have hs5 := hg5.size
     clear hm5 hg5)
    have HN5 := Lib.hid (HN.out.step HB5.out)
    have hpl := place_any sa sn sc NS ra m rc NR fb F nb nx (stay + 1) w.heap.size HLO.out (by omega) hm (by omega) (setO OZ room stay) j w5 (by omega) (fun k j' h => by have := (HOX5.out k j' h).2; omega) HN5.out HNX5.out
    rw [show ((stay + 1 : Nat) : Int) = (stay : Int) + 1 from by omega] at hpl
    obtain ⟨fin, hfin⟩ : ∃ fin, findF (fitsF F) (stay + 1) m (m + 1) (fun _ => false) (setO OZ room stay) j = fin := ⟨_, rfl⟩
    have HFO : Hid (OB m sn fin.2.2) := by show OB _ _ _; rw [← hfin]; exact findF_ob _ _ _ _ HOX5.out hjs
    rw [hfin] at hpl
    have HPL := Lib.hid hpl
    clear hfin hpl
    refine HPL.out.mono ?_
    rintro e w6 ⟨rfl, hm6, hc6⟩
    have HNX6 := Lib.hid hm6
    have HC6 : Hid (Ch (fun x => x = nx) w w6) := HC5.out.trans hc6
    have HOB6 := Lib.hid (HOB5.out.of_block (hc6.2.2.2.2 ob (by omega) (by omega)))
    have hs6 := hc6.size
    clear hm6 hc6 HPL
    obtain ⟨fb1, fS, fO⟩ := fin
    cases fb1 with
    | false =>
     go_wp2_with fail
     go_ret
     exact ⟨false, O, rfl, HOB6.out, hO, Ch.over (Below.refl _ _) HC6.out (fun k hk => Or.inr (by omega))⟩
    | true =>
     go_wp2_with fail
     refine (wipe_any ob m sn O w6 hm hsn HOB6.out hO).mono ?_
     rintro e w8 ⟨rfl, ⟨n8, hn8, ho8⟩, hg8⟩
     have HN8 := Lib.hid (HNX6.out.of_block (hg8.block nx HNX6.out.lt (by simp; omega)))
     have HC8 : Hid (Ch (fun x => x = ob) w w8) := Ch.over (Below.refl _ _) ((HC6.out.mono (p := fun x => x = ob ∨ w.heap.size ≤ x) (fun k _ h => Or.inr (by omega))).trans ((Ch.of_grown (o := fun x => x = ob) hg8 (fun k e => by simpa using e.symm)).mono (fun k _ h => Or.inl h))) (fun k h => h)
     have HO8 := Lib.hid ho8
     clear ho8 hg8
     go_wp2_with fail
     refine (copyM_any ob nx n8 m sn _ w8 hm hsn hn8 HO8.out HN8.out HFO.out (by omega)).mono ?_
     rintro e w9 ⟨rfl, ⟨O9, hM9, hO9⟩, hg9⟩
     have HC9 : Hid (Ch (fun x => x = ob) w w9) := HC8.out.trans (Ch.of_grown hg9 (fun k e => by simpa using e.symm))
     have HM9 := Lib.hid hM9
     have HO9 := Lib.hid hO9
     clear hM9 hO9 hg9
     go_wp2_with fail
     go_ret
     exact ⟨true, O9, rfl, HM9.out, HO9.out, HC9.out⟩
  ·
   intro x c w11 cnt1 hwx hwc hlk hat hrg1 hlt hg1 hs1 hen
   have hml : w11.rangeLeft ob it < wr.rangeLeft ob it := by rw [hrg1.left_eq, hrg'.left_eq]; exact hlt
   have HML := Lib.hid hml
   have HN11 := Lib.hid (hoN.out.kept hg1 (by simp; omega))
   have HC11 : Hid (Ch (fun x => x = nx) w1 w11) := Ch.over (Below.refl _ _) ((hC.out.mono (p := fun x => x = nx ∨ w1.heap.size ≤ x) (fun k _ h => Or.inl h)).trans ((Ch.of_grown (o := fun x => x = it) hg1 (fun k e => by simpa using e.symm)).mono (fun k _ h => Or.inr (by omega)))) (fun k h => h)
   have HRG := Lib.hid hrg1
   have hkx := keyOf_int_mk Tryz.underlying3 hwx
   clear hrg' hrg1 hml hat hg1 hlt
   by_cases hcs : c = (stay : Int)
   ·
    go_wp2_with (at_delete; refine wpList_delete_own _ rfl _ _ 140 3 rfl 3 (Maps.int_keyed Tryz.underlying3) Tryz.underlying140 _ nx n1 DN rfl HN11.out _ _ rfl hkx ?_; intro w12 hown1 hturn1; simp only [Act.put])
    have hg1 := hown1
    have hg2 := hturn1.grown
    have HRG2 := Lib.hid (HRG.out.kept hg2 (by simp; omega) (by simp; omega))
    refine ⟨⟨_, _, _, HRG2.out, hown1, hgN.out.del _, HC11.out.trans (Ch.of_grown hg2 (fun k e => by simpa using e.symm))⟩, ?_⟩
    rw [HRG2.out.left_eq, ← HRG.out.left_eq]
    exact HML.out
   ·
    go_wp2_with fail
    exact ⟨⟨_, _, DN, HRG.out, HN11.out, hgN.out, HC11.out⟩, HML.out⟩
end
section
set_option linter.unusedSimpArgs false
set_option linter.unusedVariables false
open Go.RowKit Go.Shelf
theorem Row.setI {w : World} {g : Nat} {us : List Int} (h : Row w g (us.map (Value.int .i64))) (i : Nat) (b : Int) : Row (w.setCell ⟨g, i, none⟩ (.int .i64 b)) g ((us.set i b).map (Value.int .i64)) := by
 obtain ⟨T, hT⟩ := h
 refine ⟨T, ?_⟩
 simp only [World.setCell, Array.getElem?_modify, hT]
 simp
theorem made_ints (n : Nat) : madeCells #[.int .i64 0] n = ((List.replicate n (0 : Int)).map (Value.int .i64)).toArray := by
 unfold madeCells
 apply Array.ext'
 simp
 apply List.ext_getElem
 ·
  simp
 ·
  intro i h1 h2
  simp [Nat.mod_one]
theorem run_make_ints (n : Nat) (hn : n ≤ 1000000) (w : World) : Sem.run Tryz.prog (Instr.makeSlice 44 (.int .i64 (n : Int)) (.int .i64 (n : Int))) w = .ok (.slice (some ⟨w.heap.size, 0, none⟩) n n) (w.alloc (.cells ((List.replicate n (0 : Int)).map (Value.int .i64)).toArray 3)) := by
 have h := run_make (P := Tryz.prog) w 44 3 Tryz.t3 (.int .i64 0) Tryz.underlying44 (by kernel_rfl) (by kernel_rfl) .i64 .i64 n n (by omega) (Int.le_refl _) (by show ((8 : Nat) : Int) * _ ≤ _; omega) (by omega)
 simp only [Int.toNat_natCast] at h
 rw [h]
 rw [← made_ints]
 have e : n * Tryz.t3.size = n := by show n * 1 = n; omega
 rw [e]
 rfl
set_option maxRecDepth 100000 in
set_option maxHeartbeats 6400000 in
theorem improve_any (sa : Option Addr) (sn sc : Nat) (NS : List StayV) (ra : Option Addr) (m rc : Nat) (NR : List RoomV) (fb : Nat) (F : List (Int × Int)) (nb ob B : Nat) (O : OwnO) (w : World) (hm : m ≤ 1000) (hsn : sn ≤ 100000) (hm0 : 0 < sn → 0 < m) (hlo : NightLo B nb sn m sa ra fb) (hBo : B ≤ ob) (hN : NightIn w nb sa sn sc NS ra m rc NR fb F) (hM : OMap w ob O) (hO : OB m sn O) :
  Calls Tryz.prog 97 #[.pointer (some ⟨nb, 0, none⟩), .map (some ob)] w fun e w' => (∃ v, e = .returned v) ∧ Ch (fun x => x = ob) w w' := by
 have hob := hM.lt
 have HLO := Lib.hid hlo
 have HN := Lib.hid hN
 have HM := Lib.hid hM
 have n0 := hN.row.cell 0 rfl
 have n1 := hN.row.cell 1 rfl
 have i1 : (0 : Int) ≤ (sn : Int) := by omega
 clear hN hM hlo
 go_enter Tryz.func97, Tryz.ntmps97
 have hmk := run_make_ints sn (by omega)
 obtain ⟨ab, hab⟩ : ∃ ab, w.heap.size = ab := ⟨_, rfl⟩
 obtain ⟨w1, hw1⟩ : ∃ w1, w.alloc (.cells ((List.replicate sn (0 : Int)).map (Value.int .i64)).toArray 3) = w1 := ⟨_, rfl⟩
 have hal : Below w.heap.size w w1 := by rw [← hw1]; exact (Below.refl _ _).alloc (Nat.le_refl _) _
 have hr1 : Row w1 ab ((List.replicate sn (0 : Int)).map (Value.int .i64)) := by rw [← hw1]; exact Row.new' _ _ _ hab.symm
 have hs1 : w1.heap.size = ab + 1 := by rw [← hw1, ← hab]; simp
 have HB1 := Lib.hid hal
 have HR1 := Lib.hid hr1
 have HM1 := Lib.hid (HM.out.step hal)
 have HN1 := Lib.hid (HN.out.step hal)
 have hmk0 := hmk w
 rw [hw1, hab] at hmk0
 clear hw1 hal hr1 hmk
 have nn := HN1.out.row.cell 0 rfl
 go_wp2_with fail
 go_loopw [6, 23] (fun _ ix wr => ∃ (i : Nat) (OX : OwnO) (L : List Int), i ≤ sn ∧ ix = .int .i64 i ∧ Hid (OMap wr ob OX) ∧ Hid (OB m sn OX) ∧ Hid (Row wr ab (L.map (Value.int .i64))) ∧ Hid (L.length = sn ∧ ∀ x ∈ L, 0 ≤ x ∧ x < (m : Int)) ∧ Hid (Ch (fun x => x = ob ∨ x = ab) w1 wr)) (fun _ ix _ => sn - (intOf ix).toNat)
 case atStart => exact ⟨0, O, _, Nat.zero_le _, rfl, HM1.out, hO, HR1.out, ⟨by simp, fun x hx => by obtain ⟨h1, rfl⟩ := List.mem_replicate.1 hx; have := hm0 (by omega); omega⟩, Ch.refl _ _⟩
 case round =>
  obtain ⟨i, OX, L, hi, rfl, hMX, hOX, hR, hL, hC⟩ := hrel
  by_cases his : i < sn
  ·
   have HNX := Lib.hid (HN1.out.ch (B := B) HLO.out hC.out (fun x hx => by omega))
   have n1 := HNX.out.row.cell 1 rfl
   have j1 : (0 : Int) ≤ (i : Int) := by omega
   have j2 : (i : Int) < (sn : Int) := by omega
   clear nn
   go_wp2_with fail
   clear n1
   go_loopw [7, 31] (fun _ kx wx => ∃ (k : Nat) (O2 : OwnO) (L2 : List Int), k ≤ m ∧ kx = .int .i64 k ∧ Hid (OMap wx ob O2) ∧ Hid (OB m sn O2) ∧ Hid (Row wx ab (L2.map (Value.int .i64))) ∧ Hid (L2.length = sn ∧ ∀ x ∈ L2, 0 ≤ x ∧ x < (m : Int)) ∧ Hid (Ch (fun x => x = ob ∨ x = ab) w1 wx)) (fun _ kx _ => m - (intOf kx).toNat)
   case atStart => exact ⟨0, OX, L, Nat.zero_le _, rfl, hMX, hOX, hR, hL, hC⟩
   case round =>
    clear hMX hOX hR hL hC HNX
    obtain ⟨k, O2, L2, hk, rfl, hM2, hO2, hR2, hL2, hC2⟩ := hrel
    have HN2 := Lib.hid (HN1.out.ch (B := B) HLO.out hC2.out (fun x hx => by omega))
    by_cases hkm : k < m
    ·
     have n0 := HN2.out.row.cell 2 rfl
     have hlf := run_lookup_pmap Tryz.underlying63 HN2.out.fits ((i : Int), (k : Int))
     obtain ⟨p2, hp2⟩ : ∃ p, fitsF F i k = p := ⟨_, rfl⟩
     have hp2' : decide (((i : Int), (k : Int)) ∈ F) = p2 := hp2
     rw [hp2'] at hlf
     simp only [pkey] at hlf
     clear hp2 hp2'
     cases p2 with
     | false =>
      go_wp2_with fail
      go_roundw
      case rel => exact ⟨k + 1, O2, L2, by omega, by go_num, hM2, hO2, hR2, hL2, hC2⟩
      case measure => simp [intOf]; omega
     | true =>
      have hlo := run_lookup_omap hM2.out k
      cases hOK : O2 k with
      | none =>
       rw [hOK] at hlo
       simp only [Option.getD_none, Option.isSome_none] at hlo
       clear hOK
       go_wp2_with fail
       refine (move_any sa sn sc NS ra m rc NR fb F nb ob i k O2 wr hm hsn his hkm HN2.out hM2.out hO2.out).mono ?_
       rintro e w6 ⟨mb, O6, rfl, hm6, ho6, hc6⟩
       have HM6 := Lib.hid hm6
       have HO6 := Lib.hid ho6
       have HC6 : Hid (Ch (fun x => x = ob ∨ x = ab) w1 w6) := hC2.out.trans (hc6.mono (fun k _ h => Or.inl h))
       have HR6 := Lib.hid (hR2.out.ch hc6 (by omega))
       clear hm6 ho6 hc6 hlf n0 hlo
       cases mb with
       | false =>
        go_wp2_with fail
        go_roundw
        case rel => exact ⟨k + 1, O6, L2, by omega, by go_num, HM6.out, HO6.out, HR6.out, hL2, HC6.out⟩
        case measure => simp [intOf]; omega
       | true =>
        have y0 := HR6.out.cell i (v := .int .i64 (L2.getD i 0)) (by rw [List.getElem?_map]; simp [List.getD, hL2.out.1, his])
        have y1 := HR6.out.frozen i
        have y2 := HR6.out.lt
        go_wp2_with fail
        refine ⟨⟨i + 1, O6, L2.set i (k : Int), by omega, by go_num, ?_, HO6, HR6.out.setI i k, ?_, HC6.out.setCell (Or.inr rfl) _⟩, by simp [intOf]; omega⟩
        ·
         exact HM6.out.of_block (Below.heap_setCell _ _ _ _ (by show ob ≠ ab; omega))
        ·
         refine ⟨by rw [List.length_set]; exact hL2.out.1, fun x hx => ?_⟩
         rcases List.mem_or_eq_of_mem_set hx with hx | rfl
         ·
          exact hL2.out.2 x hx
         ·
          omega
      | some j =>
       rw [hOK] at hlo
       simp only [Option.getD_some, Option.isSome_some] at hlo
       clear hOK
       by_cases hji : (j : Int) < (i : Int)
       ·
        go_wp2_with fail
        go_roundw
        case rel => exact ⟨k + 1, O2, L2, by omega, by go_num, hM2, hO2, hR2, hL2, hC2⟩
        case measure => simp [intOf]; omega
       ·
        by_cases hje : (j : Int) = (i : Int)
        ·
         have y0 := hR2.out.cell i (v := .int .i64 (L2.getD i 0)) (by rw [List.getElem?_map]; simp [List.getD, hL2.out.1, his])
         have y1 := hR2.out.frozen i
         have y2 := hR2.out.lt
         go_wp2_with fail
         refine ⟨⟨i + 1, O2, L2.set i (k : Int), by omega, by go_num, ?_, hO2, hR2.out.setI i k, ?_, hC2.out.setCell (Or.inr rfl) _⟩, by simp [intOf]; omega⟩
         ·
          exact hM2.out.of_block (Below.heap_setCell _ _ _ _ (by show ob ≠ ab; omega))
         ·
          refine ⟨by rw [List.length_set]; exact hL2.out.1, fun x hx => ?_⟩
          rcases List.mem_or_eq_of_mem_set hx with hx | rfl
          ·
           exact hL2.out.2 x hx
          ·
           omega
        ·
         skip
         go_wp2_with fail
         refine (move_any sa sn sc NS ra m rc NR fb F nb ob i k O2 wr hm hsn his hkm HN2.out hM2.out hO2.out).mono ?_
         rintro e w6 ⟨mb, O6, rfl, hm6, ho6, hc6⟩
         have HM6 := Lib.hid hm6
         have HO6 := Lib.hid ho6
         have HC6 : Hid (Ch (fun x => x = ob ∨ x = ab) w1 w6) := hC2.out.trans (hc6.mono (fun k _ h => Or.inl h))
         have HR6 := Lib.hid (hR2.out.ch hc6 (by omega))
         clear hm6 ho6 hc6 hlf n0 hlo
         cases mb with
         | false =>
          go_wp2_with fail
          go_roundw
          case rel => exact ⟨k + 1, O6, L2, by omega, by go_num, HM6.out, HO6.out, HR6.out, hL2, HC6.out⟩
          case measure => simp [intOf]; omega
         | true =>
          have y0 := HR6.out.cell i (v := .int .i64 (L2.getD i 0)) (by rw [List.getElem?_map]; simp [List.getD, hL2.out.1, his])
          have y1 := HR6.out.frozen i
          have y2 := HR6.out.lt
          go_wp2_with fail
          refine ⟨⟨i + 1, O6, L2.set i (k : Int), by omega, by go_num, ?_, HO6, HR6.out.setI i k, ?_, HC6.out.setCell (Or.inr rfl) _⟩, by simp [intOf]; omega⟩
          ·
           exact HM6.out.of_block (Below.heap_setCell _ _ _ _ (by show ob ≠ ab; omega))
          ·
           refine ⟨by rw [List.length_set]; exact hL2.out.1, fun x hx => ?_⟩
           rcases List.mem_or_eq_of_mem_set hx with hx | rfl
           ·
            exact hL2.out.2 x hx
           ·
            omega
    ·
     obtain rfl : k = m := by omega
     go_wp2_with fail
     exact ⟨⟨i + 1, O2, L2, by omega, by go_num, hM2, hO2, hR2, hL2, hC2⟩, by simp [intOf]; omega⟩
  ·
   have hie : i = sn := by omega
   subst hie
   clear n1 n0 nn hmk0
   go_wp2_with fail
   go_loopw [10, 11, 76] (fun _ _ qx wx => ∃ (q : Nat) (L3 : List Int), q ≤ i ∧ qx = .int .i64 q ∧ Hid (Row wx ab (L3.map (Value.int .i64))) ∧ Hid (L3.length = i ∧ ∀ p x, q ≤ p → L3[p]? = some x → 0 ≤ x ∧ x < (m : Int)) ∧ Hid (Ch (fun x => x = ob ∨ x = ab) w1 wx)) (fun _ _ qx _ => i - (intOf qx).toNat)
   case atStart => exact ⟨0, L, Nat.zero_le _, rfl, hR, ⟨hL.out.1, fun p x _ hx => hL.out.2 x (List.mem_of_getElem? hx)⟩, hC⟩
   case round =>
    clear hMX hOX hR hL hC
    obtain ⟨q, L3, hq, rfl, hR3, hL3, hC3⟩ := hrel
    by_cases hqn : q < i
    ·
     have HN3 := Lib.hid (HN1.out.ch (B := B) HLO.out hC3.out (fun x hx => by omega))
     obtain ⟨x, hx⟩ : ∃ x, L3[q]? = some x := by
      rw [List.getElem?_eq_getElem (by rw [hL3.out.1]; exact hqn)]
      exact ⟨_, rfl⟩
     have hxm := hL3.out.2 q x (Nat.le_refl _) hx
     obtain ⟨kx, rfl⟩ : ∃ kx : Nat, x = (kx : Int) := ⟨x.toNat, by omega⟩
     obtain ⟨s, c2, off2, hsx, hsa, hlb2, gx⟩ := HN3.out.rooms.get (i := kx) (by omega)
     have x0 : wr.cell? ⟨c2, off2 + kx * 6, none⟩ = some (.int .i64 s.id) := gx 0 _ rfl
     have n1 := HN3.out.row.cell 1 rfl
     rw [hsa] at n1
     have y0 := hR3.out.cell q (v := .int .i64 (kx : Int)) (by rw [List.getElem?_map, hx]; rfl)
     have y1 := hR3.out.frozen q
     have y2 := hR3.out.lt
     have j1 : (0 : Int) ≤ (q : Int) := by omega
     have j2 : (q : Int) < (i : Int) := by omega
     have j3 : (0 : Int) ≤ (kx : Int) := by omega
     have j4 : (kx : Int) < (m : Int) := by omega
     clear hsx hx gx
     go_wp2_with fail
     go_roundw
     case rel =>
      refine ⟨q + 1, L3.set q s.id, by omega, by go_num, hR3.out.setI q _, ⟨by rw [List.length_set]; exact hL3.out.1, fun p x hp hx => ?_⟩, hC3.out.setCell (Or.inr rfl) _⟩
      rw [List.getElem?_set_ne (by omega)] at hx
      exact hL3.out.2 p x (by omega) hx
     case measure => simp [intOf]; omega
    ·
     go_wp2_with fail
     go_ret
     refine ⟨⟨_, rfl⟩, ?_⟩
     exact Ch.over HB1.out hC3.out (fun k h => by omega)
end
end Go.Proofs.YtlmajlfhjbhdpaaGreat
