/-
  Package scene, third part: Count.
-/
import Derived.Test.YtdijdfhlmnhcjaaScnB
import Derived.Test.YtdijdfhlmnhcjaaShareB
import Derived.Test.YtdijdfhlmnhcjaaHeldQ
import Derived.Test.YtdijdfhlmnhcjaaTopA
namespace Go.Proofs.Ytdijdfhlmnhcjaa
set_option linter.unusedSimpArgs false
set_option linter.unusedVariables false
open Go.RowKit Go.MapKept

/-- A store into a slice of the call's own. -/
theorem OwnV.setC {w : World} {base g n cap : Nat} {zs : List Int} (h : OwnV w base (.slice (some ⟨g, 0, none⟩) n cap) zs) {i : Nat} (hi : i < zs.length) (x : Int) : OwnV (w.setCell ⟨g, i, none⟩ (.int .i64 x)) base (.slice (some ⟨g, 0, none⟩) n cap) (zs.set i x) := by
  obtain ⟨h1, h2⟩ := h
  rcases h2 with ⟨h0, _⟩ | ⟨g', cap', cur, e1, e2, e3, e4, e5, e6, e7⟩
  · simp at h0
  · simp only [Value.slice.injEq, Option.some.injEq, Addr.mk.injEq] at e1
    obtain ⟨⟨rfl, _⟩, rfl, rfl⟩ := e1
    refine ⟨by simp, Or.inr ⟨g, cap, cur.setIfInBounds i (.int .i64 x), by rw [List.length_set], e2, ?_, by rw [List.length_set]; exact e4, e5, by simpa using e6, ?_⟩⟩
    · simp [World.setCell, Array.getElem?_modify, e3]
    · rw [List.length_set, Array.toList_setIfInBounds, List.take_set, e7, List.map_set]
theorem OwnV.ownI {w : World} {base g n cap : Nat} {zs : List Int} (h : OwnV w base (.slice (some ⟨g, 0, none⟩) n cap) zs) : OwnI w g zs := by
  obtain ⟨h1, h2⟩ := h
  rcases h2 with ⟨h0, _⟩ | ⟨g', cap', cur, e1, e2, e3, e4, e5, e6, e7⟩
  · simp at h0
  · simp only [Value.slice.injEq, Option.some.injEq, Addr.mk.injEq] at e1
    obtain ⟨⟨rfl, _⟩, _, _⟩ := e1
    refine ⟨cur.toList.drop (zs.length * 1), 3, ?_⟩
    rw [← e7, List.take_append_drop]
    simpa using e3
theorem OwnV.zeros (w : World) {n : Nat} (hn : n ≤ maxLen) : OwnV (w.alloc (.cells (madeCells #[.int .i64 0] n) 3)) w.heap.size (.slice (some ⟨w.heap.size, 0, none⟩) n n) (List.replicate n 0) := by
  have h := World.ownsRow_lit (base := w.heap.size) (e := 3) (size := 1) w (madeCells #[.int .i64 0] n) n (Nat.le_refl _) hn (by rw [size_madeCells]; omega)
  unfold OwnV
  rw [List.length_replicate]
  have e : (madeCells #[.int .i64 0] n).toList = (List.replicate n (0 : Int)).map (Value.int .i64) := by
    refine List.ext_getElem? (fun i => ?_)
    rw [List.map_replicate]
    by_cases hi : i < n
    · simp [madeCells, hi, Nat.mod_one, List.getElem?_replicate]
    · simp [madeCells, hi, List.getElem?_replicate]
  rw [← e]
  exact h
theorem OwnV.lowC {w : World} {b0 base : Nat} {v : Value} {zs : List Int} (h : OwnV w base v zs) (hb : b0 ≤ base) : OwnV w b0 v zs := by
  obtain ⟨h1, h2⟩ := h
  rcases h2 with h2 | ⟨g, cap, cur, e1, e2, e3⟩
  · exact ⟨h1, Or.inl h2⟩
  · exact ⟨h1, Or.inr ⟨g, cap, cur, e1, by omega, e3⟩⟩
theorem OwnV.shape {w : World} {base : Nat} {ad : Option Addr} {n cap : Nat} {zs : List Int} (h : OwnV w base (.slice ad n cap) zs) : zs.length = n ∧ ((ad = none ∧ n = 0 ∧ cap = 0) ∨ ∃ g, ad = some ⟨g, 0, none⟩ ∧ base ≤ g ∧ g < w.heap.size) := by
  obtain ⟨h1, h2⟩ := h
  rcases h2 with ⟨h0, h3⟩ | ⟨g, cap', cur, e1, e2, e3, _⟩
  · simp only [Value.slice.injEq] at h0
    exact ⟨by omega, Or.inl h0⟩
  · simp only [Value.slice.injEq] at e1
    obtain ⟨rfl, rfl, rfl⟩ := e1
    exact ⟨rfl, Or.inr ⟨g, rfl, e2, (Array.getElem?_eq_some_iff.1 e3).1⟩⟩
theorem OwnV.sli {w : World} {base n cap : Nat} {a : Option Addr} {zs : List Int} (h : OwnV w base (.slice a n cap) zs) (hn : zs.length = n) : SlI w a n zs := by
  obtain ⟨ad, cp, e, h1, _, _⟩ := h.sl
  simp only [Value.slice.injEq] at e
  obtain ⟨rfl, rfl, rfl⟩ := e
  rw [hn] at h1
  exact h1
theorem OwnV.sizes {w : World} {base n cap : Nat} {a : Option Addr} {zs : List Int} (h : OwnV w base (.slice a n cap) zs) : n ≤ cap ∧ cap ≤ maxLen := by
  obtain ⟨ad, cp, e, _, h2, h3⟩ := h.sl
  simp only [Value.slice.injEq] at e
  obtain ⟨rfl, rfl, rfl⟩ := e
  exact ⟨h2, h3⟩

/-! Who stays away. -/
def strB (n : Int) : Bool := !inR n 1 1000000
set_option maxHeartbeats 800000 in
theorem strange_any (n : Int) (w : World) :
    Calls Try.prog 34 #[.int .i64 n] w fun e w' => e = .returned (.bool (strB n)) ∧ w' = w := by
  go_enter Try.func34, Try.ntmps34
  go_wp2_with fail
  refine (s_within _ _ _ _ _ rfl).mono ?_
  rintro e w' ⟨rfl, rfl⟩
  go_wp2_with fail
  go_ret
  exact ⟨rfl, rfl⟩
set_option maxHeartbeats 800000 in
theorem index_strange (a : Option Addr) (n cap : Nat) (zs : List Int) (w : World) (hm : n ≤ 9223372036854775807) (hs : SlI w a n zs) :
    Calls Try.prog 59 #[.slice a n cap, .func (.func 34) #[] #[]] w
      fun e w' => e = .returned (.int .i64 (idxB strB zs 0)) ∧ w' = w := by
  obtain ⟨R, hR⟩ : ∃ R, R = idxB strB zs 0 := ⟨_, rfl⟩
  rw [← hR]
  have HR := Lib.hid hR
  have hl := hs.1
  have HS := Lib.hid hs
  clear hR hs
  go_enter Try.func59, Try.ntmps59
  go_wp2_with fail
  go_loop [8] (fun i => ∃ k : Nat, k ≤ n ∧ i = .int .i64 k ∧ Hid (R = idxB strB (zs.drop k) k)) (fun i => n - (intOf i).toNat)
  case atStart => exact ⟨0, Nat.zero_le _, rfl, HR⟩
  case round =>
    obtain ⟨k, hk, rfl, hrk⟩ := hrel
    by_cases hlt : k < n
    · obtain ⟨b, off, z, rfl, hb, hck, hz, hd, _⟩ := HS.out.get hlt
      cases hp : strB z with
      | true =>
        go_wp2_with fail
        refine (strange_any z _).mono ?_
        rintro e w' ⟨rfl, rfl⟩
        rw [hp]
        go_wp2_with fail
        go_ret
        exact ⟨ret_int (by rw [hrk.out, hd.out]; simp [idxB, hp]), rfl⟩
      | false =>
        go_wp2_with fail
        refine (strange_any z _).mono ?_
        rintro e w' ⟨rfl, rfl⟩
        rw [hp]
        go_wp2_with fail
        go_round
        case rel => exact ⟨k + 1, by omega, by go_num, by show R = _; rw [hrk.out, hd.out]; simp [idxB, hp]⟩
        case measure => simp [intOf]; omega
    · obtain rfl : k = n := by omega
      go_wp2_with fail
      go_ret
      exact ⟨ret_int (by rw [hrk.out, List.drop_of_length_le (by omega)]; rfl), rfl⟩
set_option maxHeartbeats 400000 in
theorem contains_strange (a : Option Addr) (n cap : Nat) (zs : List Int) (w : World) (hm : n ≤ 9223372036854775807) (hs : SlI w a n zs) (b : Bool) (hb : zs.any strB = b) :
    Calls Try.prog 37 #[.slice a n cap, .func (.func 34) #[] #[]] w
      fun e w' => e = .returned (.bool b) ∧ w' = w := by
  have HS := Lib.hid hs
  clear hs
  cases b with
  | true =>
    have h0 := idxB_some (k := 0) hb
    clear hb
    go_enter Try.func37, Try.ntmps37
    go_wp2_with fail
    refine (index_strange _ _ _ zs _ hm HS.out).mono ?_
    rintro e w' ⟨rfl, rfl⟩
    go_wp2_with fail
    go_ret
    exact ⟨ret_bool (by simp), rfl⟩
  | false =>
    have h0 := Lib.hid (idxB_none (k := 0) hb)
    clear hb
    go_enter Try.func37, Try.ntmps37
    go_wp2_with fail
    refine (index_strange _ _ _ zs _ hm HS.out).mono ?_
    rintro e w' ⟨rfl, rfl⟩
    rw [h0.out]
    go_wp2_with fail
    go_ret
    exact ⟨rfl, rfl⟩

/-! How many are there. -/
def onS (i : Int) (x : SaleV) : Bool := decide (x.fr ≤ i) && decide (i < x.un)
def cntS (S : List SaleV) (i : Int) : Nat := (S.filter (onS i)).length
def keptS (S : List SaleV) (A : List Int) : List SaleV := S.filter (fun x => decide (x.id ∉ A))
/-- The list with f i at each i below n. -/
def tabI (n : Nat) (f : Nat → Int) : List Int := (List.range n).map f
theorem tabI_length (n : Nat) (f : Nat → Int) : (tabI n f).length = n := by simp [tabI]
theorem tabI_getD {n : Nat} {f : Nat → Int} {i : Nat} (h : i < n) : (tabI n f).getD i 0 = f i := by simp [tabI, List.getD, h]
theorem tabI_ext {n : Nat} {f g : Nat → Int} (h : ∀ i, i < n → f i = g i) : tabI n f = tabI n g := by
  unfold tabI
  exact List.map_congr_left (fun i hi => h i (List.mem_range.1 hi))
theorem tabI_set {n : Nat} {f : Nat → Int} {j : Nat} (v : Int) : (tabI n f).set j v = tabI n (fun i => if i = j then v else f i) := by
  refine List.ext_getElem? (fun i => ?_)
  by_cases hi : i < n
  · rw [List.getElem?_set]
    by_cases hji : j = i
    · subst hji
      simp [tabI, hi]
    · simp [tabI, hi, hji, Ne.symm hji]
  · simp [tabI, List.getElem?_set, hi]
theorem cntS_snoc (S : List SaleV) (x : SaleV) (i : Int) : cntS (S ++ [x]) i = cntS S i + (if onS i x then 1 else 0) := by
  unfold cntS
  rw [List.filter_append, List.length_append]
  cases h : onS i x <;> simp [h]
theorem keptS_take {S : List SaleV} {A : List Int} {k : Nat} {x : SaleV} (h : S[k]? = some x) : keptS (S.take (k + 1)) A = keptS (S.take k) A ++ (if x.id ∈ A then [] else [x]) := by
  obtain ⟨hk, e⟩ := List.getElem?_eq_some_iff.1 h
  unfold keptS
  rw [List.take_succ_eq_append_getElem hk, List.filter_append, e]
  by_cases hm : x.id ∈ A <;> simp [hm]
def roomAt (l : List NightV) (i : Nat) : Int := (l[i]?.map NightV.rooms).getD 0
/-- How many are too many. -/
def cntL (l : List NightV) (S : List SaleV) (A : List Int) : List Int := tabI l.length (fun i => if 0 < (cntS (keptS S A) i : Int) - roomAt l i then (cntS (keptS S A) i : Int) - roomAt l i else 0)

def cntB (l : List NightV) (S : List SaleV) (A : List Int) : Bool := nightsB l && (salesB S && (decide (A.length ≤ 3000) && !(A.any strB)))
set_option maxRecDepth 100000 in
set_option maxHeartbeats 1600000 in
theorem Count_err (a : Option Addr) (n cap : Nat) (l : List NightV) (b : Option Addr) (m bcap : Nat) (S : List SaleV) (c : Option Addr) (q ccap : Nat) (A : List Int) (w : World)
    (hn : n ≤ 9223372036854775807) (hm : m ≤ 9223372036854775807) (hq : q ≤ 9223372036854775807) (hs : SlN w a n l) (ht : SlS w b m S) (hu : SlI w c q A) (hwf : ∀ x ∈ S, -9223372036854775808 ≤ x.fr ∧ x.fr ≤ 9223372036854775807) (hB : cntB l S A = false) :
    Calls Try.prog 18 #[.slice a n cap, .slice b m bcap, .slice c q ccap] w fun e w' => e = .returned (.tuple #[.slice none 0 0, .int .i64 1]) ∧ Below w.heap.size w w' := by
  have HS := Lib.hid hs
  have HT := Lib.hid ht
  have HU := Lib.hid hu
  have HUL := Lib.hid hu.1
  have HW := Lib.hid hwf
  clear hs ht hu hwf
  go_enter Try.func18, Try.ntmps18
  go_wp2_with fail
  refine (share_valid_any a n cap l _ hn HS.out).mono ?_
  rintro e w1 ⟨rfl, hb1⟩
  have HB1 := Lib.hid hb1
  clear hb1
  cases h1 : nightsB l with
  | false =>
    go_wp2_with fail
    exact bodyPost_ret (v := .tuple #[.slice none 0 0, .int .i64 1]) (by simp [results, Try.results18, go_sem]) rfl ⟨rfl, HB1.out⟩
  | true =>
    go_wp2_with fail
    refine (areSales_any b m bcap S _ hm (HT.out.step HB1.out) HW.out _ rfl).mono ?_
    rintro e w2 ⟨rfl, hb2⟩
    have HB2 : Hid (Below w.heap.size w w2) := HB1.out.trans (hb2.mono HB1.out.size)
    clear hb2
    cases h2 : salesB S with
    | false =>
      go_wp2_with fail
      exact bodyPost_ret (v := .tuple #[.slice none 0 0, .int .i64 1]) (by simp [results, Try.results18, go_sem]) rfl ⟨rfl, HB2.out⟩
    | true =>
      by_cases h3 : q ≤ 3000
      · have h4 : A.any strB = true := by
          unfold cntB at hB
          rw [h1, h2, HUL.out, decide_eq_true h3] at hB
          simpa using hB
        go_wp2_with fail
        refine (contains_strange c q ccap A _ hq (HU.out.below HB2.out) true h4).mono ?_
        rintro e w' ⟨rfl, rfl⟩
        go_wp2_with fail
        exact bodyPost_ret (v := .tuple #[.slice none 0 0, .int .i64 1]) (by simp [results, Try.results18, go_sem]) rfl ⟨rfl, HB2.out⟩
      · have h5 : (3000 : Int) < (q : Int) := by omega
        go_wp2_with fail
        exact bodyPost_ret (v := .tuple #[.slice none 0 0, .int .i64 1]) (by simp [results, Try.results18, go_sem]) rfl ⟨rfl, HB2.out⟩

end Go.Proofs.Ytdijdfhlmnhcjaa
