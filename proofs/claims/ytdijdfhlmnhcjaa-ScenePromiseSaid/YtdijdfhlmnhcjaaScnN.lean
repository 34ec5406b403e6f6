/-
  Laws of scene: Count in short words; plain facts.
-/
import Derived.Test.YtdijdfhlmnhcjaaScnL
import Derived.Test.YtdijdfhlmnhcjaaOpenX
namespace Go.Proofs.Ytdijdfhlmnhcjaa
set_option linter.unusedSimpArgs false
set_option linter.unusedVariables false
open Go.RowKit Go.MapKept

theorem fewB_in {l : List NightV} {S : List SaleV} {A : List Int} (h : fewB l S A = true) : (∀ x ∈ l, x.zs.length ≤ 40) ∧ l.length ≤ 400 ∧ S.length ≤ 200 ∧ A.length ≤ 200 := by
  unfold fewB at h
  simp only [Bool.and_eq_true, decide_eq_true_eq, List.all_eq_true] at h
  exact ⟨h.1, h.2.1, h.2.2.1, h.2.2.2⟩
theorem cntB_nil {l : List NightV} {S : List SaleV} {A : List Int} (h : cntB l S A = true) : cntB l S [] = true := by
  obtain ⟨h1, h2, _, _⟩ := cntB_in h
  unfold cntB
  rw [h1, h2]
  rfl
theorem cntB_ids {l : List NightV} {S : List SaleV} {A : List Int} (h : cntB l S A = true) (hl : S.length ≤ 200) : cntB l S (S.map SaleV.id) = true := by
  obtain ⟨h1, h2, _, _⟩ := cntB_in h
  unfold cntB
  rw [h1, h2, List.length_map, decide_eq_true (by omega)]
  simp only [Bool.true_and, Bool.not_eq_true']
  rw [List.any_eq_false]
  intro z hz
  obtain ⟨x, hx, rfl⟩ := List.mem_map.1 hz
  have := (saleB_in ((salesB_in h2).1 x hx)).1
  simp [strB, inR]
  omega
theorem wf_fr {S : List SaleV} (h : ∀ x ∈ S, SaleWf x) : ∀ x ∈ S, -9223372036854775808 ≤ x.fr ∧ x.fr ≤ 9223372036854775807 := fun x hx => (h x hx).2.2.2.2.1
theorem Count_c (a : Option Addr) (n cap : Nat) (l : List NightV) (b : Option Addr) (m bcap : Nat) (S : List SaleV) (c : Option Addr) (q ccap : Nat) (A : List Int) (w : World)
    (hs : SlN w a n l) (ht : SlS w b m S) (hu : SlI w c q A) (hwf : ∀ x ∈ S, SaleWf x) (hB : cntB l S A = true) :
    Calls Try.prog 18 #[.slice a n cap, .slice b m bcap, .slice c q ccap] w fun e w' => ∃ g, e = .returned (.tuple #[.slice (some ⟨g, 0, none⟩) n n, .int .i64 0]) ∧ SlI w' (some ⟨g, 0, none⟩) n (cntL l S A) ∧ Below w.heap.size w w' := by
  have hl := hs.1
  refine (Count_ok a n cap l b m bcap S c q ccap A w hs ht hu (wf_fr hwf) hB).mono ?_
  rintro e w' ⟨g, rfl, hv, hb⟩
  exact ⟨g, rfl, hv.sli (by unfold cntL; rw [tabI_length, hl]), hb⟩
theorem cntL_length (l : List NightV) (S : List SaleV) (A : List Int) : (cntL l S A).length = l.length := tabI_length _ _
theorem cntL_get {l : List NightV} {S : List SaleV} {A : List Int} {i : Nat} (h : i < l.length) : (cntL l S A).getD i 0 = mxI ((cntS (keptS S A) i : Int) - roomAt l i) := tabI_getD h
theorem OwnV.form {w : World} {base : Nat} {v : Value} {zs : List Int} (h : OwnV w base v zs) {n : Nat} (hn : zs.length = n) : ∃ ad cap, v = .slice ad n cap := by
  obtain ⟨ad, cap, e, _⟩ := h.sl
  exact ⟨ad, cap, by rw [e, hn]⟩

/-- How many of the sales stay away on a night. -/
def awayC (S : List SaleV) (A : List Int) (i : Int) : Nat := (S.filter (fun x => decide (x.id ∈ A) && onS i x)).length
theorem awayC_take {S : List SaleV} {A : List Int} {i : Int} {k : Nat} {x : SaleV} (h : S[k]? = some x) : awayC (S.take (k + 1)) A i = awayC (S.take k) A i + if (decide (x.id ∈ A) && onS i x) = true then 1 else 0 := by
  obtain ⟨hk, e⟩ := List.getElem?_eq_some_iff.1 h
  unfold awayC
  rw [List.take_succ_eq_append_getElem hk, e, List.filter_append, List.length_append, List.filter_cons]
  split <;> simp
theorem awayC_le (S : List SaleV) (A : List Int) (i : Int) : awayC S A i ≤ S.length := List.length_filter_le _ _
theorem cnt_split (S : List SaleV) (A : List Int) (i : Int) : cntS (keptS S []) i = cntS (keptS S A) i + awayC S A i := by
  unfold cntS keptS awayC
  rw [List.filter_filter, List.filter_filter]
  induction S with
  | nil => rfl
  | cons x r ih =>
    simp only [List.filter_cons]
    by_cases h1 : onS i x = true
    · by_cases h2 : x.id ∈ A
      · simp [h1, h2] at ih ⊢; omega
      · simp [h1, h2] at ih ⊢; omega
    · simp [h1] at ih ⊢; omega
theorem kept_all (S : List SaleV) : keptS S (S.map SaleV.id) = [] := by
  unfold keptS
  rw [List.filter_eq_nil_iff]
  intro x hx
  simp
  exact ⟨x, hx, rfl⟩
theorem roomAt_nonneg {l : List NightV} (h : nightsB l = true) (i : Nat) : 0 ≤ roomAt l i ∧ roomAt l i ≤ 400 := by
  unfold roomAt
  cases hx : l[i]? with
  | none => simp
  | some x =>
    have := (nightB_nums ((nightsB_in h).2 x (List.mem_of_getElem? hx))).1
    simpa using this
theorem mxI_le {x y : Int} (h : x ≤ y) : mxI x ≤ mxI y := by unfold mxI; split <;> split <;> omega
/-- What SceneAway says of one night. -/
theorem away_law {l : List NightV} {S : List SaleV} {A : List Int} (h : nightsB l = true) (hS : S.length ≤ 200) {i : Nat} (hi : i < l.length) :
    (0 ≤ (cntL l S A).getD i 0 ∧ (cntL l S A).getD i 0 ≤ (cntL l S []).getD i 0) ∧ (cntL l S []).getD i 0 - (cntL l S A).getD i 0 ≤ awayC S A i ∧ (cntL l S (S.map SaleV.id)).getD i 0 = 0 ∧ (cntL l S []).getD i 0 ≤ 1000 := by
  have h1 := cnt_split S A i
  have h2 := (roomAt_nonneg h i).1
  have h3 : cntS (keptS S []) i ≤ S.length := Nat.le_trans (cntS_le _ _) (keptS_le _ _)
  rw [cntL_get hi, cntL_get hi, cntL_get hi, kept_all]
  refine ⟨⟨?_, mxI_le (by omega)⟩, ?_, ?_, ?_⟩
  · unfold mxI; split <;> omega
  · unfold mxI; split <;> split <;> omega
  · unfold mxI; simp [cntS]; omega
  · unfold mxI; split <;> omega

end Go.Proofs.Ytdijdfhlmnhcjaa
