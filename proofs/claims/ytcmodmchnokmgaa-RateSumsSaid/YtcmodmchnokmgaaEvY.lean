/-
  RateSums: the prices of a stay are those of its nights; what is kept is from 0 to all of it, and all of it, or nothing, if Keep is 1, or 0, for all rates.
  No condition: for every input (what is not few is not looked at).
-/
import Derived.Test.YtcmodmchnokmgaaEvW
import Derived.Test.YtcmodmchnokmgaaEvX
namespace Go.Proofs.Ytcmodmchnokmgaa
set_option linter.unusedSimpArgs false
set_option linter.unusedVariables false
open Go.ChangeShapes Go.WideShapes Go.ChangeAt Go.RowKit
attribute [local go_sem ↓] ld_eq st_eq
attribute [local go_sem] ldR_run ldV_drew ldV_alloc ldV_at16 stR_run sz16_rate stB_drew stB_at16 stW_at16 stB_set ldV_set stW_cell stW_frozen ldV_stW stB_stW

theorem sumLi_take {l : List Int} {k : Nat} (h : k < l.length) : sumLi (l.take (k + 1)) = sumLi (l.take k) + l.getD k 0 := by
  rw [take_succ_getD h, sumLi_snoc]
theorem sumLi_bound : ∀ {l : List Int}, (∀ z ∈ l, 0 ≤ z ∧ z ≤ 1000000000) → ∀ k, k ≤ l.length → 0 ≤ sumLi (l.take k) ∧ sumLi (l.take k) ≤ 1000000000 * (k : Int)
  | l, h, 0, _ => by simp [sumLi]
  | l, h, k + 1, hk => by
    have ih := sumLi_bound h k (by omega)
    rw [sumLi_take (by omega)]
    have hz : l.getD k 0 ∈ l := by
      rw [List.getD_eq_getElem?_getD, List.getElem?_eq_getElem (by omega)]; exact List.getElem_mem (by omega)
    have := h _ hz
    omega
set_option maxRecDepth 100000 in
set_option maxHeartbeats 1600000 in
theorem R_sum_any (a : Option Addr) (n cap : Nat) (zs : List Int) (w : World) (hn : n ≤ 1000) (hs : SlI w a n zs) (hz : ∀ z ∈ zs, 0 ≤ z ∧ z ≤ 1000000000) (S : Int) (hS : sumLi zs = S) :
    Calls Try.prog 30 #[.slice a n cap] w fun e w' => e = .returned (.int .i64 S) ∧ Below w.heap.size w w' := by
  have HS := Lib.hid hs
  have HL := Lib.hid hs.1
  have HZ := Lib.hid hz
  have HR := Lib.hid hS
  clear hs hz hS
  go_enter Try.func30, Try.ntmps30
  go_wp2_with fail
  go_loopw [3, 4] (fun v3 v4 wr => ∃ k : Nat, k ≤ n ∧ v3 = .int .i64 (sumLi (zs.take k)) ∧ v4 = .int .i64 k ∧ Hid (Below w.heap.size w wr)) (fun _ v4 _ => n - (intOf v4).toNat)
  case atStart => exact ⟨0, Nat.zero_le _, by simp [sumLi], rfl, Below.refl _ _⟩
  case round =>
    obtain ⟨k, hk, rfl, rfl, hB⟩ := hrel
    by_cases hlt : k < n
    · obtain ⟨b, off, z, rfl, hlb, c1, g1, _, hzm⟩ := (HS.out.below hB.out).get hlt
      have hb := sumLi_bound HZ.out k (by rw [HL.out]; omega)
      have hzb := HZ.out z hzm.out
      have HN : Hid (sumLi (zs.take k) + z = sumLi (zs.take (k + 1))) := by
        show _ = _
        rw [sumLi_take (by rw [HL.out]; exact hlt), g1.out]
      obtain ⟨s, hs⟩ : ∃ s, sumLi (zs.take k) = s := ⟨_, rfl⟩
      rw [hs] at hb HN ⊢
      obtain ⟨b1, b2⟩ := hb
      obtain ⟨z1, z2⟩ := hzb
      have i1 : (0 : Int) ≤ (k : Int) := by omega
      have i2 : (k : Int) < (n : Int) := by omega
      have b3 : s ≤ 1000000000000 := by omega
      clear hs b2
      go_wp2_with fail
      go_roundw
      case rel => exact ⟨k + 1, by omega, by rw [HN.out], by go_num, hB.out⟩
      case measure => simp [intOf]; omega
    · obtain rfl : n = k := by omega
      have HE : Hid (sumLi (zs.take n) = S) := by show _ = _; rw [List.take_of_length_le (by rw [HL.out]; exact Nat.le_refl _)]; exact HR.out
      rw [HE.out]
      go_wp2_with fail
      go_ret
      exact ⟨rfl, hB.out⟩

/-- Grown elsewhere. -/
theorem OwnR.grown {w w' : World} {base : Nat} {v : Value} {l : List RateV} (h : OwnR w base v l) {s : Option Nat} (hg : w.grownBy w' s) (hn : ∀ g, v.ownBlock = some g → s ≠ some g) : OwnR w' base v l := by
  refine ⟨h.1, ?_⟩
  rcases h.2 with h2 | ⟨g, cap, cur, rfl, e2, e3, e4⟩
  · exact Or.inl h2
  · exact Or.inr ⟨g, cap, cur, rfl, e2, (hg.block g (Array.getElem?_eq_some_iff.1 e3).1 (fun e => hn g rfl e.symm)).trans e3, e4⟩
/-- Block g holds the rates l, the first i of them changed by f. -/
def UpR (w : World) (g : Nat) (l : List RateV) (f : RateV → RateV) (i : Nat) : Prop := (∃ cur T, w.heap[g]? = some (.cells cur T)) ∧ ∀ (j : Nat) (x : RateV) (c : Nat) (u : Value), l[j]? = some x → (if j < i then f x else x).cells[c]? = some u → w.cell? ⟨g, j * 16 + c, none⟩ = some u
theorem UpR.lt {w : World} {g : Nat} {l : List RateV} {f : RateV → RateV} {i : Nat} (h : UpR w g l f i) : g < w.heap.size := by
  obtain ⟨⟨cur, T, e⟩, _⟩ := h
  exact (Array.getElem?_eq_some_iff.1 e).1
theorem UpR.frozen {w : World} {g : Nat} {l : List RateV} {f : RateV → RateV} {i : Nat} (h : UpR w g l f i) (o : Nat) : w.frozen? ⟨g, o, none⟩ = false := by
  obtain ⟨⟨cur, T, e⟩, _⟩ := h
  exact Row.frozen (cs := cur.toList) ⟨T, by simpa using e⟩ o
theorem UpR.of_block {w w' : World} {g : Nat} {l : List RateV} {f : RateV → RateV} {i : Nat} (h : UpR w g l f i) (e : w'.heap[g]? = w.heap[g]?) : UpR w' g l f i := by
  obtain ⟨⟨cur, T, e1⟩, h2⟩ := h
  exact ⟨⟨cur, T, e.trans e1⟩, fun j x c u hx hu => (World.cell?_of_block e).trans (h2 j x c u hx hu)⟩
theorem upR_of {w : World} {base : Nat} {v : Value} {l : List RateV} {n : Nat} (f : RateV → RateV) (h : OwnR w base v l) (hn : l.length = n) (h0 : 0 < n) : ∃ g cap, v = .slice (some ⟨g, 0, none⟩) n cap ∧ base ≤ g ∧ UpR w g l f 0 ∧ n ≤ cap ∧ cap ≤ maxLen := by
  subst hn
  obtain ⟨ad, cap, rfl, _, h4, h5⟩ := h.shape _ rfl
  obtain ⟨g, rfl, hg, _⟩ := h.cells (List.getElem?_eq_getElem h0)
  refine ⟨g, cap, rfl, hg, ⟨?_, fun j x c u hx hu => ?_⟩, h4, h5⟩
  · obtain ⟨_, h2⟩ := h
    rcases h2 with ⟨h2, h3⟩ | ⟨g', cap', cur, e1, e2, e3, _⟩
    · omega
    · cases e1
      exact ⟨cur, _, e3⟩
  · rw [if_neg (by omega)] at hu
    obtain ⟨g', e, _, hc⟩ := h.cells hx
    cases e
    have := hc c u hu
    rwa [Nat.zero_add] at this
theorem kp_cells (a b : Int) (x : RateV) (c : Nat) (h8 : c ≠ 8) (h9 : c ≠ 9) : (kpR a b x).cells[c]? = x.cells[c]? := by
  rcases Nat.lt_or_ge c 16 with hc | hc
  · have : c = 0 ∨ c = 1 ∨ c = 2 ∨ c = 3 ∨ c = 4 ∨ c = 5 ∨ c = 6 ∨ c = 7 ∨ c = 10 ∨ c = 11 ∨ c = 12 ∨ c = 13 ∨ c = 14 ∨ c = 15 := by omega
    rcases this with rfl | rfl | rfl | rfl | rfl | rfl | rfl | rfl | rfl | rfl | rfl | rfl | rfl | rfl <;> rfl
  · rw [List.getElem?_eq_none (by rw [RateV.cells_len]; exact hc), List.getElem?_eq_none (by rw [RateV.cells_len]; exact hc)]
theorem setCell_heap {w : World} {g o : Nat} {v : Value} {cur : Array Value} {T : TypeId} (e : w.heap[g]? = some (.cells cur T)) : (w.setCell ⟨g, o, none⟩ v).heap[g]? = some (.cells (cur.setIfInBounds o v) T) := by
  simp [World.setCell, Array.getElem?_modify, e]
theorem UpR.set {w : World} {g : Nat} {l : List RateV} {a b : Int} {i : Nat} {x : RateV} (h : UpR w g l (kpR a b) i) (hx : l[i]? = some x) :
    UpR ((w.setCell ⟨g, i * 16 + 8, none⟩ (.int .i64 a)).setCell ⟨g, i * 16 + 8 + 1, none⟩ (.int .i64 b)) g l (kpR a b) (i + 1) := by
  obtain ⟨⟨cur, T, e⟩, hc⟩ := h
  have e1 := setCell_heap (o := i * 16 + 8) (v := .int .i64 a) e
  have e2 := setCell_heap (o := i * 16 + 8 + 1) (v := .int .i64 b) e1
  refine ⟨⟨_, T, e2⟩, fun j y c u hy hu => ?_⟩
  have hc16 : c < 16 := by have := (List.getElem?_eq_some_iff.1 hu).1; rwa [RateV.cells_len] at this
  have hold : ∀ c' u', (if j < i then kpR a b y else y).cells[c']? = some u' → cur[j * 16 + c']? = some u' := fun c' u' h' => by
    have := hc j y c' u' hy h'
    simpa [World.cell?, e] using this
  have hnew : ∀ o, ((w.setCell ⟨g, i * 16 + 8, none⟩ (.int .i64 a)).setCell ⟨g, i * 16 + 8 + 1, none⟩ (.int .i64 b)).cell? ⟨g, o, none⟩ = ((cur.setIfInBounds (i * 16 + 8) (.int .i64 a)).setIfInBounds (i * 16 + 8 + 1) (.int .i64 b))[o]? := fun o => by
    simp [World.cell?, e2]
  rw [hnew]
  by_cases hji : j = i
  · subst hji
    rw [hx] at hy
    cases hy
    rw [if_pos (by omega)] at hu
    have h8 : cur[j * 16 + 8]? = some (.int .i64 x.kn) := hold 8 _ (by rw [if_neg (by omega)]; rfl)
    have h9 : cur[j * 16 + 9]? = some (.int .i64 x.kk) := hold 9 _ (by rw [if_neg (by omega)]; rfl)
    have s8 := (Array.getElem?_eq_some_iff.1 h8).1
    have s9 := (Array.getElem?_eq_some_iff.1 h9).1
    by_cases c8 : c = 8
    · subst c8
      have : u = .int .i64 a := by have h : some (Value.int .i64 a) = some u := hu; exact (Option.some.inj h).symm
      subst this
      rw [Array.getElem?_setIfInBounds_ne (by omega), Array.getElem?_setIfInBounds_self_of_lt s8]
    · by_cases c9 : c = 9
      · subst c9
        have : u = .int .i64 b := by have h : some (Value.int .i64 b) = some u := hu; exact (Option.some.inj h).symm
        subst this
        rw [show j * 16 + 9 = j * 16 + 8 + 1 by omega, Array.getElem?_setIfInBounds_self_of_lt (by simp; omega)]
      · rw [Array.getElem?_setIfInBounds_ne (by omega), Array.getElem?_setIfInBounds_ne (by omega)]
        rw [kp_cells a b x c c8 c9] at hu
        exact hold c u (by rw [if_neg (by omega)]; exact hu)
  · rw [Array.getElem?_setIfInBounds_ne (by omega), Array.getElem?_setIfInBounds_ne (by omega)]
    refine hold c u ?_
    by_cases hlt : j < i
    · rw [if_pos (by omega)] at hu; rw [if_pos hlt]; exact hu
    · rw [if_neg (by omega)] at hu; rw [if_neg hlt]; exact hu
theorem UpR.sl {w : World} {g n : Nat} {l : List RateV} {a b : Int} (h : UpR w g l (kpR a b) n) (hn : l.length = n) (hin : ∀ x ∈ l, x.In w) : SlR w (some ⟨g, 0, none⟩) n (l.map (kpR a b)) := by
  refine ⟨by rw [List.length_map, hn], fun i x hx => ?_⟩
  rw [List.getElem?_map] at hx
  obtain ⟨y, hy, rfl⟩ := Option.map_eq_some_iff.1 hx
  have hi : i < n := by rw [← hn]; exact (List.getElem?_eq_some_iff.1 hy).1
  refine ⟨hin y (List.mem_of_getElem? hy), g, 0, rfl, fun j v hj => ?_⟩
  rw [Nat.zero_add]
  exact h.2 i y j v hy (by rw [if_pos hi]; exact hj)
set_option maxRecDepth 100000 in
set_option maxHeartbeats 6400000 in
theorem sums_walk (a : Option Addr) (n cap : Nat) (l : List RateV) (k fr un ps : Int) (_ : ∀ y ∈ l, y.Wf) (wa : I64 k ∧ I64 fr ∧ I64 un ∧ I64 ps) (w : World) (hl : SlR w a n l ∧ n ≤ cap ∧ cap ≤ maxLen) :
    Calls Try.prog 11 #[.slice a n cap, .agg #[.int .i64 k, .int .i64 fr, .int .i64 un, .int .i64 ps]] w fun e w' => e = .returned (.bool true) ∧ Below w.heap.size w w' := by
  have HL := Lib.hid hl.1
  have HLN := Lib.hid hl.1.1
  have hm : n ≤ 9223372036854775807 := by have h1 := hl.2.1; have h2 := hl.2.2; unfold maxLen at h2; omega
  obtain ⟨p3, hp⟩ : ∃ p, fewR l = p := ⟨_, rfl⟩
  have P3 := Lib.hid hp
  obtain ⟨P, K, E, hpv⟩ : ∃ P K E, priceV l ⟨k, fr, un, ps⟩ = (P, K, E) := ⟨_, _, _, rfl⟩
  have HPV := Lib.hid hpv
  clear hp hl wa hpv
  go_enter Try.func11, Try.ntmps11
  go_wp2_with fail
  refine (head_any _).mono ?_
  rintro e w1 ⟨rfl, hb1⟩
  have R_a_1 : Row w1 (w.heap.size) [.int .i64 (k), .int .i64 (fr), .int .i64 (un), .int .i64 (ps)] := by (repeat' (first | (with_reducible assumption) | (with_reducible refine Row.new' _ _ _ (by first | rfl | (simp; done) | omega)) | (with_reducible refine Row.alloc ?_ _) | (with_reducible refine Row.drew ?_) | (with_reducible refine Row.drewN ?_ _) | (with_reducible refine Row.step ?_ (by with_reducible assumption)) | (with_reducible refine Row.set2' ?_ _ _; first | exact ⟨_, _, by with_reducible assumption⟩ | exact ⟨_, _, Row.alloc (by with_reducible assumption) _⟩ | exact ⟨_, _, Row.alloc (Row.alloc (by with_reducible assumption) _) _⟩) | (with_reducible refine Row.other ?_ (by first | omega | (simp; done) | (simp; omega)) _)))
  have c_a_0_1 := R_a_1.cell 0 rfl
  have c_a_1_1 := R_a_1.cell 1 rfl
  have c_a_2_1 := R_a_1.cell 2 rfl
  have c_a_3_1 := R_a_1.cell 3 rfl
  have l_a_1 := R_a_1.lt
  have HB1 : Below w.heap.size w w1 := by (repeat' (first | (with_reducible exact Below.refl _ _) | (with_reducible assumption) | (with_reducible exact Bw.out (by with_reducible assumption)) | (with_reducible refine bw_alloc ?_ _) | (with_reducible refine bw_step ?_ (by with_reducible assumption)) | (with_reducible refine Below.alloc ?_ ?_ _) | (with_reducible refine Below.drew ?_) | (with_reducible refine below_drewN ?_ _) | (with_reducible refine Below.setCell ?_ ?_ _) | (with_reducible refine below_step ?_ (by with_reducible assumption) ?_) | (with_reducible exact Nat.le_refl _) | omega | (simp; omega) | (simp; done)))
  go_wp2_with fail
  refine (R_fewR_p a n cap l _ hm (HL.out.step HB1) p3 P3.out).mono ?_
  rintro e w2 ⟨rfl, hb2⟩
  have R_a_2 : Row w2 (w.heap.size) [.int .i64 (k), .int .i64 (fr), .int .i64 (un), .int .i64 (ps)] := by (repeat' (first | (with_reducible assumption) | (with_reducible refine Row.new' _ _ _ (by first | rfl | (simp; done) | omega)) | (with_reducible refine Row.alloc ?_ _) | (with_reducible refine Row.drew ?_) | (with_reducible refine Row.drewN ?_ _) | (with_reducible refine Row.step ?_ (by with_reducible assumption)) | (with_reducible refine Row.set2' ?_ _ _; first | exact ⟨_, _, by with_reducible assumption⟩ | exact ⟨_, _, Row.alloc (by with_reducible assumption) _⟩ | exact ⟨_, _, Row.alloc (Row.alloc (by with_reducible assumption) _) _⟩) | (with_reducible refine Row.other ?_ (by first | omega | (simp; done) | (simp; omega)) _)))
  have c_a_0_2 := R_a_2.cell 0 rfl
  have c_a_1_2 := R_a_2.cell 1 rfl
  have c_a_2_2 := R_a_2.cell 2 rfl
  have c_a_3_2 := R_a_2.cell 3 rfl
  have l_a_2 := R_a_2.lt
  have HB2 : Below w.heap.size w w2 := by (repeat' (first | (with_reducible exact Below.refl _ _) | (with_reducible assumption) | (with_reducible exact Bw.out (by with_reducible assumption)) | (with_reducible refine bw_alloc ?_ _) | (with_reducible refine bw_step ?_ (by with_reducible assumption)) | (with_reducible refine Below.alloc ?_ ?_ _) | (with_reducible refine Below.drew ?_) | (with_reducible refine below_drewN ?_ _) | (with_reducible refine Below.setCell ?_ ?_ _) | (with_reducible refine below_step ?_ (by with_reducible assumption) ?_) | (with_reducible exact Nat.le_refl _) | omega | (simp; omega) | (simp; done)))
  clear R_a_1 c_a_0_1 c_a_1_1 c_a_2_1 c_a_3_1 hb1 HB1
  cases p3 with
  | false =>
    go_wp2_with fail
    go_ret
    refine ⟨(by first | rfl | exact ret_bool (by first | rfl | (simp; done) | (simp; omega))), ?_⟩
    (repeat' (first | (with_reducible exact Below.refl _ _) | (with_reducible assumption) | (with_reducible exact Bw.out (by with_reducible assumption)) | (with_reducible refine bw_alloc ?_ _) | (with_reducible refine bw_step ?_ (by with_reducible assumption)) | (with_reducible refine Below.alloc ?_ ?_ _) | (with_reducible refine Below.drew ?_) | (with_reducible refine below_drewN ?_ _) | (with_reducible refine Below.setCell ?_ ?_ _) | (with_reducible refine below_step ?_ (by with_reducible assumption) ?_) | (with_reducible exact Nat.le_refl _) | omega | (simp; omega) | (simp; done)))
  | true =>
    have hn105 := few_105 P3.out HLN.out
    go_wp2_with fail
    refine (Price_any a n cap l k fr un ps _ (HL.out.step HB2) hm P K E HPV.out).mono ?_
    rintro e w3 ⟨v, rfl, hv, hb3⟩
    have R_a_3 : Row w3 (w.heap.size) [.int .i64 (k), .int .i64 (fr), .int .i64 (un), .int .i64 (ps)] := by (repeat' (first | (with_reducible assumption) | (with_reducible refine Row.new' _ _ _ (by first | rfl | (simp; done) | omega)) | (with_reducible refine Row.alloc ?_ _) | (with_reducible refine Row.drew ?_) | (with_reducible refine Row.drewN ?_ _) | (with_reducible refine Row.step ?_ (by with_reducible assumption)) | (with_reducible refine Row.set2' ?_ _ _; first | exact ⟨_, _, by with_reducible assumption⟩ | exact ⟨_, _, Row.alloc (by with_reducible assumption) _⟩ | exact ⟨_, _, Row.alloc (Row.alloc (by with_reducible assumption) _) _⟩) | (with_reducible refine Row.other ?_ (by first | omega | (simp; done) | (simp; omega)) _)))
    have c_a_0_3 := R_a_3.cell 0 rfl
    have c_a_1_3 := R_a_3.cell 1 rfl
    have c_a_2_3 := R_a_3.cell 2 rfl
    have c_a_3_3 := R_a_3.cell 3 rfl
    have l_a_3 := R_a_3.lt
    have HB3 : Below w.heap.size w w3 := by (repeat' (first | (with_reducible exact Below.refl _ _) | (with_reducible assumption) | (with_reducible exact Bw.out (by with_reducible assumption)) | (with_reducible refine bw_alloc ?_ _) | (with_reducible refine bw_step ?_ (by with_reducible assumption)) | (with_reducible refine Below.alloc ?_ ?_ _) | (with_reducible refine Below.drew ?_) | (with_reducible refine below_drewN ?_ _) | (with_reducible refine Below.setCell ?_ ?_ _) | (with_reducible refine below_step ?_ (by with_reducible assumption) ?_) | (with_reducible exact Nat.le_refl _) | omega | (simp; omega) | (simp; done)))
    clear R_a_2 c_a_0_2 c_a_1_2 c_a_2_2 c_a_3_2 hb2 HB2
    by_cases hE : E = 0
    · subst hE
      obtain ⟨_, t2, t3, t4, ⟨P1, t5⟩, ⟨P2, t6⟩, t7, t8, t9, t10, t11⟩ := priceV_sums HPV.out
      obtain ⟨⟨f1, f2, f3, f4⟩, _, _⟩ := askB_in t2
      simp only at f1 f2 f3 f4
      obtain ⟨M, hM⟩ : ∃ M, (⟨k, fr, un, ps⟩ : AskV).len = M := ⟨_, rfl⟩
      rw [hM] at t3 t4
      have hMu : (M : Int) = un - fr := by rw [← hM]; show ((un - fr).toNat : Int) = _; omega
      have hMM : ((M : Int) != un - fr) = false := by simp [hMu]
      have hM60 : M ≤ 60 := by omega
      have T4 := Lib.hid t4
      have HPL := Lib.hid t3
      have T5 := Lib.hid t5
      have T6 := Lib.hid t6
      have T10 := Lib.hid t10
      have HMU := Lib.hid hMu
      obtain ⟨ad, cp, rfl, hv⟩ := hv.form t3
      have hvi : SlI w3 ad M P := by
        obtain ⟨ad', cp', e, h1, _⟩ := hv
        rw [t3] at e h1
        cases e
        exact h1
      have HVI := Lib.hid hvi
      have hv' := Lib.hid hv
      have hn0 : 0 < n := by
        rcases Nat.eq_zero_or_pos n with h | h
        · exact (t11 (List.eq_nil_of_length_eq_zero (by rw [HLN.out, h]))).elim
        · exact h
      have HB3' := Lib.hid HB3
      have hsz3 := HB3.size
      obtain ⟨b0, off0, ha⟩ : ∃ b0 off0, a = some ⟨b0, off0, none⟩ := by
        obtain ⟨_, b0, off0, _, e, _⟩ := HL.out.get hn0
        exact ⟨b0, off0, e⟩
      subst ha
      clear t4 t5 t6 t10 t11 hM hMu hv hvi t3
      go_wp2_with fail
      go_loopw [5, 9] (fun v5 v9 wr => ∃ q : Nat, q ≤ M ∧ v5 = .bool true ∧ v9 = .int .i64 q ∧ Hid (Below w3.heap.size w3 wr)) (fun _ v9 _ => M - (intOf v9).toNat)
      case atStart => exact ⟨0, Nat.zero_le _, rfl, rfl, Below.refl _ _⟩
      case round =>
        obtain ⟨q, hq, rfl, rfl, hB⟩ := hrel
        by_cases hlt : q < M
        · obtain ⟨I, hI⟩ := T4.out q hlt
          obtain ⟨b, off, z, rfl, hlb, c1, g1, _, hzm⟩ := (HVI.out.below hB.out).get hlt
          rw [g1.out] at hI
          have HI : Hid (nightV l ⟨k, fr, un, ps⟩ (fr + q) = (z, I, 0)) := hI
          have HVI2 := Lib.hid (HVI.out)
          have hun5 : fr + q < un := by have := HMU.out; omega
          have RA := R_a_3.step hB.out
          have a0 := RA.cell 0 rfl
          have a1 := RA.cell 1 rfl
          have a2 := RA.cell 2 rfl
          have a3 := RA.cell 3 rfl
          have al := RA.lt
          have i1 : (0 : Int) ≤ (q : Int) := by omega
          have i2 : (q : Int) < (M : Int) := by omega
          have HBw : Hid (Below w.heap.size w wr) := HB3'.out.trans (hB.out.mono hsz3)
          have hsB := hB.out.size
          have HZ := Lib.hid g1.out
          clear hI g1 c1
          go_wp2_with fail
          refine (Night_any (some ⟨b0, off0, none⟩) n cap l k fr un ps (fr + q) wr (HL.out.step HBw.out) hm z I 0 HI.out).mono ?_
          rintro e w4 ⟨rfl, hb4⟩
          have HB4 : Hid (Below w3.heap.size w3 w4) := hB.out.trans (hb4.mono hsB)
          obtain ⟨b', off', z', e', _, c1, g1, _, _⟩ := (HVI.out.below HB4.out).get hlt
          cases e'
          clear hb4 a0 a1 a2 a3 al
          have e1 : z' = z := g1.out.symm.trans HZ.out
          subst e1
          go_wp2_with fail
          go_roundw
          case rel => exact ⟨q + 1, by omega, rfl, by go_num, HB4.out⟩
          case measure => simp [intOf]; omega
        · obtain rfl : M = q := by omega
          obtain ⟨w4, hw4⟩ : ∃ wd, wd = wr := ⟨_, rfl⟩
          subst hw4
          have hb4 := hB.out
          have R_a_4 : Row w4 (w.heap.size) [.int .i64 (k), .int .i64 (fr), .int .i64 (un), .int .i64 (ps)] := by (repeat' (first | (with_reducible assumption) | (with_reducible refine Row.new' _ _ _ (by first | rfl | (simp; done) | omega)) | (with_reducible refine Row.alloc ?_ _) | (with_reducible refine Row.drew ?_) | (with_reducible refine Row.drewN ?_ _) | (with_reducible refine Row.step ?_ (by with_reducible assumption)) | (with_reducible refine Row.set2' ?_ _ _; first | exact ⟨_, _, by with_reducible assumption⟩ | exact ⟨_, _, Row.alloc (by with_reducible assumption) _⟩ | exact ⟨_, _, Row.alloc (Row.alloc (by with_reducible assumption) _) _⟩) | (with_reducible refine Row.other ?_ (by first | omega | (simp; done) | (simp; omega)) _)))
          have c_a_0_4 := R_a_4.cell 0 rfl
          have c_a_1_4 := R_a_4.cell 1 rfl
          have c_a_2_4 := R_a_4.cell 2 rfl
          have c_a_3_4 := R_a_4.cell 3 rfl
          have l_a_4 := R_a_4.lt
          have HB4 : Below w.heap.size w w4 := by (repeat' (first | (with_reducible exact Below.refl _ _) | (with_reducible assumption) | (with_reducible exact Bw.out (by with_reducible assumption)) | (with_reducible refine bw_alloc ?_ _) | (with_reducible refine bw_step ?_ (by with_reducible assumption)) | (with_reducible refine Below.alloc ?_ ?_ _) | (with_reducible refine Below.drew ?_) | (with_reducible refine below_drewN ?_ _) | (with_reducible refine Below.setCell ?_ ?_ _) | (with_reducible refine below_step ?_ (by with_reducible assumption) ?_) | (with_reducible exact Nat.le_refl _) | omega | (simp; omega) | (simp; done)))
          clear R_a_3 c_a_0_3 c_a_1_3 c_a_2_3 c_a_3_3 hb3 HB3
          have hsz4 := HB4.size
          have HL4 : Hid (SlR w4 (some ⟨b0, off0, none⟩) n l) := HL.out.step HB4
          go_upto_region 15 with (at_builtin; first
            | (refine wpList_append_Rs rfl (.tmp 85) (.tmp 86) _ rfl Try.underlying31 w4.heap.size _ [] rfl (OwnR.made w4 _ (Nat.le_refl _)) b0 off0 n cap l rfl (HL4.out.step ((Below.refl _ _).alloc (Nat.le_refl _) _)) (by rw [List.length_nil]; omega) (by simp) ?_; intro v1 wA hown1 hgr1 hor1 hbl1; rw [List.nil_append] at hown1)
            | (refine wpList_append_Rs rfl (.tmp 88) (.tmp 89) _ rfl Try.underlying31 w4.heap.size _ [] rfl (OwnR.made wA _ (hbl1 w4 ((Below.refl _ _).alloc (Nat.le_refl _) _)).size) b0 off0 n cap l rfl (HL4.out.step ((hbl1 w4 ((Below.refl _ _).alloc (Nat.le_refl _) _)).alloc (hbl1 w4 ((Below.refl _ _).alloc (Nat.le_refl _) _)).size _)) (by rw [List.length_nil]; omega) (by have := (hbl1 w4 ((Below.refl _ _).alloc (Nat.le_refl _) _)).size; simp; omega) ?_; intro v2 w5 hown2 hgr2 hor2 hbl2; rw [List.nil_append] at hown2))
          have hbA : Below w4.heap.size w4 wA := hbl1 w4 ((Below.refl _ _).alloc (Nat.le_refl _) _)
          have hb5 : Below w4.heap.size w4 w5 := hbl2 w4 (hbA.alloc hbA.size _)
          have O1 : OwnR w5 w4.heap.size v1 l := (hown1.alloc _).grown hgr2 (fun g hg e => by
            have h1 := (hown1.lt hg).2
            have h2 : some wA.heap.size = some g := e
            have h3 := Option.some.inj h2
            omega)
          obtain ⟨g1, cp1, rfl, hg1, U1, k1, k2⟩ := upR_of (kpR 1 1) O1 HLN.out hn0
          obtain ⟨g2, cp2, rfl, hg2, U2, k3, k4⟩ := upR_of (kpR 0 1) hown2 HLN.out hn0
          have hne : g1 < g2 := by
            have h1 := (hown1.lt (g := g1) rfl).2
            rcases hor2 with e | e
            · have h2 : some g2 = some wA.heap.size := e
              have h3 := Option.some.inj h2
              omega
            · have h2 : some g2 = some (wA.alloc (.cells #[] 30)).heap.size := e
              have h3 := Option.some.inj h2
              rw [World.size_alloc] at h3
              omega
          have HU1 := Lib.hid U1
          have HU2 := Lib.hid U2
          have hs5 := hb5.size
          clear hown1 hgr1 hor1 hbl1 hown2 hgr2 hor2 hbl2 hbA O1 U1 U2
          have R_a_5 : Row w5 (w.heap.size) [.int .i64 (k), .int .i64 (fr), .int .i64 (un), .int .i64 (ps)] := R_a_4.below hb5 (by omega)
          have c_a_0_5 := R_a_5.cell 0 rfl
          have c_a_1_5 := R_a_5.cell 1 rfl
          have c_a_2_5 := R_a_5.cell 2 rfl
          have c_a_3_5 := R_a_5.cell 3 rfl
          have l_a_5 := R_a_5.lt
          have HB5 : Below w.heap.size w w5 := HB4.trans (hb5.mono (by omega))
          clear R_a_4 c_a_0_4 c_a_1_4 c_a_2_4 c_a_3_4 hb4 HB4
          have HB45 := Lib.hid hb5
          have hcm1 : cp1 ≤ 9223372036854775807 := by unfold maxLen at k2; omega
          have hcm2 : cp2 ≤ 9223372036854775807 := by unfold maxLen at k4; omega
          clear k2 k4
          go_wp2_with fail
          go_loopw [15] (fun v15 wr => ∃ i : Nat, i ≤ n ∧ v15 = .int .i64 i ∧ Hid (UpR wr g1 l (kpR 1 1) i) ∧ Hid (UpR wr g2 l (kpR 0 1) i) ∧ Hid (Below w4.heap.size w5 wr)) (fun v15 _ => n - (intOf v15).toNat)
          case atStart => exact ⟨0, Nat.zero_le _, rfl, HU1.out, HU2.out, (Below.refl _ _).mono hs5⟩
          case round =>
            obtain ⟨i, hi, rfl, hU1, hU2, hC⟩ := hrel
            by_cases hlt2 : i < n
            · obtain ⟨x, _, _, hx, _, _, _, _⟩ := HL4.out.get hlt2
              have c8 : wr.cell? ⟨g1, i * 16 + 8, none⟩ = some (.int .i64 x.kn) := hU1.out.2 i x 8 _ hx.out (by rw [if_neg (by omega)]; rfl)
              have c9 : wr.cell? ⟨g1, i * 16 + 8 + 1, none⟩ = some (.int .i64 x.kk) := hU1.out.2 i x 9 _ hx.out (by rw [if_neg (by omega)]; rfl)
              have d8 : wr.cell? ⟨g2, i * 16 + 8, none⟩ = some (.int .i64 x.kn) := hU2.out.2 i x 8 _ hx.out (by rw [if_neg (by omega)]; rfl)
              have d9 : wr.cell? ⟨g2, i * 16 + 8 + 1, none⟩ = some (.int .i64 x.kk) := hU2.out.2 i x 9 _ hx.out (by rw [if_neg (by omega)]; rfl)
              have f8 := hU1.out.frozen (i * 16 + 8)
              have f9 := hU1.out.frozen (i * 16 + 8 + 1)
              have j8 := hU2.out.frozen (i * 16 + 8)
              have j9 := hU2.out.frozen (i * 16 + 8 + 1)
              have u1 := hU1.out.lt
              have u2 := hU2.out.lt
              have i1 : (0 : Int) ≤ (i : Int) := by omega
              have i2 : (i : Int) < (n : Int) := by omega
              have hsC := hC.out.size
              go_upto_region 17 with fail
              have C1 : Ch (fun k => k = g1) wr ((wr.setCell ⟨g1, i * 16 + 8, none⟩ (.int .i64 1)).setCell ⟨g1, i * 16 + 8 + 1, none⟩ (.int .i64 1)) := ((Ch.refl (fun k => k = g1) wr).setCell (p := ⟨g1, i * 16 + 8, none⟩) rfl _).setCell (p := ⟨g1, i * 16 + 8 + 1, none⟩) rfl _
              have S1 := hU1.out.set hx.out
              have S2 := hU2.out.of_block (C1.2.2.2.2 g2 u2 (by omega))
              obtain ⟨wB, hwB⟩ : ∃ X, (wr.setCell ⟨g1, i * 16 + 8, none⟩ (.int .i64 1)).setCell ⟨g1, i * 16 + 8 + 1, none⟩ (.int .i64 1) = X := ⟨_, rfl⟩
              rw [hwB] at C1 S1 S2 ⊢
              have C2 : Ch (fun k => k = g2) wB ((wB.setCell ⟨g2, i * 16 + 8, none⟩ (.int .i64 0)).setCell ⟨g2, i * 16 + 8 + 1, none⟩ (.int .i64 1)) := ((Ch.refl (fun k => k = g2) wB).setCell (p := ⟨g2, i * 16 + 8, none⟩) rfl _).setCell (p := ⟨g2, i * 16 + 8 + 1, none⟩) rfl _
              have S3 := S2.set hx.out
              have S4 := S1.of_block (C2.2.2.2.2 g1 S1.lt (by omega))
              have S5 : Below w4.heap.size w5 wB := C1.below hC.out (fun k hk => by omega) (by omega)
              have S6 := C2.below S5 (fun k hk => by omega) (by have := S5.size; omega)
              obtain ⟨wC, hwC⟩ : ∃ X, (wB.setCell ⟨g2, i * 16 + 8, none⟩ (.int .i64 0)).setCell ⟨g2, i * 16 + 8 + 1, none⟩ (.int .i64 1) = X := ⟨_, rfl⟩
              rw [hwC] at S3 S4 S6 ⊢
              have H3 := Lib.hid S3
              have H4 := Lib.hid S4
              have H6 := Lib.hid S6
              clear hwB hwC C1 C2 S1 S2 S3 S4 S5 S6 c8 c9 d8 d9 f8 f9 j8 j9 u1 u2
              go_wp2_with fail
              go_roundw
              case rel => exact ⟨i + 1, by omega, by go_num, H4.out, H3.out, H6.out⟩
              case measure => simp [intOf]; omega
            · obtain rfl : n = i := by omega
              obtain ⟨w6, hw6⟩ : ∃ wd, wd = wr := ⟨_, rfl⟩
              subst hw6
              have hb6 := hC.out
              have hW : Below w3.heap.size w3 w6 := hB.out.trans ((HB45.out.trans hb6).mono hB.out.size)
              have hv6 : SlV w6 (.slice ad M cp) P := hv'.out.step hW
              have R_a_6 : Row w6 (w.heap.size) [.int .i64 (k), .int .i64 (fr), .int .i64 (un), .int .i64 (ps)] := R_a_5.below hb6 (by omega)
              have c_a_0_6 := R_a_6.cell 0 rfl
              have c_a_1_6 := R_a_6.cell 1 rfl
              have c_a_2_6 := R_a_6.cell 2 rfl
              have c_a_3_6 := R_a_6.cell 3 rfl
              have l_a_6 := R_a_6.lt
              have HB6 : Below w.heap.size w w6 := HB5.trans (hb6.mono (by omega))
              clear R_a_5 c_a_0_5 c_a_1_5 c_a_2_5 c_a_3_5 hb5 HB5
              have hin6 : ∀ x ∈ l, x.In w6 := fun x hx => by
                obtain ⟨j, hj⟩ := List.mem_iff_getElem?.1 hx
                exact ((HL.out.step HB6).2 j x hj).1
              have hr1 : SlR w6 (some ⟨g1, 0, none⟩) n (l.map (kpR 1 1)) := hU1.out.sl HLN.out hin6
              have hr2 : SlR w6 (some ⟨g2, 0, none⟩) n (l.map (kpR 0 1)) := hU2.out.sl HLN.out hin6
              clear hU1 hU2 hin6 hW
              obtain ⟨S, hS⟩ : ∃ S, sumLi P = S := ⟨_, rfl⟩
              have HSS := Lib.hid hS
              rw [hS] at t8 t9
              clear hS
              go_wp2_with fail
              refine (Price_any (some ⟨g1, 0, none⟩) n cp1 (l.map (kpR 1 1)) k fr un ps _ hr1 hm P1 S 0 (by have h := T5.out; rw [HSS.out] at h; exact h)).mono ?_
              rintro e w7 ⟨v1, rfl, _, hb7⟩
              have R_a_7 : Row w7 (w.heap.size) [.int .i64 (k), .int .i64 (fr), .int .i64 (un), .int .i64 (ps)] := by (repeat' (first | (with_reducible assumption) | (with_reducible refine Row.new' _ _ _ (by first | rfl | (simp; done) | omega)) | (with_reducible refine Row.alloc ?_ _) | (with_reducible refine Row.drew ?_) | (with_reducible refine Row.drewN ?_ _) | (with_reducible refine Row.step ?_ (by with_reducible assumption)) | (with_reducible refine Row.set2' ?_ _ _; first | exact ⟨_, _, by with_reducible assumption⟩ | exact ⟨_, _, Row.alloc (by with_reducible assumption) _⟩ | exact ⟨_, _, Row.alloc (Row.alloc (by with_reducible assumption) _) _⟩) | (with_reducible refine Row.other ?_ (by first | omega | (simp; done) | (simp; omega)) _)))
              have c_a_0_7 := R_a_7.cell 0 rfl
              have c_a_1_7 := R_a_7.cell 1 rfl
              have c_a_2_7 := R_a_7.cell 2 rfl
              have c_a_3_7 := R_a_7.cell 3 rfl
              have l_a_7 := R_a_7.lt
              replace hv6 := hv6.step (show Below w6.heap.size w6 w7 by (repeat' (first | (with_reducible exact Below.refl _ _) | (with_reducible assumption) | (with_reducible exact Bw.out (by with_reducible assumption)) | (with_reducible refine bw_alloc ?_ _) | (with_reducible refine bw_step ?_ (by with_reducible assumption)) | (with_reducible refine Below.alloc ?_ ?_ _) | (with_reducible refine Below.drew ?_) | (with_reducible refine below_drewN ?_ _) | (with_reducible refine Below.setCell ?_ ?_ _) | (with_reducible refine below_step ?_ (by with_reducible assumption) ?_) | (with_reducible exact Nat.le_refl _) | omega | (simp; omega) | (simp; done))))
              replace hr2 := hr2.step (show Below w6.heap.size w6 w7 by (repeat' (first | (with_reducible exact Below.refl _ _) | (with_reducible assumption) | (with_reducible exact Bw.out (by with_reducible assumption)) | (with_reducible refine bw_alloc ?_ _) | (with_reducible refine bw_step ?_ (by with_reducible assumption)) | (with_reducible refine Below.alloc ?_ ?_ _) | (with_reducible refine Below.drew ?_) | (with_reducible refine below_drewN ?_ _) | (with_reducible refine Below.setCell ?_ ?_ _) | (with_reducible refine below_step ?_ (by with_reducible assumption) ?_) | (with_reducible exact Nat.le_refl _) | omega | (simp; omega) | (simp; done))))
              have HB7 : Below w.heap.size w w7 := by (repeat' (first | (with_reducible exact Below.refl _ _) | (with_reducible assumption) | (with_reducible exact Bw.out (by with_reducible assumption)) | (with_reducible refine bw_alloc ?_ _) | (with_reducible refine bw_step ?_ (by with_reducible assumption)) | (with_reducible refine Below.alloc ?_ ?_ _) | (with_reducible refine Below.drew ?_) | (with_reducible refine below_drewN ?_ _) | (with_reducible refine Below.setCell ?_ ?_ _) | (with_reducible refine below_step ?_ (by with_reducible assumption) ?_) | (with_reducible exact Nat.le_refl _) | omega | (simp; omega) | (simp; done)))
              clear R_a_6 c_a_0_6 c_a_1_6 c_a_2_6 c_a_3_6 hb6 HB6
              clear hr1
              go_wp2_with fail
              refine (Price_any (some ⟨g2, 0, none⟩) n cp2 (l.map (kpR 0 1)) k fr un ps _ hr2 hm P2 0 0 T6.out).mono ?_
              rintro e w8 ⟨v2, rfl, _, hb8⟩
              have R_a_8 : Row w8 (w.heap.size) [.int .i64 (k), .int .i64 (fr), .int .i64 (un), .int .i64 (ps)] := by (repeat' (first | (with_reducible assumption) | (with_reducible refine Row.new' _ _ _ (by first | rfl | (simp; done) | omega)) | (with_reducible refine Row.alloc ?_ _) | (with_reducible refine Row.drew ?_) | (with_reducible refine Row.drewN ?_ _) | (with_reducible refine Row.step ?_ (by with_reducible assumption)) | (with_reducible refine Row.set2' ?_ _ _; first | exact ⟨_, _, by with_reducible assumption⟩ | exact ⟨_, _, Row.alloc (by with_reducible assumption) _⟩ | exact ⟨_, _, Row.alloc (Row.alloc (by with_reducible assumption) _) _⟩) | (with_reducible refine Row.other ?_ (by first | omega | (simp; done) | (simp; omega)) _)))
              have c_a_0_8 := R_a_8.cell 0 rfl
              have c_a_1_8 := R_a_8.cell 1 rfl
              have c_a_2_8 := R_a_8.cell 2 rfl
              have c_a_3_8 := R_a_8.cell 3 rfl
              have l_a_8 := R_a_8.lt
              replace hv6 := hv6.step (show Below w7.heap.size w7 w8 by (repeat' (first | (with_reducible exact Below.refl _ _) | (with_reducible assumption) | (with_reducible exact Bw.out (by with_reducible assumption)) | (with_reducible refine bw_alloc ?_ _) | (with_reducible refine bw_step ?_ (by with_reducible assumption)) | (with_reducible refine Below.alloc ?_ ?_ _) | (with_reducible refine Below.drew ?_) | (with_reducible refine below_drewN ?_ _) | (with_reducible refine Below.setCell ?_ ?_ _) | (with_reducible refine below_step ?_ (by with_reducible assumption) ?_) | (with_reducible exact Nat.le_refl _) | omega | (simp; omega) | (simp; done))))
              replace hr2 := hr2.step (show Below w7.heap.size w7 w8 by (repeat' (first | (with_reducible exact Below.refl _ _) | (with_reducible assumption) | (with_reducible exact Bw.out (by with_reducible assumption)) | (with_reducible refine bw_alloc ?_ _) | (with_reducible refine bw_step ?_ (by with_reducible assumption)) | (with_reducible refine Below.alloc ?_ ?_ _) | (with_reducible refine Below.drew ?_) | (with_reducible refine below_drewN ?_ _) | (with_reducible refine Below.setCell ?_ ?_ _) | (with_reducible refine below_step ?_ (by with_reducible assumption) ?_) | (with_reducible exact Nat.le_refl _) | omega | (simp; omega) | (simp; done))))
              have HB8 : Below w.heap.size w w8 := by (repeat' (first | (with_reducible exact Below.refl _ _) | (with_reducible assumption) | (with_reducible exact Bw.out (by with_reducible assumption)) | (with_reducible refine bw_alloc ?_ _) | (with_reducible refine bw_step ?_ (by with_reducible assumption)) | (with_reducible refine Below.alloc ?_ ?_ _) | (with_reducible refine Below.drew ?_) | (with_reducible refine below_drewN ?_ _) | (with_reducible refine Below.setCell ?_ ?_ _) | (with_reducible refine below_step ?_ (by with_reducible assumption) ?_) | (with_reducible exact Nat.le_refl _) | omega | (simp; omega) | (simp; done)))
              clear R_a_7 c_a_0_7 c_a_1_7 c_a_2_7 c_a_3_7 hb7 HB7
              clear hr2
              have hvi : SlI w8 ad M P := by
                obtain ⟨ad', cp', e, h1, _⟩ := hv6
                rw [HPL.out] at e h1
                cases e
                exact h1
              have HVI8 := Lib.hid hvi
              clear hv6 hvi
              go_wp2_with fail
              refine (R_sum_any ad M cp P _ (by omega) HVI8.out T10.out S HSS.out).mono ?_
              rintro e w9 ⟨rfl, hb9⟩
              have R_a_9 : Row w9 (w.heap.size) [.int .i64 (k), .int .i64 (fr), .int .i64 (un), .int .i64 (ps)] := by (repeat' (first | (with_reducible assumption) | (with_reducible refine Row.new' _ _ _ (by first | rfl | (simp; done) | omega)) | (with_reducible refine Row.alloc ?_ _) | (with_reducible refine Row.drew ?_) | (with_reducible refine Row.drewN ?_ _) | (with_reducible refine Row.step ?_ (by with_reducible assumption)) | (with_reducible refine Row.set2' ?_ _ _; first | exact ⟨_, _, by with_reducible assumption⟩ | exact ⟨_, _, Row.alloc (by with_reducible assumption) _⟩ | exact ⟨_, _, Row.alloc (Row.alloc (by with_reducible assumption) _) _⟩) | (with_reducible refine Row.other ?_ (by first | omega | (simp; done) | (simp; omega)) _)))
              have c_a_0_9 := R_a_9.cell 0 rfl
              have c_a_1_9 := R_a_9.cell 1 rfl
              have c_a_2_9 := R_a_9.cell 2 rfl
              have c_a_3_9 := R_a_9.cell 3 rfl
              have l_a_9 := R_a_9.lt
              have HB9 : Below w.heap.size w w9 := by (repeat' (first | (with_reducible exact Below.refl _ _) | (with_reducible assumption) | (with_reducible exact Bw.out (by with_reducible assumption)) | (with_reducible refine bw_alloc ?_ _) | (with_reducible refine bw_step ?_ (by with_reducible assumption)) | (with_reducible refine Below.alloc ?_ ?_ _) | (with_reducible refine Below.drew ?_) | (with_reducible refine below_drewN ?_ _) | (with_reducible refine Below.setCell ?_ ?_ _) | (with_reducible refine below_step ?_ (by with_reducible assumption) ?_) | (with_reducible exact Nat.le_refl _) | omega | (simp; omega) | (simp; done)))
              clear R_a_8 c_a_0_8 c_a_1_8 c_a_2_8 c_a_3_8 hb8 HB8
              go_wp2_with fail
              go_ret
              refine ⟨(by first | rfl | exact ret_bool (by first | rfl | (simp; done) | (simp; omega))), ?_⟩
              (repeat' (first | (with_reducible exact Below.refl _ _) | (with_reducible assumption) | (with_reducible exact Bw.out (by with_reducible assumption)) | (with_reducible refine bw_alloc ?_ _) | (with_reducible refine bw_step ?_ (by with_reducible assumption)) | (with_reducible refine Below.alloc ?_ ?_ _) | (with_reducible refine Below.drew ?_) | (with_reducible refine below_drewN ?_ _) | (with_reducible refine Below.setCell ?_ ?_ _) | (with_reducible refine below_step ?_ (by with_reducible assumption) ?_) | (with_reducible exact Nat.le_refl _) | omega | (simp; omega) | (simp; done)))
    · have hE' : (E != 0) = true := by simpa using hE
      obtain ⟨b1, b2⟩ := priceV_bad (by rw [HPV.out]; exact hE)
      rw [HPV.out] at b1 b2
      simp only at b1 b2
      subst b1 b2
      obtain ⟨z, hz⟩ : ∃ z, ([] : List Int).length = z := ⟨_, rfl⟩
      obtain ⟨ad, cp, rfl, hv⟩ := hv.form hz
      have hz' : ((z : Int) == 0) = true := by rw [← hz]; rfl
      clear hE hz hv
      go_wp2_with fail
      go_ret
      refine ⟨(by first | rfl | exact ret_bool (by first | rfl | (simp; done) | (simp; omega))), ?_⟩
      (repeat' (first | (with_reducible exact Below.refl _ _) | (with_reducible assumption) | (with_reducible exact Bw.out (by with_reducible assumption)) | (with_reducible refine bw_alloc ?_ _) | (with_reducible refine bw_step ?_ (by with_reducible assumption)) | (with_reducible refine Below.alloc ?_ ?_ _) | (with_reducible refine Below.drew ?_) | (with_reducible refine below_drewN ?_ _) | (with_reducible refine Below.setCell ?_ ?_ _) | (with_reducible refine below_step ?_ (by with_reducible assumption) ?_) | (with_reducible exact Nat.le_refl _) | omega | (simp; omega) | (simp; done)))


set_option maxRecDepth 100000 in
theorem rateSums_lifted (os : Os) (started : os.Started) (H : Type) (enc : TypeId × Value → H) :
    ReturnsInHanded {} Try.checked os 11 .any (Rows.rateSumsSpec.pre6 enc Try.prog Try.f11 Rows.rateSumsRow.domain false) (Rows.rateSumsSpec.post enc Try.prog Try.f11 false true false false) := by
  refine returnsInHanded_of_change (C := Try.checked) own started (by kernel_rfl) Try.func11
    (ChangeSpec.witness6 (enc := enc) (C := Try.checked) false ⟨#[], #[.slice none 0 0, .agg #[.int .i64 0, .int .i64 0, .int .i64 0, .int .i64 0]], []⟩ 8 (by kernel_rfl) (by kernel_rfl) (by kernel_rfl) (by kernel_rfl)) ?_
  intro W base args ds gs before hval0 hW _ _
  have hval : ∀ (j : Nat) t v, Try.f11.params[j]? = some t → args[j]? = some v → Value.okWide Try.prog W .any base t v := hval0
  have hW' := hW
  obtain ⟨p, q, hA0, hV, rfl, hfz, hnd⟩ := hW
  obtain ⟨rfl, rfl⟩ := trodVars_none hV
  have hA : DataW.TrodAll enc Try.prog W 0 (fun _ => true) true Try.f11.params.toList args.toList ds p := hA0
  rw [Try.params11] at hA hval
  obtain ⟨v0, vs0, d0, ds0, p0, q0, hargs, rfl, rfl, h0, r0⟩ := trodAll_cons hA
  obtain ⟨v1, vs1, d1, ds1, p1, q1, rfl, rfl, rfl, h1, r1⟩ := trodAll_cons r0
  obtain ⟨rfl, rfl, rfl⟩ := trodAll_nil r1
  obtain rfl : args = #[v0, v1] := by cases args; simp_all
  obtain ⟨a0_l, n0_l, c0_l, rfl⟩ := okWide_slice Try.underlying31 (hval 0 31 v0 rfl rfl)
  obtain ⟨fu_l, hf_l⟩ := h0
  obtain ⟨a_l, n_l, c_l, l_l, e_l, g1_l, g2_l, hs_l, wf_l⟩ := slr_of_rates (by simpa [Value.cells] using hf_l)
  cases e_l
  obtain ⟨a1_a, a2_a, a3_a, a4_a, rfl, wf_a⟩ := ask_arg (hval 1 49 v1 rfl rfl) h1
  clear hA0 hval0
  refine (sums_walk _ _ _ l_l a1_a a2_a a3_a a4_a wf_l wf_a W ⟨hs_l, g1_l, g2_l⟩).mono fun e W' ⟨he, hb⟩ => ?_
  subst he
  exact ⟨_, rfl, law_post (B := 4) laidOut (by rw [Try.params11]; simp only [List.mem_cons, List.not_mem_nil, or_false, forall_eq_or_imp, forall_eq]; first | exact readable_rateSums | (repeat' apply And.intro) <;> first | exact of_decide_eq_true (by kernel_rfl) | kernel_rfl) rfl Try.underlying4 rfl rfl hW' hb⟩

theorem rateSums_over : Rows.rateSumsRow.holds Try.pinned (OpenSpec.ofChange Rows.rateSumsSpec) :=
  OpenClaim.holds_of_wide 11 Try.f11 rfl rfl rfl rfl rfl rfl rfl ⟨rfl, rfl, rfl, rfl, rfl⟩ rfl rfl rfl rfl rfl (by kernel_rfl) Try.func11 (by kernel_rfl)
    (of_decide_eq_true (by kernel_rfl)) (by unfold Func.isWrapper; first | (rw [if_pos (by decide +kernel)]; kernel_rfl) | (rw [if_neg (by decide +kernel)]; exact ⟨rfl, rfl⟩))
    (fun os started H enc _ => rateSums_lifted os started H enc)

theorem rateSums_holds : Rows.RateSumsSaid := rateSums_over
#print axioms rateSums_holds

end Go.Proofs.Ytcmodmchnokmgaa
