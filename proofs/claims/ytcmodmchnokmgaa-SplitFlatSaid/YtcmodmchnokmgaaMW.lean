/-
 Texts built as one: XSpM, XSpN, XSpO, XSpP, XSpQ.
-/
import Derived.Test.YtcmodmchnokmgaaMV
import Derived.Test.YtcmodmchnokmgaaMA
import Derived.Test.YtcmodmchnokmgaaMF
namespace Go.Proofs.Ytcmodmchnokmgaa
section
set_option linter.unusedSimpArgs false
set_option linter.unusedVariables false
open Go.RowKit
abbrev flR (id c ls ms : Int) (b : Nat) : RateV := ⟨id, 0, 1, 0, 366, ls, ms, 127, 0, 1, nd 12 b [lf 1 0, lf 1 0], lf 2 c⟩
theorem mk3_int {n : Int} (h0 : -1000000000 ≤ n) (h1 : n ≤ 1000000000) : mk3 n 1 = (n, 1, 0) := by
 have hv : vldP n 1 := ⟨by omega, by omega, h0, h1, by unfold gI; rw [Int.gcd_one]; rfl⟩
 obtain ⟨e1, e2, e3⟩ := mk_pos (n := n) (d := 1) ⟨by omega, by omega, by omega, by omega⟩ (by omega)
 obtain ⟨f1, f2, f3⟩ := fit_vld hv
 unfold mk3
 rw [e1, e2, e3, f1, f2, f3]
theorem ap2_eq0 : ap2 12 0 1 0 1 = (1, 1, 0) := by kernel_rfl
theorem flR_wh (id c ls ms : Int) (b : Nat) (v : Int → Int) : (flR id c ls ms b).wh.ev v = (1, 1, 0) := by
 have hl : (lf 1 0).ev v = (0, 1, 0) := (ev_num (x := lf 1 0) (Or.inl rfl)).trans (mk3_int (n := 0) (by omega) (by omega))
 have := ev_two (v := v) (x := nd 12 b [lf 1 0, lf 1 0]) (y := lf 1 0) (z := lf 1 0) (show (4 : Int) ≤ 12 by decide) ⟨show (12 : Int) ≠ 10 by decide, show (12 : Int) ≠ 15 by decide⟩ rfl (by rw [hl]) rfl (by rw [hl])
 rw [hl] at this
 exact this.trans ap2_eq0
theorem flR_pr (id ls ms : Int) {c : Int} (h0 : 0 ≤ c) (h1 : c ≤ 1000000000) (b : Nat) (v : Int → Int) : (flR id c ls ms b).pr.ev v = (c, 1, 0) :=
 (ev_num (x := lf 2 c) (Or.inr rfl)).trans (mk3_int (n := c) (by omega) (by omega))
theorem bit127 (n : Int) : bitB 127 (dayI n) = true := by
 have := dayI_range n
 obtain ⟨d, hd, hd6⟩ : ∃ d : Nat, dayI n = (d : Int) ∧ d ≤ 6 := ⟨(dayI n).toNat, by omega, by omega⟩
 rw [hd]
 have h : d = 0 ∨ d = 1 ∨ d = 2 ∨ d = 3 ∨ d = 4 ∨ d = 5 ∨ d = 6 := by omega
 rcases h with rfl | rfl | rfl | rfl | rfl | rfl | rfl <;> rfl
theorem flR_appl (id c ls ms : Int) (b : Nat) (a : AskV) (nt : Int) (h0 : 0 ≤ nt) (h1 : nt < 366) : appl (flR id c ls ms b) a nt = (decide (1 = a.k) && (decide (ls ≤ a.un - a.fr) && decide (a.un - a.fr ≤ ms)), 0) := by
 have hf : fitsR (flR id c ls ms b) a nt = (decide (1 = a.k) && (decide (ls ≤ a.un - a.fr) && decide (a.un - a.fr ≤ ms))) := by
  unfold fitsR
  simp only [bit127, h0, h1, decide_true, Bool.true_and, Bool.and_true]
 unfold appl
 rw [hf, flR_wh]
 split
 ·
  rename_i h; rw [h]; rfl
 ·
  rename_i h
  rw [Bool.not_eq_true] at h
  rw [h]
theorem flR_cost (id ls ms : Int) {c : Int} (h0 : 0 ≤ c) (h1 : c ≤ 1000000000) (b : Nat) (a : AskV) (nt : Int) : costR a nt (flR id c ls ms b) = (c, 0) := by
 have hr : rnd 3 c 1 = c := by have := rnd_whole 3 c (d := 1) (by omega); rwa [Int.mul_one] at this
 unfold costR
 rw [flR_pr id ls ms h0 h1, if_neg (by simp), if_neg (by simp only; rw [hr]; omega)]
 simp only
 rw [hr]
theorem flR_rate {id c ls ms : Int} (b : Nat) (hi : 1 ≤ id ∧ id ≤ 1000000) (hc : 0 ≤ c ∧ c ≤ 1000000000) (hl : 1 ≤ ls ∧ ls ≤ ms ∧ ms ≤ 60) : rateB (flR id c ls ms b) = true := by
 have hv : vld 0 1 = true := by kernel_rfl
 have hw : validE (nd 12 b [lf 1 0, lf 1 0]) = true := by kernel_rfl
 have hp : validE (lf 2 c) = true := by
  unfold validE
  rw [Bool.and_eq_true]
  refine ⟨?_, rfl⟩
  unfold Ex.ok nodeB inE
  simp [okL, hc.1, hc.2]
 have hf : formB (flR id c ls ms b) = true := by
  unfold formB inE
  simp only [hv, hw, hp]
  simp [hi.1, hi.2, hl.1, hl.2.1, hl.2.2]
 have ht : tyB (flR id c ls ms b) = true := by
  unfold tyB
  rw [show (flR id c ls ms b).wh.ty = 3 by kernel_rfl, show (flR id c ls ms b).pr.ty = 2 by rfl]
  rfl
 unfold rateB
 rw [hf, ht]
 rfl
/-- Where each night costs the same. -/
theorem price_same {l : List RateV} {a : AskV} {c : Int} (hv : validR l = true) (ha : askB a = true) (hc : 0 ≤ c) (hm : c * (a.un - a.fr) ≤ 1000000000) (h : ∀ nt, a.fr ≤ nt → nt < a.un → (priceN l a nt).1 = c ∧ (priceN l a nt).2.2 = 0) : costQ l a = c * (a.un - a.fr) ∧ hasQ l a = true := by
 obtain ⟨⟨b1, b2, b3, b4⟩, _, _⟩ := askB_in ha
 have hj : ∀ j : Nat, j < a.len → (cstJ l a j).1 = c ∧ (cstJ l a j).2.2 = 0 := fun j hj => h _ (by omega) (by unfold AskV.len at hj; omega)
 have hE : ∀ j : Nat, j ≤ a.len → errT l a j = 0 := by
  intro j
  induction j with
  | zero => intro _; rfl
  | succ j ih =>
   intro hjl
   unfold errT
   rw [if_neg (by rw [ih (by omega)]; simp)]
   exact (hj j (by omega)).2
 have hT : ∀ j : Nat, j ≤ a.len → sumT (fun j => (cstJ l a j).1) j = c * j := by
  intro j
  induction j with
  | zero => intro _; simp [sumT]
  | succ j ih =>
   intro hjl
   unfold sumT
   rw [ih (by omega), (hj j (by omega)).1, Int.natCast_succ, Int.mul_add, Int.mul_one]
 have hL : ∀ j : Nat, j ≤ a.len → sumQ (cstL l a j) = c * j := by
  intro j
  induction j with
  | zero => intro _; simp [cstL, sumQ]
  | succ j ih =>
   intro hjl
   rw [cstL_succ, sumQ_snoc, ih (by omega), (hj j (by omega)).1, Int.natCast_succ, Int.mul_add, Int.mul_one]
 have hlen : (a.len : Int) = a.un - a.fr := by unfold AskV.len; omega
 have hp : priceV l a = (cstL l a a.len, sumT (keepJ l a) a.len, 0) := by
  unfold priceV
  rw [hv, ha, if_pos (show (true && true) = true from rfl), if_neg (by rw [hE _ (Nat.le_refl _)]; simp), if_neg (by rw [hT _ (Nat.le_refl _), hlen]; omega)]
 unfold costQ hasQ
 rw [hp]
 exact ⟨by rw [hL _ (Nat.le_refl _), hlen], rfl⟩
theorem errT_first {l : List RateV} {a : AskV} (h : (cstJ l a 0).2.2 ≠ 0) : ∀ j : Nat, 1 ≤ j → errT l a j ≠ 0
 | 0, hj => by omega
 | j + 1, _ => by
  unfold errT
  by_cases e : errT l a j ≠ 0
  ·
   rw [if_pos e]; exact e
  ·
   rw [if_neg e]
   by_cases hj : j = 0
   ·
    subst hj; exact h
   ·
    exact (e (errT_first h j (by omega))).elim
/-- Where the first night has no price. -/
theorem price_no {l : List RateV} {a : AskV} (h : (priceN l a a.fr).2.2 ≠ 0) : costQ l a = 0 ∧ hasQ l a = false := by
 unfold costQ hasQ priceV
 split
 ·
  rename_i hc
  simp only [Bool.and_eq_true] at hc
  obtain ⟨⟨b1, b2, b3, b4⟩, _, _⟩ := askB_in hc.2
  have he := errT_first (l := l) (a := a) (by unfold cstJ; simpa using h) a.len (by unfold AskV.len; omega)
  rw [if_pos he]
  exact ⟨rfl, by simpa using he⟩
 ·
  exact ⟨rfl, rfl⟩
end
section
set_option linter.unusedSimpArgs false
set_option linter.unusedVariables false
open Go.RowKit
theorem priceN_cost {l : List RateV} {a : AskV} {nt c : Int} {r : RateV} (h : bestR a nt none l = (some r, 0)) (hc : costR a nt r = (c, 0)) : (priceN l a nt).1 = c ∧ (priceN l a nt).2.2 = 0 := by
 unfold priceN
 rw [h, if_neg (by simp)]
 simp only
 rw [hc, if_neg (by simp)]
 exact ⟨rfl, rfl⟩
theorem priceN_none {l : List RateV} {a : AskV} {nt : Int} (h : bestR a nt none l = (none, 0)) : (priceN l a nt).2.2 ≠ 0 := by
 unfold priceN
 rw [h]
 simp
theorem candW_cut {l : List RateV} {a : AskV} {V : Int → WayV} {nt u C c : Int} {s : Bool} {t : List Int} (h : u < a.un) (hc : costQ l ⟨a.k, nt, u, a.ps⟩ = C ∧ hasQ l ⟨a.k, nt, u, a.ps⟩ = true) (hV : V u = ⟨c, s, t⟩) : candW l a V nt u = ⟨C + c, s, u :: t⟩ := by
 unfold candW
 rw [hc.1, hc.2, hV, if_pos (by simp [h])]
theorem candW_end {l : List RateV} {a : AskV} {V : Int → WayV} {nt u C : Int} (h : ¬ u < a.un) (hc : costQ l ⟨a.k, nt, u, a.ps⟩ = C ∧ hasQ l ⟨a.k, nt, u, a.ps⟩ = true) : candW l a V nt u = ⟨C, true, []⟩ := by
 unfold candW
 rw [hc.1, hc.2, if_neg (by simp [h])]
theorem candW_no {l : List RateV} {a : AskV} {V : Int → WayV} {nt u : Int} (hc : costQ l ⟨a.k, nt, u, a.ps⟩ = 0 ∧ hasQ l ⟨a.k, nt, u, a.ps⟩ = false) : candW l a V nt u = noW := by
 unfold candW noW
 rw [hc.1, hc.2, if_neg (by simp)]
/-- No part has a price. -/
theorem rec_no {l : List RateV} {a : AskV} (h : ∀ x y, a.fr ≤ x → x < y → y ≤ a.un → costQ l ⟨a.k, x, y, a.ps⟩ = 0 ∧ hasQ l ⟨a.k, x, y, a.ps⟩ = false) : RecW l a (fun _ => noW) := by
 refine ⟨fun nt h1 h2 => ?_, fun nt _ _ => by simp [noW]⟩
 have hj : ∀ j : Nat, (j : Int) ≤ a.un - nt → foldW l a (fun _ => noW) nt j = noW := by
  intro j
  induction j with
  | zero => intro _; rfl
  | succ j ih =>
   intro hjl
   unfold foldW
   rw [candW_no (h nt (nt + 1 + j) h1 (by omega) (by omega)), ih (by omega)]
   rfl
 exact hj _ (by omega)
/-- Each night costs the same: the whole is as cheap as any parts. -/
theorem rec_flat {l : List RateV} {a : AskV} {c : Int} (hc0 : 0 ≤ c) (hc1 : c ≤ 1000000) (h366 : 0 ≤ a.fr ∧ a.un ≤ 366) (h : ∀ x y, a.fr ≤ x → x < y → y ≤ a.un → costQ l ⟨a.k, x, y, a.ps⟩ = c * (y - x) ∧ hasQ l ⟨a.k, x, y, a.ps⟩ = true) : RecW l a (fun nt => ⟨c * (a.un - nt), true, []⟩) := by
 refine ⟨fun nt h1 h2 => ?_, fun nt h1 h2 => ?_⟩
 ·
  obtain ⟨D, hD⟩ : ∃ D : Nat, (a.un - nt).toNat = D := ⟨_, rfl⟩
  have hD' : (D : Int) = a.un - nt := by omega
  have hsum : ∀ u : Int, c * (u - nt) + c * (a.un - u) = c * (a.un - nt) := fun u => by rw [← Int.mul_add]; congr 1; omega
  have hj : ∀ j : Nat, 1 ≤ j → j ≤ D → foldW l a (fun nt => ⟨c * (a.un - nt), true, []⟩) nt j = if j = D then ⟨c * (a.un - nt), true, []⟩ else ⟨c * (a.un - nt), true, [nt + 1]⟩ := by
   intro j
   induction j with
   | zero => intro h; omega
   | succ j ih =>
    intro _ hjl
    have hcd := h nt (nt + 1 + j) h1 (by omega) (by omega)
    unfold foldW
    by_cases hu : nt + 1 + (j : Int) < a.un
    ·
     rw [candW_cut hu hcd rfl, hsum, if_neg (show ¬ j + 1 = D by omega)]
     by_cases hj0 : j = 0
     ·
      subst hj0
      simp [foldW, betterW, noW]
     ·
      rw [ih (by omega) (by omega), if_neg (show ¬ j = D by omega)]
      simp [betterW]
    ·
     have hun : nt + 1 + (j : Int) = a.un := by omega
     rw [candW_end hu hcd, hun, if_pos (show j + 1 = D by omega)]
     by_cases hj0 : j = 0
     ·
      subst hj0
      simp [foldW, betterW, noW]
     ·
      rw [ih (by omega) (by omega), if_neg (show ¬ j = D by omega)]
      simp [betterW]
  rw [hD, hj D (by omega) (Nat.le_refl _), if_pos rfl]
 ·
  have h3 : c * (a.un - nt) ≤ 1000000 * 366 := Int.mul_le_mul hc1 (by omega) (by omega) (by omega)
  have h4 : 0 ≤ c * (a.un - nt) := Int.mul_nonneg hc0 (by omega)
  refine ⟨h4, by simp only; omega, by simp⟩
/-! One rate. -/
theorem best_one {id c ls ms : Int} {b : Nat} {a : AskV} {nt : Int} (h0 : 0 ≤ nt) (h1 : nt < 366) (hk : a.k = 1) (hl : ls ≤ a.un - a.fr ∧ a.un - a.fr ≤ ms) : bestR a nt none [flR id c ls ms b] = (some (flR id c ls ms b), 0) := by
 have h := flR_appl id c ls ms b a nt h0 h1
 rw [hk] at h
 simp only [hl.1, hl.2, decide_true, Bool.and_self] at h
 unfold bestR
 rw [h]
 rfl
theorem hasK_one (id c ls ms : Int) (b : Nat) (k : Int) : hasK [flR id c ls ms b] k = decide (1 = k) := by unfold hasK; simp
theorem valid_one {id c ls ms : Int} (b : Nat) (hi : 1 ≤ id ∧ id ≤ 1000000) (hc : 0 ≤ c ∧ c ≤ 1000000000) (hl : 1 ≤ ls ∧ ls ≤ ms ∧ ms ≤ 60) : validR [flR id c ls ms b] = true := by
 unfold validR
 simp [flR_rate b hi hc hl]
theorem cost_one {c : Int} (b : Nat) (hc0 : 0 ≤ c) (hc1 : c ≤ 1000000) {a : AskV} (ha : askB a = true) (hk : a.k = 1) : costQ [flR 3 c 1 60 b] a = c * (a.un - a.fr) ∧ hasQ [flR 3 c 1 60 b] a = true := by
 obtain ⟨⟨b1, b2, b3, b4⟩, _, _⟩ := askB_in ha
 refine price_same (valid_one b (by omega) (by omega) (by omega)) ha hc0 ?_ (fun nt h1 h2 => priceN_cost (best_one (by omega) (by omega) hk (by omega)) (flR_cost 3 1 60 hc0 (by omega) b a nt))
 have h3 : c * (a.un - a.fr) ≤ 1000000 * 60 := Int.mul_le_mul hc1 (by omega) (by omega) (by omega)
 omega
theorem askB_of {k fr un ps : Int} (h : 0 ≤ fr ∧ fr < un ∧ un ≤ 366 ∧ un - fr ≤ 60) (hk : 1 ≤ k ∧ k ≤ 20) (hp : 1 ≤ ps ∧ ps ≤ 8) : askB ⟨k, fr, un, ps⟩ = true := by
 unfold askB inE
 simp [h.1, h.2.1, h.2.2.1, h.2.2.2, hk.1, hk.2, hp.1, hp.2]
theorem und_one {c : Int} (b : Nat) (hc0 : 0 ≤ c) (hc1 : c ≤ 1000000) {k fr un ps : Int} (h : 0 ≤ fr ∧ fr < un ∧ un ≤ 366 ∧ un - fr ≤ 60) (hk : k = 1) (hp : 1 ≤ ps ∧ ps ≤ 8) : UndAt [flR 3 c 1 60 b] ⟨k, fr, un, ps⟩ none := by
 subst hk
 refine Or.inr ⟨_, rec_flat (c := c) hc0 hc1 ⟨h.1, h.2.2.1⟩ (fun x y h1 h2 h3 => cost_one b hc0 hc1 (a := ⟨1, x, y, ps⟩) (askB_of (by simp only at *; omega) (by omega) hp) rfl), ?_, ?_⟩
 ·
  exact (cost_one b hc0 hc1 (askB_of h (by omega) hp) rfl).2
 ·
  rw [(cost_one b hc0 hc1 (askB_of h (by omega) hp) rfl).1]
  exact Int.le_refl _
end
section
set_option linter.unusedSimpArgs false
set_option linter.unusedVariables false
open Go.RowKit
/-- Two flat rates: for one or two nights, for three. -/
abbrev twR (g : Int) (b1 b2 : Nat) : List RateV := [flR 1 10000 1 2 b1, flR 2 g 3 3 b2]
theorem hasK_two (g : Int) (b1 b2 : Nat) (k : Int) : hasK (twR g b1 b2) k = decide (1 = k) := by unfold hasK; simp
theorem valid_two {g : Int} (b1 b2 : Nat) (hg : 0 ≤ g ∧ g ≤ 1000000) : validR (twR g b1 b2) = true := by
 unfold validR
 simp [flR_rate b1 (id := 1) (c := 10000) (ls := 1) (ms := 2) (by omega) (by omega) (by omega), flR_rate b2 (id := 2) (c := g) (ls := 3) (ms := 3) (by omega) (by omega) (by omega)]
theorem best_two1 {g : Int} {b1 b2 : Nat} {a : AskV} {nt : Int} (h0 : 0 ≤ nt) (h1 : nt < 366) (hk : a.k = 1) (hl : 1 ≤ a.un - a.fr ∧ a.un - a.fr ≤ 2) : bestR a nt none (twR g b1 b2) = (some (flR 1 10000 1 2 b1), 0) := by
 have h := flR_appl 1 10000 1 2 b1 a nt h0 h1
 have h' := flR_appl 2 g 3 3 b2 a nt h0 h1
 rw [hk] at h h'
 rw [decide_eq_true (show (1 : Int) = 1 from rfl), decide_eq_true hl.1, decide_eq_true hl.2] at h
 rw [decide_eq_true (show (1 : Int) = 1 from rfl), decide_eq_false (show ¬ 3 ≤ a.un - a.fr by omega)] at h'
 simp only [bestR, h, h']
 rfl
theorem best_two2 {g : Int} {b1 b2 : Nat} {a : AskV} {nt : Int} (h0 : 0 ≤ nt) (h1 : nt < 366) (hk : a.k = 1) (hl : a.un - a.fr = 3) : bestR a nt none (twR g b1 b2) = (some (flR 2 g 3 3 b2), 0) := by
 have h := flR_appl 1 10000 1 2 b1 a nt h0 h1
 have h' := flR_appl 2 g 3 3 b2 a nt h0 h1
 rw [hk] at h h'
 rw [decide_eq_true (show (1 : Int) = 1 from rfl), decide_eq_false (show ¬ a.un - a.fr ≤ 2 by omega), decide_eq_true (show 1 ≤ a.un - a.fr by omega)] at h
 rw [decide_eq_true (show (1 : Int) = 1 from rfl), decide_eq_true (show 3 ≤ a.un - a.fr by omega), decide_eq_true (show a.un - a.fr ≤ 3 by omega)] at h'
 simp only [bestR, h, h']
 rfl
theorem best_two0 {g : Int} {b1 b2 : Nat} {a : AskV} {nt : Int} (h0 : 0 ≤ nt) (h1 : nt < 366) (hk : a.k ≠ 1) : bestR a nt none (twR g b1 b2) = (none, 0) := by
 have h := flR_appl 1 10000 1 2 b1 a nt h0 h1
 have h' := flR_appl 2 g 3 3 b2 a nt h0 h1
 rw [decide_eq_false (show ¬ (1 : Int) = a.k by omega)] at h h'
 simp only [bestR, h, h']
 rfl
/-- What a stay of so many nights costs. -/
def gI3 (g n : Int) : Int := if n = 3 then g * 3 else 10000 * n
theorem cost_two {g : Int} (b1 b2 : Nat) (hg : 0 ≤ g ∧ g ≤ 1000000) {fr un ps : Int} (h : 0 ≤ fr ∧ fr < un ∧ un ≤ 366 ∧ un - fr ≤ 3) (hp : 1 ≤ ps ∧ ps ≤ 8) : costQ (twR g b1 b2) ⟨1, fr, un, ps⟩ = gI3 g (un - fr) ∧ hasQ (twR g b1 b2) ⟨1, fr, un, ps⟩ = true := by
 have ha : askB ⟨1, fr, un, ps⟩ = true := askB_of (by omega) (by omega) hp
 unfold gI3
 by_cases h3 : un - fr = 3
 ·
  rw [if_pos h3, ← h3]
  exact price_same (valid_two b1 b2 hg) ha hg.1 (by show g * (un - fr) ≤ _; rw [h3]; omega) (fun nt h1 h2 => priceN_cost (best_two2 (by simp only at h1; omega) (by simp only at h2; omega) rfl h3) (flR_cost 2 3 3 hg.1 (by omega) b2 _ nt))
 ·
  rw [if_neg h3]
  exact price_same (valid_two b1 b2 hg) ha (by omega) (by show 10000 * (un - fr) ≤ _; omega) (fun nt h1 h2 => priceN_cost (best_two1 (by simp only at h1; omega) (by simp only at h2; omega) rfl (by simp only; omega)) (flR_cost 1 1 2 (by omega) (by omega) b1 _ nt))
theorem cost_two0 {g : Int} (b1 b2 : Nat) {k fr un ps : Int} (hk : k ≠ 1) (h : 0 ≤ fr ∧ fr < 366) : costQ (twR g b1 b2) ⟨k, fr, un, ps⟩ = 0 ∧ hasQ (twR g b1 b2) ⟨k, fr, un, ps⟩ = false :=
 price_no (priceN_none (best_two0 h.1 h.2 hk))
/-- The best ways of up to three nights. -/
def W3d (w3 : Int → WayV) (un nt : Int) : WayV := if un - nt = 1 then ⟨10000, true, []⟩ else if un - nt = 2 then ⟨20000, true, []⟩ else w3 nt
theorem foldW_step {l : List RateV} {a : AskV} {V : Int → WayV} {nt : Int} {j : Nat} {c f r : WayV} (hc : candW l a V nt (nt + 1 + j) = c) (hf : foldW l a V nt j = f) (hr : (if betterW c f then c else f) = r) : foldW l a V nt (j + 1) = r := by
 unfold foldW
 rw [hc, hf]
 exact hr
def w3dear (nt : Int) : WayV := ⟨30000, true, [nt + 1]⟩
theorem rec_dear (b1 b2 : Nat) {fr un ps : Int} (h : 0 ≤ fr ∧ un ≤ 366 ∧ un - fr ≤ 3) (hp : 1 ≤ ps ∧ ps ≤ 8) : RecW (twR 12000 b1 b2) ⟨1, fr, un, ps⟩ (W3d w3dear un) := by
 have hc : ∀ x y, fr ≤ x → x < y → y ≤ un → costQ (twR 12000 b1 b2) ⟨1, x, y, ps⟩ = gI3 12000 (y - x) ∧ hasQ (twR 12000 b1 b2) ⟨1, x, y, ps⟩ = true := fun x y h1 h2 h3 => cost_two b1 b2 (by omega) (by omega) hp
 refine ⟨fun nt h1 h2 => ?_, fun nt h1 h2 => ?_⟩
 ·
  simp only at h1 h2 ⊢
  have hD : un - nt = 1 ∨ un - nt = 2 ∨ un - nt = 3 := by omega
  rcases hD with e | e | e
  ·
   have hn : (un - nt).toNat = 1 := by omega
   have c0 := hc nt (nt + 1) h1 (by omega) (by omega)
   rw [show nt + 1 - nt = 1 by omega] at c0
   have d0 : candW (twR 12000 b1 b2) ⟨1, fr, un, ps⟩ (W3d w3dear un) nt (nt + 1 + (0 : Nat)) = ⟨10000, true, []⟩ := by
    rw [show nt + 1 + ((0 : Nat) : Int) = nt + 1 by omega]
    exact candW_end (by simp only; omega) c0
   rw [hn, foldW_step (j := 0) (f := noW) (r := ⟨10000, true, []⟩) d0 rfl rfl]
   unfold W3d
   rw [if_pos e]
  ·
   have hn : (un - nt).toNat = 2 := by omega
   have c0 := hc nt (nt + 1) h1 (by omega) (by omega)
   rw [show nt + 1 - nt = 1 by omega] at c0
   have c1 := hc nt (nt + 2) h1 (by omega) (by omega)
   rw [show nt + 2 - nt = 2 by omega] at c1
   have d0 : candW (twR 12000 b1 b2) ⟨1, fr, un, ps⟩ (W3d w3dear un) nt (nt + 1 + (0 : Nat)) = ⟨10000 + 10000, true, [nt + 1]⟩ := by
    rw [show nt + 1 + ((0 : Nat) : Int) = nt + 1 by omega]
    exact candW_cut (by simp only; omega) c0 (by unfold W3d; rw [if_pos (by omega)])
   have d1 : candW (twR 12000 b1 b2) ⟨1, fr, un, ps⟩ (W3d w3dear un) nt (nt + 1 + (1 : Nat)) = ⟨20000, true, []⟩ := by
    rw [show nt + 1 + ((1 : Nat) : Int) = nt + 2 by omega]
    exact candW_end (by simp only; omega) c1
   rw [hn, foldW_step (j := 1) (r := ⟨20000, true, []⟩) d1 (foldW_step (j := 0) (f := noW) (r := ⟨20000, true, [nt + 1]⟩) d0 rfl rfl) rfl]
   unfold W3d
   rw [if_neg (by omega), if_pos e]
  ·
   have hn : (un - nt).toNat = 3 := by omega
   have c0 := hc nt (nt + 1) h1 (by omega) (by omega)
   rw [show nt + 1 - nt = 1 by omega] at c0
   have c1 := hc nt (nt + 2) h1 (by omega) (by omega)
   rw [show nt + 2 - nt = 2 by omega] at c1
   have c2 := hc nt (nt + 3) h1 (by omega) (by omega)
   rw [show nt + 3 - nt = 3 by omega] at c2
   have d0 : candW (twR 12000 b1 b2) ⟨1, fr, un, ps⟩ (W3d w3dear un) nt (nt + 1 + (0 : Nat)) = ⟨10000 + 20000, true, [nt + 1]⟩ := by
    rw [show nt + 1 + ((0 : Nat) : Int) = nt + 1 by omega]
    exact candW_cut (by simp only; omega) c0 (by unfold W3d; rw [if_neg (by omega), if_pos (by omega)])
   have d1 : candW (twR 12000 b1 b2) ⟨1, fr, un, ps⟩ (W3d w3dear un) nt (nt + 1 + (1 : Nat)) = ⟨20000 + 10000, true, [nt + 2]⟩ := by
    rw [show nt + 1 + ((1 : Nat) : Int) = nt + 2 by omega]
    exact candW_cut (by simp only; omega) c1 (by unfold W3d; rw [if_pos (by omega)])
   have d2 : candW (twR 12000 b1 b2) ⟨1, fr, un, ps⟩ (W3d w3dear un) nt (nt + 1 + (2 : Nat)) = ⟨12000 * 3, true, []⟩ := by
    rw [show nt + 1 + ((2 : Nat) : Int) = nt + 3 by omega]
    exact candW_end (by simp only; omega) c2
   rw [hn, foldW_step (j := 2) (r := ⟨30000, true, [nt + 1]⟩) d2 (foldW_step (j := 1) (r := ⟨30000, true, [nt + 1]⟩) d1 (foldW_step (j := 0) (f := noW) (r := ⟨30000, true, [nt + 1]⟩) d0 rfl rfl) rfl) rfl]
   unfold W3d w3dear
   rw [if_neg (by omega), if_neg (by omega)]
 ·
  unfold W3d w3dear
  split
  ·
   simp
  ·
   split
   ·
    simp
   ·
    simp
def w3cheap (nt : Int) : WayV := ⟨27000, true, []⟩
theorem rec_cheap (b1 b2 : Nat) {fr un ps : Int} (h : 0 ≤ fr ∧ un ≤ 366 ∧ un - fr ≤ 3) (hp : 1 ≤ ps ∧ ps ≤ 8) : RecW (twR 9000 b1 b2) ⟨1, fr, un, ps⟩ (W3d w3cheap un) := by
 have hc : ∀ x y, fr ≤ x → x < y → y ≤ un → costQ (twR 9000 b1 b2) ⟨1, x, y, ps⟩ = gI3 9000 (y - x) ∧ hasQ (twR 9000 b1 b2) ⟨1, x, y, ps⟩ = true := fun x y h1 h2 h3 => cost_two b1 b2 (by omega) (by omega) hp
 refine ⟨fun nt h1 h2 => ?_, fun nt h1 h2 => ?_⟩
 ·
  simp only at h1 h2 ⊢
  have hD : un - nt = 1 ∨ un - nt = 2 ∨ un - nt = 3 := by omega
  rcases hD with e | e | e
  ·
   have hn : (un - nt).toNat = 1 := by omega
   have c0 := hc nt (nt + 1) h1 (by omega) (by omega)
   rw [show nt + 1 - nt = 1 by omega] at c0
   have d0 : candW (twR 9000 b1 b2) ⟨1, fr, un, ps⟩ (W3d w3cheap un) nt (nt + 1 + (0 : Nat)) = ⟨10000, true, []⟩ := by
    rw [show nt + 1 + ((0 : Nat) : Int) = nt + 1 by omega]
    exact candW_end (by simp only; omega) c0
   rw [hn, foldW_step (j := 0) (f := noW) (r := ⟨10000, true, []⟩) d0 rfl rfl]
   unfold W3d
   rw [if_pos e]
  ·
   have hn : (un - nt).toNat = 2 := by omega
   have c0 := hc nt (nt + 1) h1 (by omega) (by omega)
   rw [show nt + 1 - nt = 1 by omega] at c0
   have c1 := hc nt (nt + 2) h1 (by omega) (by omega)
   rw [show nt + 2 - nt = 2 by omega] at c1
   have d0 : candW (twR 9000 b1 b2) ⟨1, fr, un, ps⟩ (W3d w3cheap un) nt (nt + 1 + (0 : Nat)) = ⟨10000 + 10000, true, [nt + 1]⟩ := by
    rw [show nt + 1 + ((0 : Nat) : Int) = nt + 1 by omega]
    exact candW_cut (by simp only; omega) c0 (by unfold W3d; rw [if_pos (by omega)])
   have d1 : candW (twR 9000 b1 b2) ⟨1, fr, un, ps⟩ (W3d w3cheap un) nt (nt + 1 + (1 : Nat)) = ⟨20000, true, []⟩ := by
    rw [show nt + 1 + ((1 : Nat) : Int) = nt + 2 by omega]
    exact candW_end (by simp only; omega) c1
   rw [hn, foldW_step (j := 1) (r := ⟨20000, true, []⟩) d1 (foldW_step (j := 0) (f := noW) (r := ⟨20000, true, [nt + 1]⟩) d0 rfl rfl) rfl]
   unfold W3d
   rw [if_neg (by omega), if_pos e]
  ·
   have hn : (un - nt).toNat = 3 := by omega
   have c0 := hc nt (nt + 1) h1 (by omega) (by omega)
   rw [show nt + 1 - nt = 1 by omega] at c0
   have c1 := hc nt (nt + 2) h1 (by omega) (by omega)
   rw [show nt + 2 - nt = 2 by omega] at c1
   have c2 := hc nt (nt + 3) h1 (by omega) (by omega)
   rw [show nt + 3 - nt = 3 by omega] at c2
   have d0 : candW (twR 9000 b1 b2) ⟨1, fr, un, ps⟩ (W3d w3cheap un) nt (nt + 1 + (0 : Nat)) = ⟨10000 + 20000, true, [nt + 1]⟩ := by
    rw [show nt + 1 + ((0 : Nat) : Int) = nt + 1 by omega]
    exact candW_cut (by simp only; omega) c0 (by unfold W3d; rw [if_neg (by omega), if_pos (by omega)])
   have d1 : candW (twR 9000 b1 b2) ⟨1, fr, un, ps⟩ (W3d w3cheap un) nt (nt + 1 + (1 : Nat)) = ⟨20000 + 10000, true, [nt + 2]⟩ := by
    rw [show nt + 1 + ((1 : Nat) : Int) = nt + 2 by omega]
    exact candW_cut (by simp only; omega) c1 (by unfold W3d; rw [if_pos (by omega)])
   have d2 : candW (twR 9000 b1 b2) ⟨1, fr, un, ps⟩ (W3d w3cheap un) nt (nt + 1 + (2 : Nat)) = ⟨9000 * 3, true, []⟩ := by
    rw [show nt + 1 + ((2 : Nat) : Int) = nt + 3 by omega]
    exact candW_end (by simp only; omega) c2
   rw [hn, foldW_step (j := 2) (r := ⟨27000, true, []⟩) d2 (foldW_step (j := 1) (r := ⟨30000, true, [nt + 1]⟩) d1 (foldW_step (j := 0) (f := noW) (r := ⟨30000, true, [nt + 1]⟩) d0 rfl rfl) rfl) rfl]
   unfold W3d w3cheap
   rw [if_neg (by omega), if_neg (by omega)]
 ·
  unfold W3d w3cheap
  split
  ·
   simp
  ·
   split
   ·
    simp
   ·
    simp
/-- What is undercut, by the dear rates. -/
def uDear (a : AskV) : Option (Int × Int × Int) := if a.un - a.fr = 3 then some (a.fr + 1, 36000, 30000) else none
theorem und_dear (b1 b2 : Nat) {fr un ps : Int} (h : 0 ≤ fr ∧ fr < un ∧ un ≤ 366 ∧ un - fr ≤ 3) (hp : 1 ≤ ps ∧ ps ≤ 8) : UndAt (twR 12000 b1 b2) ⟨1, fr, un, ps⟩ (uDear ⟨1, fr, un, ps⟩) := by
 obtain ⟨c1, c2⟩ := cost_two (g := 12000) b1 b2 (by omega) h hp
 unfold uDear
 simp only
 by_cases h3 : un - fr = 3
 ·
  rw [if_pos h3]
  refine ⟨W3d w3dear un, [], rec_dear b1 b2 ⟨h.1, h.2.2.1, h.2.2.2⟩ hp, c2, ?_, ?_, by omega, ?_⟩
  ·
   rw [c1]; unfold gI3; rw [if_pos h3]; rfl
  ·
   unfold W3d; rw [if_neg (by simp only; omega), if_neg (by simp only; omega)]; rfl
  ·
   unfold W3d; rw [if_neg (by simp only; omega), if_neg (by simp only; omega)]; rfl
 ·
  rw [if_neg h3]
  refine Or.inr ⟨W3d w3dear un, rec_dear b1 b2 ⟨h.1, h.2.2.1, h.2.2.2⟩ hp, c2, ?_⟩
  rw [c1]
  unfold gI3 W3d
  rw [if_neg h3]
  by_cases h1 : un - fr = 1
  ·
   rw [if_pos h1, h1]; decide
  ·
   rw [if_neg h1, if_pos (show un - fr = 2 by omega), show un - fr = 2 by omega]; decide
theorem und_cheap (b1 b2 : Nat) {fr un ps : Int} (h : 0 ≤ fr ∧ fr < un ∧ un ≤ 366 ∧ un - fr ≤ 3) (hp : 1 ≤ ps ∧ ps ≤ 8) : UndAt (twR 9000 b1 b2) ⟨1, fr, un, ps⟩ none := by
 obtain ⟨c1, c2⟩ := cost_two (g := 9000) b1 b2 (by omega) h hp
 refine Or.inr ⟨W3d w3cheap un, rec_cheap b1 b2 ⟨h.1, h.2.2.1, h.2.2.2⟩ hp, c2, ?_⟩
 rw [c1]
 unfold gI3 W3d
 by_cases h1 : un - fr = 1
 ·
  rw [if_neg (by omega), if_pos h1, h1]; decide
 ·
  by_cases h2 : un - fr = 2
  ·
   rw [if_neg (by omega), if_neg h1, if_pos h2, h2]; decide
  ·
   rw [if_pos (show un - fr = 3 by omega), if_neg h1, if_neg h2]; show (9000 * 3 : Int) ≤ 27000; decide
end
section
set_option linter.unusedSimpArgs false
set_option linter.unusedVariables false
open Go.RowKit
attribute [local go_sem ↓] ld_eq st_eq
attribute [local go_sem] ldR_run ldV_drew ldV_alloc ldV_at16 stR_run sz16_rate stB_drew stB_at16 stW_at16 stB_set ldV_set stW_cell stW_frozen ldV_stW stB_stW
theorem hasK_fun (g : Int) (b1 b2 : Nat) : hasK (twR g b1 b2) = fun k => decide (1 = k) := funext (hasK_two g b1 b2)
theorem find_dear (b1 b2 : Nat) : findV (twR 12000 b1 b2) uDear 4 8 3 1 = ([1, 4, 7, 1, 5, 36000, 30000], true, 0) := by
 unfold findV
 rw [valid_two b1 b2 (by omega), show domB 4 8 3 1 = true from rfl, hasK_fun]
 kernel_rfl
theorem find_cheap (b1 b2 : Nat) : findV (twR 9000 b1 b2) (fun _ => none) 4 8 3 1 = ([0, 0, 0, 0, 0, 0, 0], false, 0) := by
 unfold findV
 rw [valid_two b1 b2 (by omega), show domB 4 8 3 1 = true from rfl, hasK_fun]
 kernel_rfl
theorem best_dear (b1 b2 : Nat) : bestO (twR 12000 b1 b2) ⟨1, 4, 7, 1⟩ ⟨30000, true, [5]⟩ = (30000, [5], 0) := by
 unfold bestO
 rw [valid_two b1 b2 (by omega)]
 rfl
theorem best_cheap (b1 b2 : Nat) : bestO (twR 9000 b1 b2) ⟨1, 4, 7, 1⟩ ⟨27000, true, []⟩ = (27000, [], 0) := by
 unfold bestO
 rw [valid_two b1 b2 (by omega)]
 rfl
theorem best_other (b1 b2 : Nat) : bestO (twR 12000 b1 b2) ⟨2, 4, 7, 1⟩ noW = (0, [], 4) := by
 unfold bestO
 rw [valid_two b1 b2 (by omega)]
 rfl
theorem und_dears (b1 b2 : Nat) : ∀ a ∈ asksL (hasK (twR 12000 b1 b2)) 4 8 3 (1 : Int).toNat, UndAt (twR 12000 b1 b2) a (uDear a) := fun a ha => by
 obtain ⟨h1, h2, h3, h4, h5, h6, h7⟩ := asksL_mem ha
 obtain ⟨k, fr, un, ps⟩ := a
 simp only at h1 h2 h3 h4 h5 h6 h7
 rw [hasK_two, decide_eq_true_eq] at h7
 subst h7
 exact und_dear b1 b2 (by omega) (by omega)
theorem und_cheaps (b1 b2 : Nat) : ∀ a ∈ asksL (hasK (twR 9000 b1 b2)) 4 8 3 (1 : Int).toNat, UndAt (twR 9000 b1 b2) a none := fun a ha => by
 obtain ⟨h1, h2, h3, h4, h5, h6, h7⟩ := asksL_mem ha
 obtain ⟨k, fr, un, ps⟩ := a
 simp only at h1 h2 h3 h4 h5 h6 h7
 rw [hasK_two, decide_eq_true_eq] at h7
 subst h7
 exact und_cheap b1 b2 (by omega) (by omega)
theorem und_ones {c : Int} (b : Nat) (hc0 : 0 ≤ c) (hc1 : c ≤ 1000000) {fr un nn pp : Int} (hd : domB fr un nn pp = true) : ∀ a ∈ asksL (hasK [flR 3 c 1 60 b]) fr un nn pp.toNat, UndAt [flR 3 c 1 60 b] a none := fun a ha => by
 unfold domB inE at hd
 simp only [Bool.and_eq_true, decide_eq_true_eq] at hd
 obtain ⟨h1, h2, h3, h4, h5, h6, h7⟩ := asksL_mem ha
 obtain ⟨k, F, U, ps⟩ := a
 simp only at h1 h2 h3 h4 h5 h6 h7
 rw [hasK_one, decide_eq_true_eq] at h7
 exact und_one b hc0 hc1 (by omega) h7.symm (by omega)
theorem find_one {c : Int} (b : Nat) (hc0 : 0 ≤ c) (hc1 : c ≤ 1000000) (fr un nn pp : Int) : findV [flR 3 c 1 60 b] (fun _ => none) fr un nn pp = ([0, 0, 0, 0, 0, 0, 0], false, if domB fr un nn pp then 0 else 1) := by
 unfold findV
 rw [valid_one b (by omega) (by omega) (by omega)]
 cases domB fr un nn pp with
 | false => rfl
 | true =>
  rw [if_pos (show (true && true) = true from rfl), if_pos rfl, show ∀ l : List AskV, l.find? (fun a => (none : Option (Int × Int × Int)).isSome) = none from fun l => List.find?_eq_none.2 (fun a _ => by simp)]
  rfl
theorem results_cell1 {P : Program} {fn : Func} {p : Tmp} {t1 : TypeId} (h : fn.results = #[.cell p t1]) (tmps : Array Value) (w : World) {a1 : Addr} {v1 : Value} (h1 : tmps.getD p undef = .pointer (some a1)) (l1 : (loadVar t1 a1).run P w = .ok v1 w) : (results fn tmps).run P w = .ok v1 w := by
 have h1' : tmps[p]?.getD undef = .pointer (some a1) := by simpa using h1
 simp [results, h, h1', asAddr, l1]
theorem stB_alloc (w : World) (ob : Obj) (b o : Nat) (h : b < w.heap.size) : stB (w.alloc ob) (.pointer (some ⟨b, o, none⟩)) = stB w (.pointer (some ⟨b, o, none⟩)) := by
 have e : (w.alloc ob).heap[b]? = w.heap[b]? := Below.heap_alloc _ _ _ h
 unfold stB
 simp only [World.cell?, World.frozen?, e]
attribute [local go_sem] stB_alloc
set_option maxRecDepth 100000 in
set_option maxHeartbeats 3200000 in
theorem flat_any (id c ls ms : Int) (w : World) :
  Calls Try.prog 34 #[.int .i64 id, .int .i64 c, .int .i64 ls, .int .i64 ms] w fun e w' => ∃ b, e = .returned (.agg (flR id c ls ms b).cells.toArray) ∧ (flR id c ls ms b).In w' ∧ Below w.heap.size w w' := by
 go_enter Try.func34, Try.ntmps34
 go_upto_region 2 with fail
 have HB0 := Below.refl w.heap.size w
 obtain ⟨w1, hw1⟩ : ∃ x, World.alloc (World.alloc w (.cells #[.int .i64 0, .int .i64 0, .int .i64 0, .int .i64 0, .int .i64 0, .int .i64 0, .int .i64 0, .int .i64 0, .int .i64 0, .int .i64 0, .int .i64 0, .int .i64 0, .slice none 0 0, .int .i64 0, .int .i64 0, .slice none 0 0] 30)) (.cells #[.int .i64 1, .int .i64 0, .slice none 0 0] 24) = x := ⟨_, rfl⟩
 rw [hw1]
 have hb1 : Below w.heap.size w w1 := by rw [← hw1]; (repeat' (first | (with_reducible first | exact Below.refl _ _ | assumption | exact Bw.out (by assumption) | refine bw_alloc ?_ _ | refine bw_step ?_ (by assumption) | refine Below.alloc ?_ ?_ _ | refine Below.drew ?_ | refine below_drewN ?_ _ | refine Below.setCell ?_ ?_ _ | refine below_step ?_ (by assumption) ?_ | exact Nat.le_refl _) | omega | (simp; omega) | (simp; done)))
 have R_r_1 : Row w1 (w.heap.size) [.int .i64 (0), .int .i64 (0), .int .i64 (0), .int .i64 (0), .int .i64 (0), .int .i64 (0), .int .i64 (0), .int .i64 (0), .int .i64 (0), .int .i64 (0), .int .i64 (0), .int .i64 (0), .slice none 0 0, .int .i64 (0), .int .i64 (0), .slice none 0 0] := by rw [← hw1]; (repeat' (first | (with_reducible assumption) | (with_reducible refine Row.new' _ _ _ (by first | rfl | (simp; done) | omega)) | (with_reducible first | refine Row.alloc ?_ _ | refine Row.drew ?_ | refine Row.step ?_ (by assumption) | refine Row.drewN ?_ _) | (with_reducible refine Row.set2' ?_ _ _; first | exact ⟨_, _, by assumption⟩ | exact ⟨_, _, Row.alloc (by assumption) _⟩) | (with_reducible refine Row.other ?_ (by first | omega | (simp; omega)) _)))
 have c_r_0_1 := R_r_1.cell 0 rfl
 have c_r_1_1 := R_r_1.cell 1 rfl
 have c_r_2_1 := R_r_1.cell 2 rfl
 have c_r_3_1 := R_r_1.cell 3 rfl
 have c_r_4_1 := R_r_1.cell 4 rfl
 have c_r_5_1 := R_r_1.cell 5 rfl
 have c_r_6_1 := R_r_1.cell 6 rfl
 have c_r_7_1 := R_r_1.cell 7 rfl
 have c_r_8_1 := R_r_1.cell 8 rfl
 have c_r_9_1 := R_r_1.cell 9 rfl
 have c_r_10_1 := R_r_1.cell 10 rfl
 have c_r_11_1 := R_r_1.cell 11 rfl
 have c_r_12_1 := R_r_1.cell 12 rfl
 have c_r_13_1 := R_r_1.cell 13 rfl
 have c_r_14_1 := R_r_1.cell 14 rfl
 have c_r_15_1 := R_r_1.cell 15 rfl
 have z_r_0_1 := R_r_1.frozen 0
 have z_r_1_1 := R_r_1.frozen 1
 have z_r_2_1 := R_r_1.frozen 2
 have z_r_3_1 := R_r_1.frozen 3
 have z_r_4_1 := R_r_1.frozen 4
 have z_r_5_1 := R_r_1.frozen 5
 have z_r_6_1 := R_r_1.frozen 6
 have z_r_7_1 := R_r_1.frozen 7
 have z_r_8_1 := R_r_1.frozen 8
 have z_r_9_1 := R_r_1.frozen 9
 have z_r_10_1 := R_r_1.frozen 10
 have z_r_11_1 := R_r_1.frozen 11
 have z_r_12_1 := R_r_1.frozen 12
 have z_r_13_1 := R_r_1.frozen 13
 have z_r_14_1 := R_r_1.frozen 14
 have z_r_15_1 := R_r_1.frozen 15
 have d_r_1 := ldV_row R_r_1 rfl
 have s_r_1 := stB_row R_r_1 rfl
 have l_r_1 := R_r_1.lt
 have R_x_1 : Row w1 (w.heap.size + 1) [.int .i64 (1), .int .i64 (0), .slice none 0 0] := by rw [← hw1]; (repeat' (first | (with_reducible assumption) | (with_reducible refine Row.new' _ _ _ (by first | rfl | (simp; done) | omega)) | (with_reducible first | refine Row.alloc ?_ _ | refine Row.drew ?_ | refine Row.step ?_ (by assumption) | refine Row.drewN ?_ _) | (with_reducible refine Row.set2' ?_ _ _; first | exact ⟨_, _, by assumption⟩ | exact ⟨_, _, Row.alloc (by assumption) _⟩) | (with_reducible refine Row.other ?_ (by first | omega | (simp; omega)) _)))
 have c_x_0_1 := R_x_1.cell 0 rfl
 have c_x_1_1 := R_x_1.cell 1 rfl
 have c_x_2_1 := R_x_1.cell 2 rfl
 have l_x_1 := R_x_1.lt
 have HB1 := HB0.trans (hb1.mono HB0.size)
 have hs1 := hb1.size
 have hz1 := HB1.size
 have hal : Below w1.heap.size w1 (w1.alloc (.cells #[.int .i64 1, .int .i64 0, .slice none 0 0, .int .i64 1, .int .i64 0, .slice none 0 0] 24)) := (Below.refl _ _).alloc (Nat.le_refl _) _
 have HK : Hid (Row (w1.alloc (.cells #[.int .i64 1, .int .i64 0, .slice none 0 0, .int .i64 1, .int .i64 0, .slice none 0 0] 24)) w1.heap.size [.int .i64 1, .int .i64 0, .slice none 0 0, .int .i64 1, .int .i64 0, .slice none 0 0]) := Row.new' _ _ _ rfl
 have HR := Lib.hid (R_r_1.step hal)
 have HB := Lib.hid (HB1.trans (hal.mono HB1.size))
 have hl := l_r_1
 clear hal
 repeat go_step
 obtain ⟨a1, a2⟩ := stW_row HR.out rfl #[.int .i64 id, .int .i64 0, .int .i64 1, .int .i64 0, .int .i64 366, .int .i64 ls, .int .i64 ms, .int .i64 127, .int .i64 0, .int .i64 1, .int .i64 12, .int .i64 0, .slice (some ⟨w1.heap.size, 0, none⟩) 2 2, .int .i64 2, .int .i64 c, .slice none 0 0] rfl
 have hk := HK.out.ch a2 (show ¬ w1.heap.size = w.heap.size by omega)
 have hI : (flR id c ls ms w1.heap.size).In _ := ⟨nd_row2 hk 12 (lf 1 0) (lf 1 0) rfl (lf_in _ _ _) (lf_in _ _ _), lf_in 2 c _⟩
 exact bodyPost_ret (v := .agg (flR id c ls ms w1.heap.size).cells.toArray) (results_cell1 Try.results34 _ _ rfl (loadVar_rate a1 rfl)) rfl ⟨w1.heap.size, rfl, hI, a2.below HB.out (fun b e => by omega) HB.out.size⟩
end
section
set_option linter.unusedSimpArgs false
set_option linter.unusedVariables false
open Go.RowKit
theorem flat_l (id c ls ms : Int) (w : World) :
  Calls Try.prog 34 #[.int .i64 id, .int .i64 c, .int .i64 ls, .int .i64 ms] w fun e w' => ∃ b, e = .returned (.agg #[.int .i64 id, .int .i64 0, .int .i64 1, .int .i64 0, .int .i64 366, .int .i64 ls, .int .i64 ms, .int .i64 127, .int .i64 0, .int .i64 1, .int .i64 12, .int .i64 0, .slice (some ⟨b, 0, none⟩) 2 2, .int .i64 2, .int .i64 c, .slice none 0 0]) ∧ (flR id c ls ms b).In w' ∧ Below w.heap.size w w' := flat_any id c ls ms w
theorem find_d {ad : Option Addr} {cap b1 b2 : Nat} {w : World} (hs : SlR w ad 2 (twR 12000 b1 b2)) :
  Calls Try.prog 33 #[.slice ad 2 cap, .agg #[.int .i64 4, .int .i64 8, .int .i64 3, .int .i64 1]] w fun e w' => e = .returned (.tuple #[.agg #[.int .i64 1, .int .i64 4, .int .i64 7, .int .i64 1, .int .i64 5, .int .i64 36000, .int .i64 30000], .bool true, .int .i64 0]) ∧ Below w.heap.size w w' :=
 Find_any ad 2 cap _ 4 8 3 1 w hs (by omega) uDear (fun _ _ => und_dears b1 b2) _ _ _ (find_dear b1 b2)
theorem find_c {ad : Option Addr} {cap b1 b2 : Nat} {w : World} (hs : SlR w ad 2 (twR 9000 b1 b2)) :
  Calls Try.prog 33 #[.slice ad 2 cap, .agg #[.int .i64 4, .int .i64 8, .int .i64 3, .int .i64 1]] w fun e w' => e = .returned (.tuple #[.agg #[.int .i64 0, .int .i64 0, .int .i64 0, .int .i64 0, .int .i64 0, .int .i64 0, .int .i64 0], .bool false, .int .i64 0]) ∧ Below w.heap.size w w' :=
 Find_any ad 2 cap _ 4 8 3 1 w hs (by omega) (fun _ => none) (fun _ _ => und_cheaps b1 b2) _ _ _ (find_cheap b1 b2)
theorem best_d {ad : Option Addr} {cap b1 b2 : Nat} {w : World} (hs : SlR w ad 2 (twR 12000 b1 b2)) :
  Calls Try.prog 58 #[.slice ad 2 cap, .agg #[.int .i64 1, .int .i64 4, .int .i64 7, .int .i64 1]] w fun e w' => ∃ v, e = .returned (.tuple #[.int .i64 30000, v, .int .i64 0]) ∧ SlV w' v [5] ∧ Below w.heap.size w w' :=
 Best_any ad 2 cap _ 1 4 7 1 (W3d w3dear 7) w hs (by omega) (fun _ => rec_dear b1 b2 (by omega) (by omega)) ⟨30000, true, [5]⟩ rfl _ _ _ (best_dear b1 b2)
theorem best_c {ad : Option Addr} {cap b1 b2 : Nat} {w : World} (hs : SlR w ad 2 (twR 9000 b1 b2)) :
  Calls Try.prog 58 #[.slice ad 2 cap, .agg #[.int .i64 1, .int .i64 4, .int .i64 7, .int .i64 1]] w fun e w' => ∃ v, e = .returned (.tuple #[.int .i64 27000, v, .int .i64 0]) ∧ SlV w' v [] ∧ Below w.heap.size w w' :=
 Best_any ad 2 cap _ 1 4 7 1 (W3d w3cheap 7) w hs (by omega) (fun _ => rec_cheap b1 b2 (by omega) (by omega)) ⟨27000, true, []⟩ rfl _ _ _ (best_cheap b1 b2)
theorem best_o {ad : Option Addr} {cap b1 b2 : Nat} {w : World} (hs : SlR w ad 2 (twR 12000 b1 b2)) :
  Calls Try.prog 58 #[.slice ad 2 cap, .agg #[.int .i64 2, .int .i64 4, .int .i64 7, .int .i64 1]] w fun e w' => ∃ v, e = .returned (.tuple #[.int .i64 0, v, .int .i64 4]) ∧ SlV w' v [] ∧ Below w.heap.size w w' :=
 Best_any ad 2 cap _ 2 4 7 1 (fun _ => noW) w hs (by omega) (fun _ => rec_no (fun x y h1 h2 h3 => cost_two0 b1 b2 (by decide) (by simp only at *; omega))) noW rfl _ _ _ (best_other b1 b2)
theorem shows_d {ad : Option Addr} {cap b1 b2 : Nat} {w : World} (hs : SlR w ad 2 (twR 12000 b1 b2)) :
  Calls Try.prog 59 #[.slice ad 2 cap, .agg #[.int .i64 1, .int .i64 4, .int .i64 7, .int .i64 1, .int .i64 5, .int .i64 36000, .int .i64 30000]] w fun e w' => e = .returned (.tuple #[.bool true, .int .i64 0]) ∧ Below w.heap.size w w' :=
 Shows_yes ad 2 cap _ 1 4 7 1 5 36000 30000 w hs (by omega) (by rw [valid_two b1 b2 (by omega)]; rfl) (und_dear b1 b2 (by omega) (by omega))
theorem shows_z {ad : Option Addr} {cap b1 b2 : Nat} {w : World} (hs : SlR w ad 2 (twR 12000 b1 b2)) :
  Calls Try.prog 59 #[.slice ad 2 cap, .agg #[.int .i64 0, .int .i64 0, .int .i64 0, .int .i64 0, .int .i64 0, .int .i64 0, .int .i64 0]] w fun e w' => e = .returned (.tuple #[.bool false, .int .i64 1]) ∧ Below w.heap.size w w' :=
 Shows_bad ad 2 cap _ 0 0 0 0 0 0 0 w hs (by omega) (by rw [valid_two b1 b2 (by omega)]; rfl)
set_option maxRecDepth 100000 in
set_option maxHeartbeats 6400000 in
theorem head_any (w : World) : Calls Try.prog 31 #[] w fun e w' => e = .returned (.bool true) ∧ Below w.heap.size w w' := by
 go_enter Try.func31, Try.ntmps31
 go_wp2_with fail
 refine (flat_l 1 10000 1 2 _).mono ?_
 rintro e w1 ⟨b1, rfl, hi1, hb1⟩
 have HB1 : Below w.heap.size w w1 := by (repeat' (first | (with_reducible first | exact Below.refl _ _ | assumption | exact Bw.out (by assumption) | refine bw_alloc ?_ _ | refine bw_step ?_ (by assumption) | refine Below.alloc ?_ ?_ _ | refine Below.drew ?_ | refine below_drewN ?_ _ | refine Below.setCell ?_ ?_ _ | refine below_step ?_ (by assumption) ?_ | exact Nat.le_refl _) | omega | (simp; omega) | (simp; done)))
 go_wp2_with fail
 refine (flat_l 2 12000 3 3 _).mono ?_
 rintro e w2 ⟨b2, rfl, hi2, hb2⟩
 replace hi1 := hi1.step (show Below w1.heap.size w1 w2 by (repeat' (first | (with_reducible first | exact Below.refl _ _ | assumption | exact Bw.out (by assumption) | refine bw_alloc ?_ _ | refine bw_step ?_ (by assumption) | refine Below.alloc ?_ ?_ _ | refine Below.drew ?_ | refine below_drewN ?_ _ | refine Below.setCell ?_ ?_ _ | refine below_step ?_ (by assumption) ?_ | exact Nat.le_refl _) | omega | (simp; omega) | (simp; done))))
 have HB2 : Below w.heap.size w w2 := by (repeat' (first | (with_reducible first | exact Below.refl _ _ | assumption | exact Bw.out (by assumption) | refine bw_alloc ?_ _ | refine bw_step ?_ (by assumption) | refine Below.alloc ?_ ?_ _ | refine Below.drew ?_ | refine below_drewN ?_ _ | refine Below.setCell ?_ ?_ _ | refine below_step ?_ (by assumption) ?_ | exact Nat.le_refl _) | omega | (simp; omega) | (simp; done)))
 clear hb1 HB1
 go_wp2_with fail
 refine (flat_l 1 10000 1 2 _).mono ?_
 rintro e w3 ⟨b3, rfl, hi3, hb3⟩
 have R_r_3 : Row w3 (w2.heap.size) [.int .i64 1, .int .i64 0, .int .i64 1, .int .i64 0, .int .i64 366, .int .i64 1, .int .i64 2, .int .i64 127, .int .i64 0, .int .i64 1, .int .i64 12, .int .i64 0, .slice (some ⟨b1, 0, none⟩) 2 2, .int .i64 2, .int .i64 10000, .slice none 0 0, .int .i64 2, .int .i64 0, .int .i64 1, .int .i64 0, .int .i64 366, .int .i64 3, .int .i64 3, .int .i64 127, .int .i64 0, .int .i64 1, .int .i64 12, .int .i64 0, .slice (some ⟨b2, 0, none⟩) 2 2, .int .i64 2, .int .i64 12000, .slice none 0 0] := by (repeat' (first | (with_reducible assumption) | (with_reducible refine Row.new' _ _ _ (by first | rfl | (simp; done) | omega)) | (with_reducible first | refine Row.alloc ?_ _ | refine Row.drew ?_ | refine Row.step ?_ (by assumption) | refine Row.drewN ?_ _) | (with_reducible refine Row.set2' ?_ _ _; first | exact ⟨_, _, by assumption⟩ | exact ⟨_, _, Row.alloc (by assumption) _⟩) | (with_reducible refine Row.other ?_ (by first | omega | (simp; omega)) _)))
 have c_r_0_3 := R_r_3.cell 0 rfl
 have c_r_1_3 := R_r_3.cell 1 rfl
 have c_r_2_3 := R_r_3.cell 2 rfl
 have c_r_3_3 := R_r_3.cell 3 rfl
 have c_r_4_3 := R_r_3.cell 4 rfl
 have c_r_5_3 := R_r_3.cell 5 rfl
 have c_r_6_3 := R_r_3.cell 6 rfl
 have c_r_7_3 := R_r_3.cell 7 rfl
 have c_r_8_3 := R_r_3.cell 8 rfl
 have c_r_9_3 := R_r_3.cell 9 rfl
 have c_r_10_3 := R_r_3.cell 10 rfl
 have c_r_11_3 := R_r_3.cell 11 rfl
 have c_r_12_3 := R_r_3.cell 12 rfl
 have c_r_13_3 := R_r_3.cell 13 rfl
 have c_r_14_3 := R_r_3.cell 14 rfl
 have c_r_15_3 := R_r_3.cell 15 rfl
 have c_r_16_3 := R_r_3.cell 16 rfl
 have c_r_17_3 := R_r_3.cell 17 rfl
 have c_r_18_3 := R_r_3.cell 18 rfl
 have c_r_19_3 := R_r_3.cell 19 rfl
 have c_r_20_3 := R_r_3.cell 20 rfl
 have c_r_21_3 := R_r_3.cell 21 rfl
 have c_r_22_3 := R_r_3.cell 22 rfl
 have c_r_23_3 := R_r_3.cell 23 rfl
 have c_r_24_3 := R_r_3.cell 24 rfl
 have c_r_25_3 := R_r_3.cell 25 rfl
 have c_r_26_3 := R_r_3.cell 26 rfl
 have c_r_27_3 := R_r_3.cell 27 rfl
 have c_r_28_3 := R_r_3.cell 28 rfl
 have c_r_29_3 := R_r_3.cell 29 rfl
 have c_r_30_3 := R_r_3.cell 30 rfl
 have c_r_31_3 := R_r_3.cell 31 rfl
 have l_r_3 := R_r_3.lt
 replace hi1 := hi1.step (show Below w2.heap.size w2 w3 by (repeat' (first | (with_reducible first | exact Below.refl _ _ | assumption | exact Bw.out (by assumption) | refine bw_alloc ?_ _ | refine bw_step ?_ (by assumption) | refine Below.alloc ?_ ?_ _ | refine Below.drew ?_ | refine below_drewN ?_ _ | refine Below.setCell ?_ ?_ _ | refine below_step ?_ (by assumption) ?_ | exact Nat.le_refl _) | omega | (simp; omega) | (simp; done))))
 replace hi2 := hi2.step (show Below w2.heap.size w2 w3 by (repeat' (first | (with_reducible first | exact Below.refl _ _ | assumption | exact Bw.out (by assumption) | refine bw_alloc ?_ _ | refine bw_step ?_ (by assumption) | refine Below.alloc ?_ ?_ _ | refine Below.drew ?_ | refine below_drewN ?_ _ | refine Below.setCell ?_ ?_ _ | refine below_step ?_ (by assumption) ?_ | exact Nat.le_refl _) | omega | (simp; omega) | (simp; done))))
 have HB3 : Below w.heap.size w w3 := by (repeat' (first | (with_reducible first | exact Below.refl _ _ | assumption | exact Bw.out (by assumption) | refine bw_alloc ?_ _ | refine bw_step ?_ (by assumption) | refine Below.alloc ?_ ?_ _ | refine Below.drew ?_ | refine below_drewN ?_ _ | refine Below.setCell ?_ ?_ _ | refine below_step ?_ (by assumption) ?_ | exact Nat.le_refl _) | omega | (simp; omega) | (simp; done)))
 clear hb2 HB2
 have hs1 : SlR w3 (some ⟨w2.heap.size, 0, none⟩) 2 (twR 12000 b1 b2) := slr_row R_r_3 (twR 12000 b1 b2) rfl (fun x hx => by simp only [List.mem_cons, List.not_mem_nil, or_false] at hx; rcases hx with rfl | rfl; exact hi1; exact hi2) 2 rfl
 clear hi1 hi2
 go_wp2_with fail
 refine (flat_l 2 9000 3 3 _).mono ?_
 rintro e w4 ⟨b4, rfl, hi4, hb4⟩
 replace hs1 := hs1.step (show Below w3.heap.size w3 w4 by (repeat' (first | (with_reducible first | exact Below.refl _ _ | assumption | exact Bw.out (by assumption) | refine bw_alloc ?_ _ | refine bw_step ?_ (by assumption) | refine Below.alloc ?_ ?_ _ | refine Below.drew ?_ | refine below_drewN ?_ _ | refine Below.setCell ?_ ?_ _ | refine below_step ?_ (by assumption) ?_ | exact Nat.le_refl _) | omega | (simp; omega) | (simp; done))))
 replace hi3 := hi3.step (show Below w3.heap.size w3 w4 by (repeat' (first | (with_reducible first | exact Below.refl _ _ | assumption | exact Bw.out (by assumption) | refine bw_alloc ?_ _ | refine bw_step ?_ (by assumption) | refine Below.alloc ?_ ?_ _ | refine Below.drew ?_ | refine below_drewN ?_ _ | refine Below.setCell ?_ ?_ _ | refine below_step ?_ (by assumption) ?_ | exact Nat.le_refl _) | omega | (simp; omega) | (simp; done))))
 have HB4 : Below w.heap.size w w4 := by (repeat' (first | (with_reducible first | exact Below.refl _ _ | assumption | exact Bw.out (by assumption) | refine bw_alloc ?_ _ | refine bw_step ?_ (by assumption) | refine Below.alloc ?_ ?_ _ | refine Below.drew ?_ | refine below_drewN ?_ _ | refine Below.setCell ?_ ?_ _ | refine below_step ?_ (by assumption) ?_ | exact Nat.le_refl _) | omega | (simp; omega) | (simp; done)))
 clear R_r_3 c_r_0_3 c_r_1_3 c_r_2_3 c_r_3_3 c_r_4_3 c_r_5_3 c_r_6_3 c_r_7_3 c_r_8_3 c_r_9_3 c_r_10_3 c_r_11_3 c_r_12_3 c_r_13_3 c_r_14_3 c_r_15_3 c_r_16_3 c_r_17_3 c_r_18_3 c_r_19_3 c_r_20_3 c_r_21_3 c_r_22_3 c_r_23_3 c_r_24_3 c_r_25_3 c_r_26_3 c_r_27_3 c_r_28_3 c_r_29_3 c_r_30_3 c_r_31_3 hb3 HB3
 go_wp2_with fail
 refine (find_d (hs1.step (by (repeat' (first | (with_reducible first | exact Below.refl _ _ | assumption | exact Bw.out (by assumption) | refine bw_alloc ?_ _ | refine bw_step ?_ (by assumption) | refine Below.alloc ?_ ?_ _ | refine Below.drew ?_ | refine below_drewN ?_ _ | refine Below.setCell ?_ ?_ _ | refine below_step ?_ (by assumption) ?_ | exact Nat.le_refl _) | omega | (simp; omega) | (simp; done)))))).mono ?_
 rintro e w5 ⟨rfl, hb5⟩
 have R_r_5 : Row w5 (w4.heap.size) [.int .i64 1, .int .i64 0, .int .i64 1, .int .i64 0, .int .i64 366, .int .i64 1, .int .i64 2, .int .i64 127, .int .i64 0, .int .i64 1, .int .i64 12, .int .i64 0, .slice (some ⟨b3, 0, none⟩) 2 2, .int .i64 2, .int .i64 10000, .slice none 0 0, .int .i64 2, .int .i64 0, .int .i64 1, .int .i64 0, .int .i64 366, .int .i64 3, .int .i64 3, .int .i64 127, .int .i64 0, .int .i64 1, .int .i64 12, .int .i64 0, .slice (some ⟨b4, 0, none⟩) 2 2, .int .i64 2, .int .i64 9000, .slice none 0 0] := by (repeat' (first | (with_reducible assumption) | (with_reducible refine Row.new' _ _ _ (by first | rfl | (simp; done) | omega)) | (with_reducible first | refine Row.alloc ?_ _ | refine Row.drew ?_ | refine Row.step ?_ (by assumption) | refine Row.drewN ?_ _) | (with_reducible refine Row.set2' ?_ _ _; first | exact ⟨_, _, by assumption⟩ | exact ⟨_, _, Row.alloc (by assumption) _⟩) | (with_reducible refine Row.other ?_ (by first | omega | (simp; omega)) _)))
 have c_r_0_5 := R_r_5.cell 0 rfl
 have c_r_1_5 := R_r_5.cell 1 rfl
 have c_r_2_5 := R_r_5.cell 2 rfl
 have c_r_3_5 := R_r_5.cell 3 rfl
 have c_r_4_5 := R_r_5.cell 4 rfl
 have c_r_5_5 := R_r_5.cell 5 rfl
 have c_r_6_5 := R_r_5.cell 6 rfl
 have c_r_7_5 := R_r_5.cell 7 rfl
 have c_r_8_5 := R_r_5.cell 8 rfl
 have c_r_9_5 := R_r_5.cell 9 rfl
 have c_r_10_5 := R_r_5.cell 10 rfl
 have c_r_11_5 := R_r_5.cell 11 rfl
 have c_r_12_5 := R_r_5.cell 12 rfl
 have c_r_13_5 := R_r_5.cell 13 rfl
 have c_r_14_5 := R_r_5.cell 14 rfl
 have c_r_15_5 := R_r_5.cell 15 rfl
 have c_r_16_5 := R_r_5.cell 16 rfl
 have c_r_17_5 := R_r_5.cell 17 rfl
 have c_r_18_5 := R_r_5.cell 18 rfl
 have c_r_19_5 := R_r_5.cell 19 rfl
 have c_r_20_5 := R_r_5.cell 20 rfl
 have c_r_21_5 := R_r_5.cell 21 rfl
 have c_r_22_5 := R_r_5.cell 22 rfl
 have c_r_23_5 := R_r_5.cell 23 rfl
 have c_r_24_5 := R_r_5.cell 24 rfl
 have c_r_25_5 := R_r_5.cell 25 rfl
 have c_r_26_5 := R_r_5.cell 26 rfl
 have c_r_27_5 := R_r_5.cell 27 rfl
 have c_r_28_5 := R_r_5.cell 28 rfl
 have c_r_29_5 := R_r_5.cell 29 rfl
 have c_r_30_5 := R_r_5.cell 30 rfl
 have c_r_31_5 := R_r_5.cell 31 rfl
 have l_r_5 := R_r_5.lt
 have R_d_5 : Row w5 (w4.heap.size + 1) [.int .i64 (4), .int .i64 (8), .int .i64 (3), .int .i64 (1)] := by (repeat' (first | (with_reducible assumption) | (with_reducible refine Row.new' _ _ _ (by first | rfl | (simp; done) | omega)) | (with_reducible first | refine Row.alloc ?_ _ | refine Row.drew ?_ | refine Row.step ?_ (by assumption) | refine Row.drewN ?_ _) | (with_reducible refine Row.set2' ?_ _ _; first | exact ⟨_, _, by assumption⟩ | exact ⟨_, _, Row.alloc (by assumption) _⟩) | (with_reducible refine Row.other ?_ (by first | omega | (simp; omega)) _)))
 have c_d_0_5 := R_d_5.cell 0 rfl
 have c_d_1_5 := R_d_5.cell 1 rfl
 have c_d_2_5 := R_d_5.cell 2 rfl
 have c_d_3_5 := R_d_5.cell 3 rfl
 have l_d_5 := R_d_5.lt
 have R_a_5 : Row w5 (w4.heap.size + 1 + 1) [.int .i64 (1), .int .i64 (4), .int .i64 (7), .int .i64 (1)] := by (repeat' (first | (with_reducible assumption) | (with_reducible refine Row.new' _ _ _ (by first | rfl | (simp; done) | omega)) | (with_reducible first | refine Row.alloc ?_ _ | refine Row.drew ?_ | refine Row.step ?_ (by assumption) | refine Row.drewN ?_ _) | (with_reducible refine Row.set2' ?_ _ _; first | exact ⟨_, _, by assumption⟩ | exact ⟨_, _, Row.alloc (by assumption) _⟩) | (with_reducible refine Row.other ?_ (by first | omega | (simp; omega)) _)))
 have c_a_0_5 := R_a_5.cell 0 rfl
 have c_a_1_5 := R_a_5.cell 1 rfl
 have c_a_2_5 := R_a_5.cell 2 rfl
 have c_a_3_5 := R_a_5.cell 3 rfl
 have l_a_5 := R_a_5.lt
 replace hs1 := hs1.step (show Below w4.heap.size w4 w5 by (repeat' (first | (with_reducible first | exact Below.refl _ _ | assumption | exact Bw.out (by assumption) | refine bw_alloc ?_ _ | refine bw_step ?_ (by assumption) | refine Below.alloc ?_ ?_ _ | refine Below.drew ?_ | refine below_drewN ?_ _ | refine Below.setCell ?_ ?_ _ | refine below_step ?_ (by assumption) ?_ | exact Nat.le_refl _) | omega | (simp; omega) | (simp; done))))
 replace hi3 := hi3.step (show Below w4.heap.size w4 w5 by (repeat' (first | (with_reducible first | exact Below.refl _ _ | assumption | exact Bw.out (by assumption) | refine bw_alloc ?_ _ | refine bw_step ?_ (by assumption) | refine Below.alloc ?_ ?_ _ | refine Below.drew ?_ | refine below_drewN ?_ _ | refine Below.setCell ?_ ?_ _ | refine below_step ?_ (by assumption) ?_ | exact Nat.le_refl _) | omega | (simp; omega) | (simp; done))))
 replace hi4 := hi4.step (show Below w4.heap.size w4 w5 by (repeat' (first | (with_reducible first | exact Below.refl _ _ | assumption | exact Bw.out (by assumption) | refine bw_alloc ?_ _ | refine bw_step ?_ (by assumption) | refine Below.alloc ?_ ?_ _ | refine Below.drew ?_ | refine below_drewN ?_ _ | refine Below.setCell ?_ ?_ _ | refine below_step ?_ (by assumption) ?_ | exact Nat.le_refl _) | omega | (simp; omega) | (simp; done))))
 have HB5 : Below w.heap.size w w5 := by (repeat' (first | (with_reducible first | exact Below.refl _ _ | assumption | exact Bw.out (by assumption) | refine bw_alloc ?_ _ | refine bw_step ?_ (by assumption) | refine Below.alloc ?_ ?_ _ | refine Below.drew ?_ | refine below_drewN ?_ _ | refine Below.setCell ?_ ?_ _ | refine below_step ?_ (by assumption) ?_ | exact Nat.le_refl _) | omega | (simp; omega) | (simp; done)))
 clear hb4 HB4
 have hs2 : SlR w5 (some ⟨w4.heap.size, 0, none⟩) 2 (twR 9000 b3 b4) := slr_row R_r_5 (twR 9000 b3 b4) rfl (fun x hx => by simp only [List.mem_cons, List.not_mem_nil, or_false] at hx; rcases hx with rfl | rfl; exact hi3; exact hi4) 2 rfl
 clear hi3 hi4
 go_wp2_with fail
 refine (find_c (hs2.step (by (repeat' (first | (with_reducible first | exact Below.refl _ _ | assumption | exact Bw.out (by assumption) | refine bw_alloc ?_ _ | refine bw_step ?_ (by assumption) | refine Below.alloc ?_ ?_ _ | refine Below.drew ?_ | refine below_drewN ?_ _ | refine Below.setCell ?_ ?_ _ | refine below_step ?_ (by assumption) ?_ | exact Nat.le_refl _) | omega | (simp; omega) | (simp; done)))))).mono ?_
 rintro e w6 ⟨rfl, hb6⟩
 have R_d_6 : Row w6 (w4.heap.size + 1) [.int .i64 (4), .int .i64 (8), .int .i64 (3), .int .i64 (1)] := by (repeat' (first | (with_reducible assumption) | (with_reducible refine Row.new' _ _ _ (by first | rfl | (simp; done) | omega)) | (with_reducible first | refine Row.alloc ?_ _ | refine Row.drew ?_ | refine Row.step ?_ (by assumption) | refine Row.drewN ?_ _) | (with_reducible refine Row.set2' ?_ _ _; first | exact ⟨_, _, by assumption⟩ | exact ⟨_, _, Row.alloc (by assumption) _⟩) | (with_reducible refine Row.other ?_ (by first | omega | (simp; omega)) _)))
 have c_d_0_6 := R_d_6.cell 0 rfl
 have c_d_1_6 := R_d_6.cell 1 rfl
 have c_d_2_6 := R_d_6.cell 2 rfl
 have c_d_3_6 := R_d_6.cell 3 rfl
 have l_d_6 := R_d_6.lt
 have R_a_6 : Row w6 (w4.heap.size + 1 + 1) [.int .i64 (1), .int .i64 (4), .int .i64 (7), .int .i64 (1)] := by (repeat' (first | (with_reducible assumption) | (with_reducible refine Row.new' _ _ _ (by first | rfl | (simp; done) | omega)) | (with_reducible first | refine Row.alloc ?_ _ | refine Row.drew ?_ | refine Row.step ?_ (by assumption) | refine Row.drewN ?_ _) | (with_reducible refine Row.set2' ?_ _ _; first | exact ⟨_, _, by assumption⟩ | exact ⟨_, _, Row.alloc (by assumption) _⟩) | (with_reducible refine Row.other ?_ (by first | omega | (simp; omega)) _)))
 have c_a_0_6 := R_a_6.cell 0 rfl
 have c_a_1_6 := R_a_6.cell 1 rfl
 have c_a_2_6 := R_a_6.cell 2 rfl
 have c_a_3_6 := R_a_6.cell 3 rfl
 have l_a_6 := R_a_6.lt
 have R_s_6 : Row w6 (w5.heap.size) [.int .i64 (1), .int .i64 (4), .int .i64 (7), .int .i64 (1), .int .i64 (5), .int .i64 (36000), .int .i64 (30000)] := by (repeat' (first | (with_reducible assumption) | (with_reducible refine Row.new' _ _ _ (by first | rfl | (simp; done) | omega)) | (with_reducible first | refine Row.alloc ?_ _ | refine Row.drew ?_ | refine Row.step ?_ (by assumption) | refine Row.drewN ?_ _) | (with_reducible refine Row.set2' ?_ _ _; first | exact ⟨_, _, by assumption⟩ | exact ⟨_, _, Row.alloc (by assumption) _⟩) | (with_reducible refine Row.other ?_ (by first | omega | (simp; omega)) _)))
 have c_s_0_6 := R_s_6.cell 0 rfl
 have c_s_1_6 := R_s_6.cell 1 rfl
 have c_s_2_6 := R_s_6.cell 2 rfl
 have c_s_3_6 := R_s_6.cell 3 rfl
 have c_s_4_6 := R_s_6.cell 4 rfl
 have c_s_5_6 := R_s_6.cell 5 rfl
 have c_s_6_6 := R_s_6.cell 6 rfl
 have l_s_6 := R_s_6.lt
 replace hs1 := hs1.step (show Below w5.heap.size w5 w6 by (repeat' (first | (with_reducible first | exact Below.refl _ _ | assumption | exact Bw.out (by assumption) | refine bw_alloc ?_ _ | refine bw_step ?_ (by assumption) | refine Below.alloc ?_ ?_ _ | refine Below.drew ?_ | refine below_drewN ?_ _ | refine Below.setCell ?_ ?_ _ | refine below_step ?_ (by assumption) ?_ | exact Nat.le_refl _) | omega | (simp; omega) | (simp; done))))
 replace hs2 := hs2.step (show Below w5.heap.size w5 w6 by (repeat' (first | (with_reducible first | exact Below.refl _ _ | assumption | exact Bw.out (by assumption) | refine bw_alloc ?_ _ | refine bw_step ?_ (by assumption) | refine Below.alloc ?_ ?_ _ | refine Below.drew ?_ | refine below_drewN ?_ _ | refine Below.setCell ?_ ?_ _ | refine below_step ?_ (by assumption) ?_ | exact Nat.le_refl _) | omega | (simp; omega) | (simp; done))))
 have HB6 : Below w.heap.size w w6 := by (repeat' (first | (with_reducible first | exact Below.refl _ _ | assumption | exact Bw.out (by assumption) | refine bw_alloc ?_ _ | refine bw_step ?_ (by assumption) | refine Below.alloc ?_ ?_ _ | refine Below.drew ?_ | refine below_drewN ?_ _ | refine Below.setCell ?_ ?_ _ | refine below_step ?_ (by assumption) ?_ | exact Nat.le_refl _) | omega | (simp; omega) | (simp; done)))
 clear R_r_5 c_r_0_5 c_r_1_5 c_r_2_5 c_r_3_5 c_r_4_5 c_r_5_5 c_r_6_5 c_r_7_5 c_r_8_5 c_r_9_5 c_r_10_5 c_r_11_5 c_r_12_5 c_r_13_5 c_r_14_5 c_r_15_5 c_r_16_5 c_r_17_5 c_r_18_5 c_r_19_5 c_r_20_5 c_r_21_5 c_r_22_5 c_r_23_5 c_r_24_5 c_r_25_5 c_r_26_5 c_r_27_5 c_r_28_5 c_r_29_5 c_r_30_5 c_r_31_5 R_d_5 c_d_0_5 c_d_1_5 c_d_2_5 c_d_3_5 R_a_5 c_a_0_5 c_a_1_5 c_a_2_5 c_a_3_5 hb5 HB5
 go_wp2_with fail
 refine (best_d (hs1.step (by (repeat' (first | (with_reducible first | exact Below.refl _ _ | assumption | exact Bw.out (by assumption) | refine bw_alloc ?_ _ | refine bw_step ?_ (by assumption) | refine Below.alloc ?_ ?_ _ | refine Below.drew ?_ | refine below_drewN ?_ _ | refine Below.setCell ?_ ?_ _ | refine below_step ?_ (by assumption) ?_ | exact Nat.le_refl _) | omega | (simp; omega) | (simp; done)))))).mono ?_
 rintro e w7 ⟨v1, rfl, hv1, hb7⟩
 have R_d_7 : Row w7 (w4.heap.size + 1) [.int .i64 (4), .int .i64 (8), .int .i64 (3), .int .i64 (1)] := by (repeat' (first | (with_reducible assumption) | (with_reducible refine Row.new' _ _ _ (by first | rfl | (simp; done) | omega)) | (with_reducible first | refine Row.alloc ?_ _ | refine Row.drew ?_ | refine Row.step ?_ (by assumption) | refine Row.drewN ?_ _) | (with_reducible refine Row.set2' ?_ _ _; first | exact ⟨_, _, by assumption⟩ | exact ⟨_, _, Row.alloc (by assumption) _⟩) | (with_reducible refine Row.other ?_ (by first | omega | (simp; omega)) _)))
 have c_d_0_7 := R_d_7.cell 0 rfl
 have c_d_1_7 := R_d_7.cell 1 rfl
 have c_d_2_7 := R_d_7.cell 2 rfl
 have c_d_3_7 := R_d_7.cell 3 rfl
 have l_d_7 := R_d_7.lt
 have R_a_7 : Row w7 (w4.heap.size + 1 + 1) [.int .i64 (1), .int .i64 (4), .int .i64 (7), .int .i64 (1)] := by (repeat' (first | (with_reducible assumption) | (with_reducible refine Row.new' _ _ _ (by first | rfl | (simp; done) | omega)) | (with_reducible first | refine Row.alloc ?_ _ | refine Row.drew ?_ | refine Row.step ?_ (by assumption) | refine Row.drewN ?_ _) | (with_reducible refine Row.set2' ?_ _ _; first | exact ⟨_, _, by assumption⟩ | exact ⟨_, _, Row.alloc (by assumption) _⟩) | (with_reducible refine Row.other ?_ (by first | omega | (simp; omega)) _)))
 have c_a_0_7 := R_a_7.cell 0 rfl
 have c_a_1_7 := R_a_7.cell 1 rfl
 have c_a_2_7 := R_a_7.cell 2 rfl
 have c_a_3_7 := R_a_7.cell 3 rfl
 have l_a_7 := R_a_7.lt
 have R_s_7 : Row w7 (w5.heap.size) [.int .i64 (1), .int .i64 (4), .int .i64 (7), .int .i64 (1), .int .i64 (5), .int .i64 (36000), .int .i64 (30000)] := by (repeat' (first | (with_reducible assumption) | (with_reducible refine Row.new' _ _ _ (by first | rfl | (simp; done) | omega)) | (with_reducible first | refine Row.alloc ?_ _ | refine Row.drew ?_ | refine Row.step ?_ (by assumption) | refine Row.drewN ?_ _) | (with_reducible refine Row.set2' ?_ _ _; first | exact ⟨_, _, by assumption⟩ | exact ⟨_, _, Row.alloc (by assumption) _⟩) | (with_reducible refine Row.other ?_ (by first | omega | (simp; omega)) _)))
 have c_s_0_7 := R_s_7.cell 0 rfl
 have c_s_1_7 := R_s_7.cell 1 rfl
 have c_s_2_7 := R_s_7.cell 2 rfl
 have c_s_3_7 := R_s_7.cell 3 rfl
 have c_s_4_7 := R_s_7.cell 4 rfl
 have c_s_5_7 := R_s_7.cell 5 rfl
 have c_s_6_7 := R_s_7.cell 6 rfl
 have l_s_7 := R_s_7.lt
 replace hs1 := hs1.step (show Below w6.heap.size w6 w7 by (repeat' (first | (with_reducible first | exact Below.refl _ _ | assumption | exact Bw.out (by assumption) | refine bw_alloc ?_ _ | refine bw_step ?_ (by assumption) | refine Below.alloc ?_ ?_ _ | refine Below.drew ?_ | refine below_drewN ?_ _ | refine Below.setCell ?_ ?_ _ | refine below_step ?_ (by assumption) ?_ | exact Nat.le_refl _) | omega | (simp; omega) | (simp; done))))
 replace hs2 := hs2.step (show Below w6.heap.size w6 w7 by (repeat' (first | (with_reducible first | exact Below.refl _ _ | assumption | exact Bw.out (by assumption) | refine bw_alloc ?_ _ | refine bw_step ?_ (by assumption) | refine Below.alloc ?_ ?_ _ | refine Below.drew ?_ | refine below_drewN ?_ _ | refine Below.setCell ?_ ?_ _ | refine below_step ?_ (by assumption) ?_ | exact Nat.le_refl _) | omega | (simp; omega) | (simp; done))))
 have HB7 : Below w.heap.size w w7 := by (repeat' (first | (with_reducible first | exact Below.refl _ _ | assumption | exact Bw.out (by assumption) | refine bw_alloc ?_ _ | refine bw_step ?_ (by assumption) | refine Below.alloc ?_ ?_ _ | refine Below.drew ?_ | refine below_drewN ?_ _ | refine Below.setCell ?_ ?_ _ | refine below_step ?_ (by assumption) ?_ | exact Nat.le_refl _) | omega | (simp; omega) | (simp; done)))
 clear R_d_6 c_d_0_6 c_d_1_6 c_d_2_6 c_d_3_6 R_a_6 c_a_0_6 c_a_1_6 c_a_2_6 c_a_3_6 R_s_6 c_s_0_6 c_s_1_6 c_s_2_6 c_s_3_6 c_s_4_6 c_s_5_6 c_s_6_6 hb6 HB6
 go_wp2_with fail
 refine (best_c (hs2.step (by (repeat' (first | (with_reducible first | exact Below.refl _ _ | assumption | exact Bw.out (by assumption) | refine bw_alloc ?_ _ | refine bw_step ?_ (by assumption) | refine Below.alloc ?_ ?_ _ | refine Below.drew ?_ | refine below_drewN ?_ _ | refine Below.setCell ?_ ?_ _ | refine below_step ?_ (by assumption) ?_ | exact Nat.le_refl _) | omega | (simp; omega) | (simp; done)))))).mono ?_
 rintro e w8 ⟨v2, rfl, hv2, hb8⟩
 have R_d_8 : Row w8 (w4.heap.size + 1) [.int .i64 (4), .int .i64 (8), .int .i64 (3), .int .i64 (1)] := by (repeat' (first | (with_reducible assumption) | (with_reducible refine Row.new' _ _ _ (by first | rfl | (simp; done) | omega)) | (with_reducible first | refine Row.alloc ?_ _ | refine Row.drew ?_ | refine Row.step ?_ (by assumption) | refine Row.drewN ?_ _) | (with_reducible refine Row.set2' ?_ _ _; first | exact ⟨_, _, by assumption⟩ | exact ⟨_, _, Row.alloc (by assumption) _⟩) | (with_reducible refine Row.other ?_ (by first | omega | (simp; omega)) _)))
 have c_d_0_8 := R_d_8.cell 0 rfl
 have c_d_1_8 := R_d_8.cell 1 rfl
 have c_d_2_8 := R_d_8.cell 2 rfl
 have c_d_3_8 := R_d_8.cell 3 rfl
 have l_d_8 := R_d_8.lt
 have R_a_8 : Row w8 (w4.heap.size + 1 + 1) [.int .i64 (1), .int .i64 (4), .int .i64 (7), .int .i64 (1)] := by (repeat' (first | (with_reducible assumption) | (with_reducible refine Row.new' _ _ _ (by first | rfl | (simp; done) | omega)) | (with_reducible first | refine Row.alloc ?_ _ | refine Row.drew ?_ | refine Row.step ?_ (by assumption) | refine Row.drewN ?_ _) | (with_reducible refine Row.set2' ?_ _ _; first | exact ⟨_, _, by assumption⟩ | exact ⟨_, _, Row.alloc (by assumption) _⟩) | (with_reducible refine Row.other ?_ (by first | omega | (simp; omega)) _)))
 have c_a_0_8 := R_a_8.cell 0 rfl
 have c_a_1_8 := R_a_8.cell 1 rfl
 have c_a_2_8 := R_a_8.cell 2 rfl
 have c_a_3_8 := R_a_8.cell 3 rfl
 have l_a_8 := R_a_8.lt
 have R_s_8 : Row w8 (w5.heap.size) [.int .i64 (1), .int .i64 (4), .int .i64 (7), .int .i64 (1), .int .i64 (5), .int .i64 (36000), .int .i64 (30000)] := by (repeat' (first | (with_reducible assumption) | (with_reducible refine Row.new' _ _ _ (by first | rfl | (simp; done) | omega)) | (with_reducible first | refine Row.alloc ?_ _ | refine Row.drew ?_ | refine Row.step ?_ (by assumption) | refine Row.drewN ?_ _) | (with_reducible refine Row.set2' ?_ _ _; first | exact ⟨_, _, by assumption⟩ | exact ⟨_, _, Row.alloc (by assumption) _⟩) | (with_reducible refine Row.other ?_ (by first | omega | (simp; omega)) _)))
 have c_s_0_8 := R_s_8.cell 0 rfl
 have c_s_1_8 := R_s_8.cell 1 rfl
 have c_s_2_8 := R_s_8.cell 2 rfl
 have c_s_3_8 := R_s_8.cell 3 rfl
 have c_s_4_8 := R_s_8.cell 4 rfl
 have c_s_5_8 := R_s_8.cell 5 rfl
 have c_s_6_8 := R_s_8.cell 6 rfl
 have l_s_8 := R_s_8.lt
 replace hs1 := hs1.step (show Below w7.heap.size w7 w8 by (repeat' (first | (with_reducible first | exact Below.refl _ _ | assumption | exact Bw.out (by assumption) | refine bw_alloc ?_ _ | refine bw_step ?_ (by assumption) | refine Below.alloc ?_ ?_ _ | refine Below.drew ?_ | refine below_drewN ?_ _ | refine Below.setCell ?_ ?_ _ | refine below_step ?_ (by assumption) ?_ | exact Nat.le_refl _) | omega | (simp; omega) | (simp; done))))
 replace hs2 := hs2.step (show Below w7.heap.size w7 w8 by (repeat' (first | (with_reducible first | exact Below.refl _ _ | assumption | exact Bw.out (by assumption) | refine bw_alloc ?_ _ | refine bw_step ?_ (by assumption) | refine Below.alloc ?_ ?_ _ | refine Below.drew ?_ | refine below_drewN ?_ _ | refine Below.setCell ?_ ?_ _ | refine below_step ?_ (by assumption) ?_ | exact Nat.le_refl _) | omega | (simp; omega) | (simp; done))))
 replace hv1 := hv1.step (show Below w7.heap.size w7 w8 by (repeat' (first | (with_reducible first | exact Below.refl _ _ | assumption | exact Bw.out (by assumption) | refine bw_alloc ?_ _ | refine bw_step ?_ (by assumption) | refine Below.alloc ?_ ?_ _ | refine Below.drew ?_ | refine below_drewN ?_ _ | refine Below.setCell ?_ ?_ _ | refine below_step ?_ (by assumption) ?_ | exact Nat.le_refl _) | omega | (simp; omega) | (simp; done))))
 have HB8 : Below w.heap.size w w8 := by (repeat' (first | (with_reducible first | exact Below.refl _ _ | assumption | exact Bw.out (by assumption) | refine bw_alloc ?_ _ | refine bw_step ?_ (by assumption) | refine Below.alloc ?_ ?_ _ | refine Below.drew ?_ | refine below_drewN ?_ _ | refine Below.setCell ?_ ?_ _ | refine below_step ?_ (by assumption) ?_ | exact Nat.le_refl _) | omega | (simp; omega) | (simp; done)))
 clear R_d_7 c_d_0_7 c_d_1_7 c_d_2_7 c_d_3_7 R_a_7 c_a_0_7 c_a_1_7 c_a_2_7 c_a_3_7 R_s_7 c_s_0_7 c_s_1_7 c_s_2_7 c_s_3_7 c_s_4_7 c_s_5_7 c_s_6_7 hb7 HB7
 clear hs2
 go_wp2_with fail
 refine (shows_d (hs1.step (by (repeat' (first | (with_reducible first | exact Below.refl _ _ | assumption | exact Bw.out (by assumption) | refine bw_alloc ?_ _ | refine bw_step ?_ (by assumption) | refine Below.alloc ?_ ?_ _ | refine Below.drew ?_ | refine below_drewN ?_ _ | refine Below.setCell ?_ ?_ _ | refine below_step ?_ (by assumption) ?_ | exact Nat.le_refl _) | omega | (simp; omega) | (simp; done)))))).mono ?_
 rintro e w9 ⟨rfl, hb9⟩
 have R_d_9 : Row w9 (w4.heap.size + 1) [.int .i64 (4), .int .i64 (8), .int .i64 (3), .int .i64 (1)] := by (repeat' (first | (with_reducible assumption) | (with_reducible refine Row.new' _ _ _ (by first | rfl | (simp; done) | omega)) | (with_reducible first | refine Row.alloc ?_ _ | refine Row.drew ?_ | refine Row.step ?_ (by assumption) | refine Row.drewN ?_ _) | (with_reducible refine Row.set2' ?_ _ _; first | exact ⟨_, _, by assumption⟩ | exact ⟨_, _, Row.alloc (by assumption) _⟩) | (with_reducible refine Row.other ?_ (by first | omega | (simp; omega)) _)))
 have c_d_0_9 := R_d_9.cell 0 rfl
 have c_d_1_9 := R_d_9.cell 1 rfl
 have c_d_2_9 := R_d_9.cell 2 rfl
 have c_d_3_9 := R_d_9.cell 3 rfl
 have l_d_9 := R_d_9.lt
 have R_a_9 : Row w9 (w4.heap.size + 1 + 1) [.int .i64 (1), .int .i64 (4), .int .i64 (7), .int .i64 (1)] := by (repeat' (first | (with_reducible assumption) | (with_reducible refine Row.new' _ _ _ (by first | rfl | (simp; done) | omega)) | (with_reducible first | refine Row.alloc ?_ _ | refine Row.drew ?_ | refine Row.step ?_ (by assumption) | refine Row.drewN ?_ _) | (with_reducible refine Row.set2' ?_ _ _; first | exact ⟨_, _, by assumption⟩ | exact ⟨_, _, Row.alloc (by assumption) _⟩) | (with_reducible refine Row.other ?_ (by first | omega | (simp; omega)) _)))
 have c_a_0_9 := R_a_9.cell 0 rfl
 have c_a_1_9 := R_a_9.cell 1 rfl
 have c_a_2_9 := R_a_9.cell 2 rfl
 have c_a_3_9 := R_a_9.cell 3 rfl
 have l_a_9 := R_a_9.lt
 have R_s_9 : Row w9 (w5.heap.size) [.int .i64 (1), .int .i64 (4), .int .i64 (7), .int .i64 (1), .int .i64 (5), .int .i64 (36000), .int .i64 (30000)] := by (repeat' (first | (with_reducible assumption) | (with_reducible refine Row.new' _ _ _ (by first | rfl | (simp; done) | omega)) | (with_reducible first | refine Row.alloc ?_ _ | refine Row.drew ?_ | refine Row.step ?_ (by assumption) | refine Row.drewN ?_ _) | (with_reducible refine Row.set2' ?_ _ _; first | exact ⟨_, _, by assumption⟩ | exact ⟨_, _, Row.alloc (by assumption) _⟩) | (with_reducible refine Row.other ?_ (by first | omega | (simp; omega)) _)))
 have c_s_0_9 := R_s_9.cell 0 rfl
 have c_s_1_9 := R_s_9.cell 1 rfl
 have c_s_2_9 := R_s_9.cell 2 rfl
 have c_s_3_9 := R_s_9.cell 3 rfl
 have c_s_4_9 := R_s_9.cell 4 rfl
 have c_s_5_9 := R_s_9.cell 5 rfl
 have c_s_6_9 := R_s_9.cell 6 rfl
 have l_s_9 := R_s_9.lt
 replace hs1 := hs1.step (show Below w8.heap.size w8 w9 by (repeat' (first | (with_reducible first | exact Below.refl _ _ | assumption | exact Bw.out (by assumption) | refine bw_alloc ?_ _ | refine bw_step ?_ (by assumption) | refine Below.alloc ?_ ?_ _ | refine Below.drew ?_ | refine below_drewN ?_ _ | refine Below.setCell ?_ ?_ _ | refine below_step ?_ (by assumption) ?_ | exact Nat.le_refl _) | omega | (simp; omega) | (simp; done))))
 replace hv1 := hv1.step (show Below w8.heap.size w8 w9 by (repeat' (first | (with_reducible first | exact Below.refl _ _ | assumption | exact Bw.out (by assumption) | refine bw_alloc ?_ _ | refine bw_step ?_ (by assumption) | refine Below.alloc ?_ ?_ _ | refine Below.drew ?_ | refine below_drewN ?_ _ | refine Below.setCell ?_ ?_ _ | refine below_step ?_ (by assumption) ?_ | exact Nat.le_refl _) | omega | (simp; omega) | (simp; done))))
 replace hv2 := hv2.step (show Below w8.heap.size w8 w9 by (repeat' (first | (with_reducible first | exact Below.refl _ _ | assumption | exact Bw.out (by assumption) | refine bw_alloc ?_ _ | refine bw_step ?_ (by assumption) | refine Below.alloc ?_ ?_ _ | refine Below.drew ?_ | refine below_drewN ?_ _ | refine Below.setCell ?_ ?_ _ | refine below_step ?_ (by assumption) ?_ | exact Nat.le_refl _) | omega | (simp; omega) | (simp; done))))
 have HB9 : Below w.heap.size w w9 := by (repeat' (first | (with_reducible first | exact Below.refl _ _ | assumption | exact Bw.out (by assumption) | refine bw_alloc ?_ _ | refine bw_step ?_ (by assumption) | refine Below.alloc ?_ ?_ _ | refine Below.drew ?_ | refine below_drewN ?_ _ | refine Below.setCell ?_ ?_ _ | refine below_step ?_ (by assumption) ?_ | exact Nat.le_refl _) | omega | (simp; omega) | (simp; done)))
 clear R_d_8 c_d_0_8 c_d_1_8 c_d_2_8 c_d_3_8 R_a_8 c_a_0_8 c_a_1_8 c_a_2_8 c_a_3_8 R_s_8 c_s_0_8 c_s_1_8 c_s_2_8 c_s_3_8 c_s_4_8 c_s_5_8 c_s_6_8 hb8 HB8
 go_wp2_with fail
 refine (shows_z (hs1.step (by (repeat' (first | (with_reducible first | exact Below.refl _ _ | assumption | exact Bw.out (by assumption) | refine bw_alloc ?_ _ | refine bw_step ?_ (by assumption) | refine Below.alloc ?_ ?_ _ | refine Below.drew ?_ | refine below_drewN ?_ _ | refine Below.setCell ?_ ?_ _ | refine below_step ?_ (by assumption) ?_ | exact Nat.le_refl _) | omega | (simp; omega) | (simp; done)))))).mono ?_
 rintro e w10 ⟨rfl, hb10⟩
 have R_d_10 : Row w10 (w4.heap.size + 1) [.int .i64 (4), .int .i64 (8), .int .i64 (3), .int .i64 (1)] := by (repeat' (first | (with_reducible assumption) | (with_reducible refine Row.new' _ _ _ (by first | rfl | (simp; done) | omega)) | (with_reducible first | refine Row.alloc ?_ _ | refine Row.drew ?_ | refine Row.step ?_ (by assumption) | refine Row.drewN ?_ _) | (with_reducible refine Row.set2' ?_ _ _; first | exact ⟨_, _, by assumption⟩ | exact ⟨_, _, Row.alloc (by assumption) _⟩) | (with_reducible refine Row.other ?_ (by first | omega | (simp; omega)) _)))
 have c_d_0_10 := R_d_10.cell 0 rfl
 have c_d_1_10 := R_d_10.cell 1 rfl
 have c_d_2_10 := R_d_10.cell 2 rfl
 have c_d_3_10 := R_d_10.cell 3 rfl
 have l_d_10 := R_d_10.lt
 have R_a_10 : Row w10 (w4.heap.size + 1 + 1) [.int .i64 (1), .int .i64 (4), .int .i64 (7), .int .i64 (1)] := by (repeat' (first | (with_reducible assumption) | (with_reducible refine Row.new' _ _ _ (by first | rfl | (simp; done) | omega)) | (with_reducible first | refine Row.alloc ?_ _ | refine Row.drew ?_ | refine Row.step ?_ (by assumption) | refine Row.drewN ?_ _) | (with_reducible refine Row.set2' ?_ _ _; first | exact ⟨_, _, by assumption⟩ | exact ⟨_, _, Row.alloc (by assumption) _⟩) | (with_reducible refine Row.other ?_ (by first | omega | (simp; omega)) _)))
 have c_a_0_10 := R_a_10.cell 0 rfl
 have c_a_1_10 := R_a_10.cell 1 rfl
 have c_a_2_10 := R_a_10.cell 2 rfl
 have c_a_3_10 := R_a_10.cell 3 rfl
 have l_a_10 := R_a_10.lt
 have R_s_10 : Row w10 (w5.heap.size) [.int .i64 (1), .int .i64 (4), .int .i64 (7), .int .i64 (1), .int .i64 (5), .int .i64 (36000), .int .i64 (30000)] := by (repeat' (first | (with_reducible assumption) | (with_reducible refine Row.new' _ _ _ (by first | rfl | (simp; done) | omega)) | (with_reducible first | refine Row.alloc ?_ _ | refine Row.drew ?_ | refine Row.step ?_ (by assumption) | refine Row.drewN ?_ _) | (with_reducible refine Row.set2' ?_ _ _; first | exact ⟨_, _, by assumption⟩ | exact ⟨_, _, Row.alloc (by assumption) _⟩) | (with_reducible refine Row.other ?_ (by first | omega | (simp; omega)) _)))
 have c_s_0_10 := R_s_10.cell 0 rfl
 have c_s_1_10 := R_s_10.cell 1 rfl
 have c_s_2_10 := R_s_10.cell 2 rfl
 have c_s_3_10 := R_s_10.cell 3 rfl
 have c_s_4_10 := R_s_10.cell 4 rfl
 have c_s_5_10 := R_s_10.cell 5 rfl
 have c_s_6_10 := R_s_10.cell 6 rfl
 have l_s_10 := R_s_10.lt
 replace hs1 := hs1.step (show Below w9.heap.size w9 w10 by (repeat' (first | (with_reducible first | exact Below.refl _ _ | assumption | exact Bw.out (by assumption) | refine bw_alloc ?_ _ | refine bw_step ?_ (by assumption) | refine Below.alloc ?_ ?_ _ | refine Below.drew ?_ | refine below_drewN ?_ _ | refine Below.setCell ?_ ?_ _ | refine below_step ?_ (by assumption) ?_ | exact Nat.le_refl _) | omega | (simp; omega) | (simp; done))))
 replace hv1 := hv1.step (show Below w9.heap.size w9 w10 by (repeat' (first | (with_reducible first | exact Below.refl _ _ | assumption | exact Bw.out (by assumption) | refine bw_alloc ?_ _ | refine bw_step ?_ (by assumption) | refine Below.alloc ?_ ?_ _ | refine Below.drew ?_ | refine below_drewN ?_ _ | refine Below.setCell ?_ ?_ _ | refine below_step ?_ (by assumption) ?_ | exact Nat.le_refl _) | omega | (simp; omega) | (simp; done))))
 replace hv2 := hv2.step (show Below w9.heap.size w9 w10 by (repeat' (first | (with_reducible first | exact Below.refl _ _ | assumption | exact Bw.out (by assumption) | refine bw_alloc ?_ _ | refine bw_step ?_ (by assumption) | refine Below.alloc ?_ ?_ _ | refine Below.drew ?_ | refine below_drewN ?_ _ | refine Below.setCell ?_ ?_ _ | refine below_step ?_ (by assumption) ?_ | exact Nat.le_refl _) | omega | (simp; omega) | (simp; done))))
 have HB10 : Below w.heap.size w w10 := by (repeat' (first | (with_reducible first | exact Below.refl _ _ | assumption | exact Bw.out (by assumption) | refine bw_alloc ?_ _ | refine bw_step ?_ (by assumption) | refine Below.alloc ?_ ?_ _ | refine Below.drew ?_ | refine below_drewN ?_ _ | refine Below.setCell ?_ ?_ _ | refine below_step ?_ (by assumption) ?_ | exact Nat.le_refl _) | omega | (simp; omega) | (simp; done)))
 clear R_d_9 c_d_0_9 c_d_1_9 c_d_2_9 c_d_3_9 R_a_9 c_a_0_9 c_a_1_9 c_a_2_9 c_a_3_9 R_s_9 c_s_0_9 c_s_1_9 c_s_2_9 c_s_3_9 c_s_4_9 c_s_5_9 c_s_6_9 hb9 HB9
 go_wp2_with fail
 refine (best_o (hs1.step (by (repeat' (first | (with_reducible first | exact Below.refl _ _ | assumption | exact Bw.out (by assumption) | refine bw_alloc ?_ _ | refine bw_step ?_ (by assumption) | refine Below.alloc ?_ ?_ _ | refine Below.drew ?_ | refine below_drewN ?_ _ | refine Below.setCell ?_ ?_ _ | refine below_step ?_ (by assumption) ?_ | exact Nat.le_refl _) | omega | (simp; omega) | (simp; done)))))).mono ?_
 rintro e w11 ⟨v3, rfl, hv3, hb11⟩
 have R_d_11 : Row w11 (w4.heap.size + 1) [.int .i64 (4), .int .i64 (8), .int .i64 (3), .int .i64 (1)] := by (repeat' (first | (with_reducible assumption) | (with_reducible refine Row.new' _ _ _ (by first | rfl | (simp; done) | omega)) | (with_reducible first | refine Row.alloc ?_ _ | refine Row.drew ?_ | refine Row.step ?_ (by assumption) | refine Row.drewN ?_ _) | (with_reducible refine Row.set2' ?_ _ _; first | exact ⟨_, _, by assumption⟩ | exact ⟨_, _, Row.alloc (by assumption) _⟩) | (with_reducible refine Row.other ?_ (by first | omega | (simp; omega)) _)))
 have c_d_0_11 := R_d_11.cell 0 rfl
 have c_d_1_11 := R_d_11.cell 1 rfl
 have c_d_2_11 := R_d_11.cell 2 rfl
 have c_d_3_11 := R_d_11.cell 3 rfl
 have l_d_11 := R_d_11.lt
 have R_a_11 : Row w11 (w4.heap.size + 1 + 1) [.int .i64 (1), .int .i64 (4), .int .i64 (7), .int .i64 (1)] := by (repeat' (first | (with_reducible assumption) | (with_reducible refine Row.new' _ _ _ (by first | rfl | (simp; done) | omega)) | (with_reducible first | refine Row.alloc ?_ _ | refine Row.drew ?_ | refine Row.step ?_ (by assumption) | refine Row.drewN ?_ _) | (with_reducible refine Row.set2' ?_ _ _; first | exact ⟨_, _, by assumption⟩ | exact ⟨_, _, Row.alloc (by assumption) _⟩) | (with_reducible refine Row.other ?_ (by first | omega | (simp; omega)) _)))
 have c_a_0_11 := R_a_11.cell 0 rfl
 have c_a_1_11 := R_a_11.cell 1 rfl
 have c_a_2_11 := R_a_11.cell 2 rfl
 have c_a_3_11 := R_a_11.cell 3 rfl
 have l_a_11 := R_a_11.lt
 have R_s_11 : Row w11 (w5.heap.size) [.int .i64 (1), .int .i64 (4), .int .i64 (7), .int .i64 (1), .int .i64 (5), .int .i64 (36000), .int .i64 (30000)] := by (repeat' (first | (with_reducible assumption) | (with_reducible refine Row.new' _ _ _ (by first | rfl | (simp; done) | omega)) | (with_reducible first | refine Row.alloc ?_ _ | refine Row.drew ?_ | refine Row.step ?_ (by assumption) | refine Row.drewN ?_ _) | (with_reducible refine Row.set2' ?_ _ _; first | exact ⟨_, _, by assumption⟩ | exact ⟨_, _, Row.alloc (by assumption) _⟩) | (with_reducible refine Row.other ?_ (by first | omega | (simp; omega)) _)))
 have c_s_0_11 := R_s_11.cell 0 rfl
 have c_s_1_11 := R_s_11.cell 1 rfl
 have c_s_2_11 := R_s_11.cell 2 rfl
 have c_s_3_11 := R_s_11.cell 3 rfl
 have c_s_4_11 := R_s_11.cell 4 rfl
 have c_s_5_11 := R_s_11.cell 5 rfl
 have c_s_6_11 := R_s_11.cell 6 rfl
 have l_s_11 := R_s_11.lt
 replace hs1 := hs1.step (show Below w10.heap.size w10 w11 by (repeat' (first | (with_reducible first | exact Below.refl _ _ | assumption | exact Bw.out (by assumption) | refine bw_alloc ?_ _ | refine bw_step ?_ (by assumption) | refine Below.alloc ?_ ?_ _ | refine Below.drew ?_ | refine below_drewN ?_ _ | refine Below.setCell ?_ ?_ _ | refine below_step ?_ (by assumption) ?_ | exact Nat.le_refl _) | omega | (simp; omega) | (simp; done))))
 replace hv1 := hv1.step (show Below w10.heap.size w10 w11 by (repeat' (first | (with_reducible first | exact Below.refl _ _ | assumption | exact Bw.out (by assumption) | refine bw_alloc ?_ _ | refine bw_step ?_ (by assumption) | refine Below.alloc ?_ ?_ _ | refine Below.drew ?_ | refine below_drewN ?_ _ | refine Below.setCell ?_ ?_ _ | refine below_step ?_ (by assumption) ?_ | exact Nat.le_refl _) | omega | (simp; omega) | (simp; done))))
 replace hv2 := hv2.step (show Below w10.heap.size w10 w11 by (repeat' (first | (with_reducible first | exact Below.refl _ _ | assumption | exact Bw.out (by assumption) | refine bw_alloc ?_ _ | refine bw_step ?_ (by assumption) | refine Below.alloc ?_ ?_ _ | refine Below.drew ?_ | refine below_drewN ?_ _ | refine Below.setCell ?_ ?_ _ | refine below_step ?_ (by assumption) ?_ | exact Nat.le_refl _) | omega | (simp; omega) | (simp; done))))
 have HB11 : Below w.heap.size w w11 := by (repeat' (first | (with_reducible first | exact Below.refl _ _ | assumption | exact Bw.out (by assumption) | refine bw_alloc ?_ _ | refine bw_step ?_ (by assumption) | refine Below.alloc ?_ ?_ _ | refine Below.drew ?_ | refine below_drewN ?_ _ | refine Below.setCell ?_ ?_ _ | refine below_step ?_ (by assumption) ?_ | exact Nat.le_refl _) | omega | (simp; omega) | (simp; done)))
 clear R_d_10 c_d_0_10 c_d_1_10 c_d_2_10 c_d_3_10 R_a_10 c_a_0_10 c_a_1_10 c_a_2_10 c_a_3_10 R_s_10 c_s_0_10 c_s_1_10 c_s_2_10 c_s_3_10 c_s_4_10 c_s_5_10 c_s_6_10 hb10 HB10
 clear hs1 hv3
 obtain ⟨ad2, c2, rfl, _⟩ := hv2.form (m := 0) rfl
 clear hv2
 go_wp2_with fail
 have hz : SlV (w11.alloc (.cells #[.int .i64 5] 3)) (.slice (some ⟨w11.heap.size, 0, none⟩) 1 1) [5] :=
  SlV.lit (Row.new' _ [.int .i64 5] _ rfl) rfl rfl (by omega)
 refine (R_same_c _ _ _ _ _ (hv1.step ((Below.refl _ _).alloc (Nat.le_refl _) _)) hz true (by decide)).mono ?_
 rintro e w12 ⟨rfl, hb12⟩
 have R_d_12 : Row w12 (w4.heap.size + 1) [.int .i64 (4), .int .i64 (8), .int .i64 (3), .int .i64 (1)] := by (repeat' (first | (with_reducible assumption) | (with_reducible refine Row.new' _ _ _ (by first | rfl | (simp; done) | omega)) | (with_reducible first | refine Row.alloc ?_ _ | refine Row.drew ?_ | refine Row.step ?_ (by assumption) | refine Row.drewN ?_ _) | (with_reducible refine Row.set2' ?_ _ _; first | exact ⟨_, _, by assumption⟩ | exact ⟨_, _, Row.alloc (by assumption) _⟩) | (with_reducible refine Row.other ?_ (by first | omega | (simp; omega)) _)))
 have c_d_0_12 := R_d_12.cell 0 rfl
 have c_d_1_12 := R_d_12.cell 1 rfl
 have c_d_2_12 := R_d_12.cell 2 rfl
 have c_d_3_12 := R_d_12.cell 3 rfl
 have l_d_12 := R_d_12.lt
 have R_a_12 : Row w12 (w4.heap.size + 1 + 1) [.int .i64 (1), .int .i64 (4), .int .i64 (7), .int .i64 (1)] := by (repeat' (first | (with_reducible assumption) | (with_reducible refine Row.new' _ _ _ (by first | rfl | (simp; done) | omega)) | (with_reducible first | refine Row.alloc ?_ _ | refine Row.drew ?_ | refine Row.step ?_ (by assumption) | refine Row.drewN ?_ _) | (with_reducible refine Row.set2' ?_ _ _; first | exact ⟨_, _, by assumption⟩ | exact ⟨_, _, Row.alloc (by assumption) _⟩) | (with_reducible refine Row.other ?_ (by first | omega | (simp; omega)) _)))
 have c_a_0_12 := R_a_12.cell 0 rfl
 have c_a_1_12 := R_a_12.cell 1 rfl
 have c_a_2_12 := R_a_12.cell 2 rfl
 have c_a_3_12 := R_a_12.cell 3 rfl
 have l_a_12 := R_a_12.lt
 have R_s_12 : Row w12 (w5.heap.size) [.int .i64 (1), .int .i64 (4), .int .i64 (7), .int .i64 (1), .int .i64 (5), .int .i64 (36000), .int .i64 (30000)] := by (repeat' (first | (with_reducible assumption) | (with_reducible refine Row.new' _ _ _ (by first | rfl | (simp; done) | omega)) | (with_reducible first | refine Row.alloc ?_ _ | refine Row.drew ?_ | refine Row.step ?_ (by assumption) | refine Row.drewN ?_ _) | (with_reducible refine Row.set2' ?_ _ _; first | exact ⟨_, _, by assumption⟩ | exact ⟨_, _, Row.alloc (by assumption) _⟩) | (with_reducible refine Row.other ?_ (by first | omega | (simp; omega)) _)))
 have c_s_0_12 := R_s_12.cell 0 rfl
 have c_s_1_12 := R_s_12.cell 1 rfl
 have c_s_2_12 := R_s_12.cell 2 rfl
 have c_s_3_12 := R_s_12.cell 3 rfl
 have c_s_4_12 := R_s_12.cell 4 rfl
 have c_s_5_12 := R_s_12.cell 5 rfl
 have c_s_6_12 := R_s_12.cell 6 rfl
 have l_s_12 := R_s_12.lt
 have HB12 : Below w.heap.size w w12 := by (repeat' (first | (with_reducible first | exact Below.refl _ _ | assumption | exact Bw.out (by assumption) | refine bw_alloc ?_ _ | refine bw_step ?_ (by assumption) | refine Below.alloc ?_ ?_ _ | refine Below.drew ?_ | refine below_drewN ?_ _ | refine Below.setCell ?_ ?_ _ | refine below_step ?_ (by assumption) ?_ | exact Nat.le_refl _) | omega | (simp; omega) | (simp; done)))
 clear R_d_11 c_d_0_11 c_d_1_11 c_d_2_11 c_d_3_11 R_a_11 c_a_0_11 c_a_1_11 c_a_2_11 c_a_3_11 R_s_11 c_s_0_11 c_s_1_11 c_s_2_11 c_s_3_11 c_s_4_11 c_s_5_11 c_s_6_11 hb11 HB11
 go_wp2_with fail
 go_ret
 refine ⟨(by first | rfl | exact ret_bool (by first | rfl | (simp; done) | (simp; omega))), ?_⟩
 (repeat' (first | (with_reducible first | exact Below.refl _ _ | assumption | exact Bw.out (by assumption) | refine bw_alloc ?_ _ | refine bw_step ?_ (by assumption) | refine Below.alloc ?_ ?_ _ | refine Below.drew ?_ | refine below_drewN ?_ _ | refine Below.setCell ?_ ?_ _ | refine below_step ?_ (by assumption) ?_ | exact Nat.le_refl _) | omega | (simp; omega) | (simp; done)))
end
end Go.Proofs.Ytcmodmchnokmgaa
