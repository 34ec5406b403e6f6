/-
  Plain facts on blocks of groups: what a well-formed block is, its limit on a day.
-/
import Derived.Test.YtjmlkdopbiedaaaRndM
namespace Go.Proofs.Ytjmlkdopbiedaaa
set_option linter.unusedSimpArgs false
set_option linter.unusedVariables false

/-- From lo to hi. -/
def inR (n lo hi : Int) : Bool := decide (lo ≤ n) && decide (n ≤ hi)
theorem inR_iff {n lo hi : Int} : inR n lo hi = true ↔ lo ≤ n ∧ n ≤ hi := by simp [inR]
theorem inR_not {n lo hi : Int} : inR n lo hi = false ↔ ¬ (lo ≤ n ∧ n ≤ hi) := by rw [← inR_iff]; simp
/-- A number that is valid and from 0 to 1. -/
def partB (n d : Int) : Bool := vld n d && inR n 0 d
theorem partB_iff {n d : Int} : partB n d = true ↔ vldP n d ∧ 0 ≤ n ∧ n ≤ d := by
  unfold partB vld
  rw [Bool.and_eq_true, inR_iff, decide_eq_true_iff]
theorem partB_in {n d : Int} (h : partB n d = true) : vldP n d ∧ 0 ≤ n ∧ n ≤ d ∧ 1 ≤ d ∧ d ≤ 1000000 := by
  obtain ⟨h1, h2, h3⟩ := partB_iff.1 h
  exact ⟨h1, h2, h3, h1.1, h1.2.1⟩

/-- A cut: the day, and what is kept. -/
abbrev CutV := Int × Int × Int
def cut0 : CutV := (0, 0, 0)
/-- Is a cut well-formed, and later than the one before it? -/
def cutB (l : List CutV) (i : Nat) : Bool := inR (l.getD i cut0).1 0 366 && partB (l.getD i cut0).2.1 (l.getD i cut0).2.2 && (decide (i = 0) || decide ((l.getD (i - 1) cut0).1 < (l.getD i cut0).1))
def cutsB (l : List CutV) : Bool := (List.range l.length).all (cutB l)
theorem cutsB_iff {l : List CutV} : cutsB l = true ↔ ∀ i, i < l.length → cutB l i = true := by simp [cutsB, List.all_eq_true]
theorem cutsB_false {l : List CutV} {i : Nat} (hi : i < l.length) (h : cutB l i = false) : cutsB l = false := by
  cases hc : cutsB l with
  | false => rfl
  | true => rw [cutsB_iff.1 hc i hi] at h; cases h

def picksB (rooms : Int) (zs : List Int) : Bool := zs.all fun z => inR z 0 rooms
theorem picksB_iff {rooms : Int} {zs : List Int} : picksB rooms zs = true ↔ ∀ z ∈ zs, 0 ≤ z ∧ z ≤ rooms := by
  simp only [picksB, List.all_eq_true, inR_iff]

/-- A block of a group. -/
structure Blk where
  id : Int
  kind : Int
  rooms : Int
  fr : Int
  un : Int
  cuts : List CutV
  pn : Int
  pd : Int
  fee : Int
  picked : List Int

/-- The numbers of a block. -/
def headB (B : Blk) : Bool := inR B.id 1 1000000 && inR B.kind 1 20 && inR B.rooms 1 400 && inR B.fee 0 1000000000 && partB B.pn B.pd
def spanB (B : Blk) : Bool := decide (0 ≤ B.fr) && decide (B.fr < B.un) && decide (B.un ≤ 366) && decide ((B.picked.length : Int) = B.un - B.fr) && decide (B.cuts.length ≤ 20)
def blkB (B : Blk) : Bool := headB B && spanB B && (cutsB B.cuts && picksB B.rooms B.picked)

theorem headB_iff {B : Blk} : headB B = true ↔ (1 ≤ B.id ∧ B.id ≤ 1000000) ∧ (1 ≤ B.kind ∧ B.kind ≤ 20) ∧ (1 ≤ B.rooms ∧ B.rooms ≤ 400) ∧ (0 ≤ B.fee ∧ B.fee ≤ 1000000000) ∧ partB B.pn B.pd = true := by
  simp only [headB, Bool.and_eq_true, inR_iff, and_assoc]
theorem spanB_iff {B : Blk} : spanB B = true ↔ 0 ≤ B.fr ∧ B.fr < B.un ∧ B.un ≤ 366 ∧ (B.picked.length : Int) = B.un - B.fr ∧ B.cuts.length ≤ 20 := by
  simp only [spanB, Bool.and_eq_true, decide_eq_true_iff, and_assoc]
structure Blk.Ok (B : Blk) : Prop where
  rooms : 1 ≤ B.rooms ∧ B.rooms ≤ 400
  fee : 0 ≤ B.fee ∧ B.fee ≤ 1000000000
  part : partB B.pn B.pd = true
  fr : 0 ≤ B.fr
  lt : B.fr < B.un
  un : B.un ≤ 366
  len : (B.picked.length : Int) = B.un - B.fr
  few : B.cuts.length ≤ 20
  cuts : cutsB B.cuts = true
  picks : ∀ z ∈ B.picked, 0 ≤ z ∧ z ≤ B.rooms
theorem blkB_ok {B : Blk} (h : blkB B = true) : B.Ok := by
  unfold blkB at h
  rw [Bool.and_eq_true, Bool.and_eq_true, Bool.and_eq_true, headB_iff, spanB_iff, picksB_iff] at h
  obtain ⟨⟨⟨_, _, h1, h2, h3⟩, h4, h5, h6, h7, h8⟩, h9, h10⟩ := h
  exact ⟨h1, h2, h3, h4, h5, h6, h7, h8, h9, h10⟩

/-- What is left of n rooms behind a cut. -/
def capG (n : Int) (x : CutV) : Int := rnd 2 (n * x.2.1) x.2.2
/-- The limit on a day: all cuts up to it. -/
def limR (day n : Int) (l : List CutV) : Int := l.foldl (fun n x => if x.1 ≤ day then capG n x else n) n
/-- .. as far as the days go. -/
def limG (day : Int) : Int → List CutV → Int
  | n, [] => n
  | n, x :: r => if x.1 ≤ day then limG day (capG n x) r else n
def PartsOk (l : List CutV) : Prop := ∀ x ∈ l, partB x.2.1 x.2.2 = true
def Rising (l : List CutV) : Prop := l.Pairwise fun x y => x.1 < y.1

theorem capG_in {n : Int} {x : CutV} (hx : partB x.2.1 x.2.2 = true) (hn : 0 ≤ n) : 0 ≤ capG n x ∧ capG n x ≤ n := by
  obtain ⟨_, h1, h2, h3, _⟩ := partB_in hx
  exact rnd_part 2 h3 hn h1 h2
theorem capG_mono {n m : Int} {x : CutV} (hx : partB x.2.1 x.2.2 = true) (h : n ≤ m) : capG n x ≤ capG m x := by
  obtain ⟨_, h1, h2, h3, _⟩ := partB_in hx
  exact rnd_mono 2 h3 (Int.mul_le_mul_of_nonneg_right h h1)
theorem PartsOk.tail {x : CutV} {l : List CutV} (h : PartsOk (x :: l)) : PartsOk l := fun y hy => h y (by simp [hy])
theorem limR_in (day : Int) : ∀ (l : List CutV) (n : Int), PartsOk l → 0 ≤ n → 0 ≤ limR day n l ∧ limR day n l ≤ n
  | [], n, _, hn => ⟨hn, Int.le_refl _⟩
  | x :: r, n, h, hn => by
    have hx := capG_in (h x (by simp)) hn
    unfold limR
    rw [List.foldl_cons]
    split
    · have ih := limR_in day r (capG n x) h.tail hx.1
      unfold limR at ih
      omega
    · exact limR_in day r n h.tail hn
theorem limR_late {day : Int} : ∀ (l : List CutV) (n : Int), (∀ x ∈ l, day < x.1) → limR day n l = n
  | [], _, _ => rfl
  | x :: r, n, h => by
    unfold limR
    rw [List.foldl_cons, if_neg (by have := h x (by simp); omega)]
    exact limR_late r n (fun y hy => h y (by simp [hy]))
theorem limG_eq {day : Int} : ∀ (l : List CutV) (n : Int), Rising l → limG day n l = limR day n l
  | [], _, _ => rfl
  | x :: r, n, h => by
    have h' := List.pairwise_cons.1 h
    unfold limG
    split
    · rename_i hx
      rw [limG_eq r _ h'.2]
      unfold limR
      rw [List.foldl_cons, if_pos hx]
    · rename_i hx
      exact (limR_late (x :: r) n (fun y hy => by
        rcases List.mem_cons.1 hy with rfl | hy
        · omega
        · have := h'.1 y hy; omega)).symm
theorem limR_day {d1 d2 : Int} (hd : d1 ≤ d2) : ∀ (l : List CutV) (n m : Int), PartsOk l → 0 ≤ n → n ≤ m → limR d2 n l ≤ limR d1 m l
  | [], _, _, _, _, h => h
  | x :: r, n, m, hp, hn, h => by
    have hx := hp x (by simp)
    have h1 := capG_in hx hn
    have h2 := capG_mono hx h
    have h3 := capG_in hx (show 0 ≤ m by omega)
    unfold limR
    rw [List.foldl_cons, List.foldl_cons]
    split
    · split
      · exact limR_day hd r _ _ hp.tail h1.1 h2
      · exact limR_day hd r _ _ hp.tail h1.1 (by omega)
    · rw [if_neg (by omega)]
      exact limR_day hd r _ _ hp.tail hn h
theorem limR_snoc (day n : Int) (l : List CutV) (x : CutV) : limR day n (l ++ [x]) = if x.1 ≤ day then capG (limR day n l) x else limR day n l := by
  unfold limR
  rw [List.foldl_append]; rfl
theorem limG_in (day : Int) : ∀ (l : List CutV) (n : Int), PartsOk l → 0 ≤ n → 0 ≤ limG day n l ∧ limG day n l ≤ n
  | [], n, _, hn => ⟨hn, Int.le_refl _⟩
  | x :: r, n, h, hn => by
    have hx := capG_in (h x (by simp)) hn
    unfold limG
    split
    · have ih := limG_in day r (capG n x) h.tail hx.1; omega
    · omega

theorem getD_mem {α : Type} {l : List α} {i : Nat} (d : α) (h : i < l.length) : l.getD i d ∈ l := by
  simp [List.getD, h]
theorem cutsB_parts {l : List CutV} (h : cutsB l = true) : PartsOk l := by
  intro x hx
  obtain ⟨i, hi, rfl⟩ := List.getElem_of_mem hx
  have := cutsB_iff.1 h i hi
  unfold cutB at this
  rw [Bool.and_eq_true, Bool.and_eq_true] at this
  have h2 := this.1.2
  simpa [List.getD, hi] using h2
theorem cutsB_days {l : List CutV} (h : cutsB l = true) : ∀ x ∈ l, 0 ≤ x.1 ∧ x.1 ≤ 366 := by
  intro x hx
  obtain ⟨i, hi, rfl⟩ := List.getElem_of_mem hx
  have := cutsB_iff.1 h i hi
  unfold cutB at this
  rw [Bool.and_eq_true, Bool.and_eq_true] at this
  have h2 := inR_iff.1 this.1.1
  simpa [List.getD, hi] using h2
theorem cutsB_step {l : List CutV} (h : cutsB l = true) {i : Nat} (hi : i + 1 < l.length) : l[i].1 < l[i + 1].1 := by
  have := cutsB_iff.1 h (i + 1) hi
  unfold cutB at this
  rw [Bool.and_eq_true, Bool.and_eq_true] at this
  have h2 := this.2
  simp [List.getD, hi, show i < l.length by omega] at h2
  exact h2
theorem cutsB_rising {l : List CutV} (h : cutsB l = true) : Rising l := by
  have hs : ∀ (k i : Nat) (hk : i + 1 + k < l.length), (l[i]'(by omega)).1 < l[i + 1 + k].1 := by
    intro k
    induction k with
    | zero => intro i hk; exact cutsB_step h hk
    | succ k ih => intro i hk; have h1 := ih i (by omega); have h2 := cutsB_step h (i := i + 1 + k) hk; exact Int.lt_trans h1 h2
  unfold Rising
  rw [List.pairwise_iff_getElem]
  intro i j hi hj hij
  have := hs (j - i - 1) i (by omega)
  simpa [show i + 1 + (j - i - 1) = j by omega] using this

end Go.Proofs.Ytjmlkdopbiedaaa
