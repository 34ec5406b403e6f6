/-
  A range over a function whose iterator writes memory of its own, whose body writes memory of its own that grows, and whose loop variable is boxed.
-/
import Derived.Test.YtdijdfhlmnhcjaaRngB
namespace Go.Proofs.Ytdijdfhlmnhcjaa
set_option linter.unusedSimpArgs false
set_option linter.unusedVariables false
open Go.RowKit

/-- J is not touched by what turns from block B on, the caller's own blocks apart. -/
def AbideO {β : Type} (own : World → Nat → Prop) (B : Nat) (J : β → World → Prop) : Prop := ∀ s A C, J s A → Below B A C → (∀ k, own A k → C.heap[k]? = A.heap[k]?) → J s C
/-- What the caller's own blocks are: they hold cells, none is protected; what turns from block B on makes none its own. -/
def OwnsJ {β : Type} (own : World → Nat → Prop) (Prot : Nat → Prop) (B : Nat) (J : β → World → Prop) : Prop :=
  ∀ s A, J s A → (∀ k, own A k → (∃ cs T fr, A.heap[k]? = some (.cells cs T fr)) ∧ ¬ Prot k) ∧ ∀ C k, Below B A C → own C k → own A k
theorem OwnsJ.lt {β : Type} {own : World → Nat → Prop} {Prot : Nat → Prop} {B : Nat} {J : β → World → Prop} (h : OwnsJ own Prot B J) {s : β} {A : World} (hj : J s A) {k : Nat} (ho : own A k) : k < A.heap.size := by
  obtain ⟨⟨cs, T, fr, e⟩, _⟩ := (h s A hj).1 k ho
  exact (Array.getElem?_eq_some_iff.1 e).1
theorem OwnsJ.ne {β : Type} {own : World → Nat → Prop} {Prot : Nat → Prop} {B : Nat} {J : β → World → Prop} (h : OwnsJ own Prot B J) {s : β} {A : World} (hj : J s A) {k l : Nat} (ho : own A k) {o : Obj} (hl : A.heap[l]? = some o) (hc : o.isCells = false) : l ≠ k := fun e => by
  subst e
  obtain ⟨⟨cs, T, fr, e⟩, _⟩ := (h s A hj).1 _ ho
  rw [hl] at e
  cases e
  simp [Obj.isCells] at hc

/-- The contract of such an iterator. -/
def SeqO {α : Type} (F : Fence) (n : Nat) (P : Program) (g : Nat) (lb : Array Value) (encs : α → Array Value) (own : World → Nat → Prop) (Prot : Nat → Prop) (S Sp : List α → Prop) (N : Nat) (w : World) : Prop :=
  ∀ (l : Nat) (J Jx : List α → World → Prop) (W : World), Below w.heap.size w W → AbideO own W.heap.size J → OwnsJ own Prot W.heap.size J →
    (∀ pre x W1, J pre W1 → Sp (pre ++ [x]) → pre.length < N → YieldAt F (n - 1) P l (encs x) W1 fun e W' =>
      (e = .returned (.bool true) ∧ J (pre ++ [x]) W' ∧ KeepsO own W1 W') ∨ (e = .returned (.bool false) ∧ Jx (pre ++ [x]) W')) →
    J [] W →
    CallsIn F n P g (#[.func (.yield l) #[] #[]] ++ lb) W fun e W' => (∃ v, e = .returned v) ∧ ((∃ xs, S xs ∧ J xs W') ∨ (∃ pre, Sp pre ∧ Jx pre W'))

section
variable {F : Fence} {n : Nat} {P : Program}

theorem range_box {α : Type} {g : Operand} {ps : Array Tmp} {assign body : Code} {Q : Exit → Act → World → Prop} {a : Act} {w : World}
    (hro : F.round = none) (h1 : 1 ≤ n) {gf : Nat} {lb : Array Value} (hg : a.eval g = .func (.func gf) #[] lb) (hFg : F.fn gf) (eg : ∀ args w, (callFunc gf args).run P w = .ok (.enter gf args) w)
    {encs : α → Array Value} {own : World → Nat → Prop} {Prot : Nat → Prop} {S Sp : List α → Prop} {N : Nat} {w0 : World} (hseq : SeqO F (n - 1) P gf lb encs own Prot S Sp N w0)
    (hop : ∀ (W : World) (l : Nat) (o o' : Obj) k, w.heap.size ≤ l → W.heap[l]? = some o → own (W.putObj l o') k → own W k) (hb0 : Below w0.heap.size w0 w) (hps : ∀ x, (encs x).size = ps.size)
    (I : List α → World → Prop) (Ix : Code → List α → World → Prop) (hI : AbideO own w.heap.size I) (hIo : OwnsJ own Prot w.heap.size I) (hIx : ∀ c, Stay w.heap.size (Ix c)) (h0 : I [] w)
    (Ax : α → World → Act → World → Prop) (hAx : ∀ x W a' W', Ax x W a' W' → Below W.heap.size W W')
    (hassign : ∀ (l : Nat) (x : α) (W : World) (K : Act → World → Prop), (∀ a' W', Ax x W a' W' → K a' W') →
      assign.wpIn (F.inRound l) (n - 1 - 1) P (Exit.then K (fun _ _ _ => False)) { tmps := (ps.zip (encs x)).foldl (fun t (p, v) => t.setIfInBounds p v) a.tmps, defers := [] } W)
    (hbody : ∀ (l : Nat) (pre : List α) (x : α) (W W' : World) (a' : Act) (X : World), I pre W → Sp (pre ++ [x]) → pre.length < N → Ax x W a' W' → I pre X → (∃ lo o o', w.heap.size ≤ lo ∧ W'.heap[lo]? = some o ∧ o.isCells = false ∧ X = W'.putObj lo o') →
      body.wpIn (F.inRound l) (n - 1 - 1) P (ownPostK (KeepsO own) I Ix (pre ++ [x]) X) a' X)
    (hdone : ∀ (D : Nat) (xs : List α) (W : World), w.heap.size ≤ D → S xs → I xs W → W.heap[D]? = some (.deferred (some [])) → Q .normal { a with defers := { target := .collected D, args := #[] } :: a.defers } W)
    (hstop : ∀ (D : Nat) (c : Code) (pre : List α) (W : World), w.heap.size ≤ D → Sp pre → Ix c pre W → W.heap[D]? = some (.deferred (some [])) → c.wpIn F n P Q { a with defers := { target := .collected D, args := #[] } :: a.defers } W) :
    (Code.rangeFunc g ps assign body).wpIn F n P Q a w := by
  have hKb : ∀ (W : World) (l : Nat) (o o' : Obj), w.heap.size ≤ l → W.heap[l]? = some o → o.isCells = false → KeepsO own W (W.putObj l o') := fun W l o o' hl hw hc => KeepsO.putObj o' hw hc (fun k h => hop W l o o' k hl hw h)
  obtain ⟨D, hD⟩ : ∃ D, w.heap.size = D := ⟨_, rfl⟩
  refine wpIn_rangeFunc fun fn hfn => ?_
  obtain ⟨lp, hlp⟩ : ∃ lp : LoopState → Option Code → Loop, lp = fun st pe => { state := st, pending := pe, fn, tmps := a.tmps, params := ps, assign, body, defers := D } := ⟨_, rfl⟩
  obtain ⟨V, hV⟩ : ∃ V, (w.alloc (.deferred (some []))).alloc (.loop (lp .ready none)) = V := ⟨_, rfl⟩
  have sV : V.heap.size = D + 2 := by rw [← hV]; simp [hD]
  have bV : Below D w V := by rw [← hV, ← hD]; exact ((Below.refl _ w).alloc (Nat.le_refl _) _).alloc (by simp) _
  have lV : V.heap[D + 1]? = some (.loop (lp .ready none)) := by
    have := World.alloc_heap_new (w.alloc (.deferred (some []))) (.loop (lp .ready none))
    rwa [hV, World.size_alloc, hD] at this
  have kV : V.heap[D]? = some (.deferred (some [])) := by
    rw [← hV, ← hD]; exact (Below.heap_alloc _ _ _ (by simp)).trans (World.alloc_heap_new w _)
  rw [hD] at hI hIo hIx hKb hdone hstop hbody
  refine ⟨D + 1, [{ target := .collected D, args := #[] }], V, { target := .fn (.func gf) lb, args := #[.func (.yield (D + 1)) #[] #[]] }, V, gf, #[.func (.yield (D + 1)) #[] #[]] ++ lb, V, ?_, ?_, ?_, ?_, fun _ => h1, ?_⟩
  · rw [hro, ← hV, hlp, ← hD]; exact run_enterLoop_outer _ _ _ _ _
  · simp only [resolve, hg]
    simp [go_sem]
  · intro f' hf'; simp [Target.leads] at hf'; subst hf'; exact hFg
  · simp [invoke, go_sem, eg]
  refine (hseq (D + 1) (fun pre W => I pre W ∧ W.heap[D + 1]? = some (.loop (lp .ready none)) ∧ W.heap[D]? = some (.deferred (some [])))
    (fun pre W => ∃ c, Ix c pre W ∧ W.heap[D + 1]? = some (.loop (lp .done (some c))) ∧ W.heap[D]? = some (.deferred (some [])))
    V (hb0.trans (bV.mono (by rw [← hD]; exact hb0.size))) ?_ ?_ ?_ ⟨hI _ _ _ h0 bV (fun k ho => bV.block k (by have := hIo.lt h0 ho; omega)), lV, kV⟩).mono ?_
  · rintro s A C ⟨h, hl, hk⟩ hb hkeep
    exact ⟨hI _ _ _ h (hb.mono (by omega)) hkeep, (hb.block _ (by omega)).trans hl, (hb.block _ (by omega)).trans hk⟩
  · rintro s A ⟨h, _, _⟩
    exact ⟨(hIo s A h).1, fun C k hb ho => (hIo s A h).2 C k (hb.mono (by omega)) ho⟩
  · rintro pre x W ⟨hi, hl, hk⟩ hsp hlen
    have hlt : D + 1 < W.heap.size := (Array.getElem?_eq_some_iff.1 hl).1
    have hy := run_yield (P := P) (args := encs x) hl (by rw [hlp]; exact hps x)
    rw [hlp] at hy
    refine ⟨fn, _, assign, body, hy, roundIn_of_wpIn hfn (hassign _ x W _ (fun a1 W1 hax => ?_))⟩
    have hbx := hAx _ _ _ _ hax
    have hl1 : W1.heap[D + 1]? = some (.loop (lp .ready none)) := (hbx.block _ hlt).trans hl
    have hk1 : W1.heap[D]? = some (.deferred (some [])) := (hbx.block _ (by omega)).trans hk
    have hlt1 : D + 1 < W1.heap.size := (Array.getElem?_eq_some_iff.1 hl1).1
    have hbr := run_beginRound (P := P) hl1 (by rw [hlp])
    obtain ⟨X, hX⟩ : ∃ X, W1.putObj (D + 1) (.loop { lp .ready none with state := .busy }) = X := ⟨_, rfl⟩
    rw [hX] at hbr
    have lX : X.heap[D + 1]? = some (.loop { lp .ready none with state := .busy }) := by rw [← hX]; exact World.putObj_heap_same hlt1
    have kX : X.heap[D]? = some (.deferred (some [])) := by rw [← hX]; exact (World.putObj_heap_other (by omega)).trans hk1
    have iW1 : I pre W1 := hI _ _ _ hi (hbx.mono (by omega)) (fun k ho => hbx.block k (hIo.lt hi ho))
    have iX : I pre X := hI _ _ _ iW1 (by rw [← hX]; exact below_put _ (by omega) hl1) (fun k ho => by rw [← hX]; exact World.putObj_heap_other (hIo.ne iW1 ho hl1 rfl).symm)
    have wW1 : KeepsO own W W1 := ⟨hbx.size, fun k cs T fr hk2 _ => hbx.block k (Array.getElem?_eq_some_iff.1 hk2).1, fun k _ ho => (hIo _ _ hi).2 W1 k (hbx.mono (by omega)) ho⟩
    have wX : KeepsO own W X := KeepsO.trans wW1 (by rw [← hX]; exact hKb _ _ _ _ (by omega) hl1 rfl)
    have close : ∀ (j : Option Code) (Y : World), KeepsOthers X Y → ∃ Z, (Instr.endRound (D + 1) j).run P Y = .ok (.bool j.isNone) Z ∧ (Below D Y Z ∧ ∀ c s, Ix c s Y → Ix c s Z) ∧ KeepsO own Y Z ∧ Z.heap[D + 1]? = some (.loop (lp (if j.isNone then .ready else .done) j)) ∧ Z.heap[D]? = some (.deferred (some [])) ∧ (∀ s, I s Y → I s Z) := fun j Y hY => by
      have lY := hY.same _ _ lX rfl
      have hr := run_endRound (P := P) j lY
      rw [hlp] at hr lY ⊢
      exact ⟨_, hr, ⟨below_put _ (by omega) lY, fun c s h => hIx c s _ _ _ _ (by omega) lY rfl h⟩, hKb _ _ _ _ (by omega) lY rfl, World.putObj_heap_same (Array.getElem?_eq_some_iff.1 lY).1, (World.putObj_heap_other (by omega)).trans (hY.same _ _ kX rfl), fun s h => hI _ _ _ h (below_put _ (by omega) lY) (fun k ho => World.putObj_heap_other (hIo.ne h ho lY rfl).symm)⟩
    refine ⟨X, hbr, ?_⟩
    refine wpIn_mono (hbody _ pre x W W1 a1 X hi hsp hlen hax iX ⟨D + 1, _, _, by omega, hl1, rfl, hX.symm⟩) ?_
    rintro e a3 Y hp
    cases e with
    | normal =>
      obtain ⟨h3, h4, h5⟩ := hp
      obtain ⟨Z, z1, z2, z3, z4, z5, z6⟩ := close none Y h3
      exact ⟨_, Z, z1, .inl ⟨rfl, ⟨z6 _ h5, z4, z5⟩, KeepsO.trans (KeepsO.trans wX h4) z3⟩⟩
    | ret =>
      obtain ⟨h3, h5⟩ := hp
      obtain ⟨Z, z1, z2, z3, z4, z5, _⟩ := close (some .ret) Y h3
      exact ⟨_, Z, z1, .inr ⟨rfl, .ret, z2.2 _ _ h5, z4, z5⟩⟩
    | exit id =>
      obtain ⟨h3, h5⟩ := hp
      obtain ⟨Z, z1, z2, z3, z4, z5, _⟩ := close (some (.exit id)) Y h3
      exact ⟨_, Z, z1, .inr ⟨rfl, .exit id, z2.2 _ _ h5, z4, z5⟩⟩
    | goto t =>
      obtain ⟨h3, h5⟩ := hp
      obtain ⟨Z, z1, z2, z3, z4, z5, _⟩ := close (some (.goto t)) Y h3
      exact ⟨_, Z, z1, .inr ⟨rfl, .goto t, z2.2 _ _ h5, z4, z5⟩⟩
    | panic ch => exact hp.elim
    | outgrown => exact hp.elim
  · rintro e W ⟨⟨v, rfl⟩, (⟨xs, hS, hi, hl, hk⟩ | ⟨pre, hSp, c, hi, hl, hk⟩)⟩
    · have hr := run_endLoop (P := P) hl (by rw [hlp]; simp)
      rw [hlp] at hr hl
      exact ⟨none, _, hr, hdone D xs _ (Nat.le_refl _) hS (hI _ _ _ hi (below_put _ (by omega) hl) (fun k ho => World.putObj_heap_other (hIo.ne hi ho hl rfl).symm)) ((World.putObj_heap_other (by omega)).trans hk)⟩
    · have hr := run_endLoop (P := P) hl (by rw [hlp]; simp)
      rw [hlp] at hr hl
      exact ⟨some c, _, hr, hstop D c pre _ (Nat.le_refl _) hSp (hIx c _ _ _ _ _ (by omega) hl rfl hi) ((World.putObj_heap_other (by omega)).trans hk)⟩
end

end Go.Proofs.Ytdijdfhlmnhcjaa
