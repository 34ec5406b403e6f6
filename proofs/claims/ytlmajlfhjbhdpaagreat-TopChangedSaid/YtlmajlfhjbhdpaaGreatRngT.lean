/-
 A range over a function whose iterator writes memory of its own; the loop variables lie in blocks of their own; the caller's blocks made in the rounds are of one type, which the iterator does not touch.
-/
import Derived.Test.YtlmajlfhjbhdpaaGreatFence
import Derived.Test.YtlmajlfhjbhdpaaGreatCh
import Derived.RangeFuncFrom
import Derived.RangeFuncLeaves
import Derived.RangeFuncNested
namespace Go.Proofs.YtlmajlfhjbhdpaaGreat
set_option linter.unusedSimpArgs false
set_option linter.unusedVariables false
open Go.RowKit
/-- Blocks of cells of type T lie as they lay. -/
def KeepT (T : TypeId) (A C : World) : Prop := ∀ (g : Nat) (cs : Array Value) (fr : Nat × Nat), A.heap[g]? = some (Obj.cells cs T fr) → C.heap[g]? = A.heap[g]?
theorem KeepT.refl (T : TypeId) (A : World) : KeepT T A A := fun _ _ _ _ => rfl
theorem KeepT.trans {T : TypeId} {A B C : World} (h : KeepT T A B) (k : KeepT T B C) : KeepT T A C := fun g cs fr e => (k g cs fr ((h g cs fr e).trans e)).trans (h g cs fr e)
theorem KeepT.of_below {T : TypeId} {A C : World} (h : Below A.heap.size A C) : KeepT T A C := fun g _ _ e => h.block g (Array.getElem?_eq_some_iff.1 e).1
theorem KeepT.of_ch {T : TypeId} {A C : World} {o : Nat → Prop} (h : Ch o A C) (ho : ∀ (g : Nat) (cs : Array Value) (fr : Nat × Nat), o g → A.heap[g]? ≠ some (Obj.cells cs T fr)) : KeepT T A C := fun g cs fr e => h.2.2.2.2 g (Array.getElem?_eq_some_iff.1 e).1 (fun hg => ho g cs fr hg e)
theorem KeepT.putObj {T : TypeId} {W : World} {l : Nat} {o : Obj} (o' : Obj) (hl : W.heap[l]? = some o) (ho : o.isCells = false) : KeepT T W (W.putObj l o') := fun g cs fr e => (grownBy_putObj' W l o').block g (Array.getElem?_eq_some_iff.1 e).1 (fun h => by
 have hil : l = g := by cases h; rfl
 rw [hil, e] at hl
 cases hl
 simp [Obj.isCells] at ho)
/-- J is not touched by what turns from block B on, but for blocks of type T. -/
def AbideT {β : Type} (T : TypeId) (B : Nat) (J : β → World → Prop) : Prop := ∀ s A C, J s A → Below B A C → KeepT T A C → J s C
/-- J is not touched by what turns in a block from B on that holds no cells. -/
def Stay {β : Type} (B : Nat) (J : β → World → Prop) : Prop := ∀ s W l o o', B ≤ l → W.heap[l]? = some o → o.isCells = false → J s W → J s (W.putObj l o')
/-- The contract of such an iterator. -/
def SeqT {α : Type} (T : TypeId) (F : Fence) (n : Nat) (P : Program) (g : Nat) (lb : Array Value) (encs : α → Array Value) (Kp : World → World → Prop) (S Sp : List α → Prop) (N : Nat) (w : World) : Prop :=
 ∀ (l : Nat) (J Jx : List α → World → Prop) (W : World), Below w.heap.size w W → AbideT T W.heap.size J →
  (∀ pre x W1, J pre W1 → Sp (pre ++ [x]) → pre.length < N → YieldAt F (n - 1) P l (encs x) W1 fun e W' =>
   (e = .returned (.bool true) ∧ J (pre ++ [x]) W' ∧ Kp W1 W') ∨ (e = .returned (.bool false) ∧ Jx (pre ++ [x]) W')) →
  J [] W →
  CallsIn F n P g (#[.func (.yield l) #[] #[]] ++ lb) W fun e W' => (∃ v, e = .returned v) ∧ ((∃ xs, S xs ∧ J xs W') ∨ (∃ pre, Sp pre ∧ Jx pre W'))
section
variable {F : Fence} {n : Nat} {P : Program}
theorem below_put {B l : Nat} {W : World} {o : Obj} (o' : Obj) (hB : B ≤ l) (hl : W.heap[l]? = some o) : Below B W (W.putObj l o') :=
 (Below.refl B W).grown (grownBy_putObj' W l o') (Nat.le_trans hB (Nat.le_of_lt (Array.getElem?_eq_some_iff.1 hl).1)) (fun k e => by cases e; exact hB)
theorem range_ownX {α : Type} {T : TypeId} {g : Operand} {ps : Array Tmp} {assign body : Code} {Q : Exit → Act → World → Prop} {a : Act} {w : World}
  (hro : F.round = none) (h1 : 1 ≤ n) {gf : Nat} {lb : Array Value} (hg : a.eval g = .func (.func gf) #[] lb) (hFg : F.fn gf) (eg : ∀ args w, (callFunc gf args).run P w = .ok (.enter gf args) w)
  {encs : α → Array Value} {Kp : World → World → Prop} {S Sp : List α → Prop} {N : Nat} {w0 : World} (hseq : SeqT T F (n - 1) P gf lb encs Kp S Sp N w0)
  (hKt : ∀ {A B C : World}, Kp A B → Kp B C → Kp A C) (hKb : ∀ (W : World) (l : Nat) (o o' : Obj), w.heap.size ≤ l → W.heap[l]? = some o → o.isCells = false → o.isWalk = false → o'.isCells = false → Kp W (W.putObj l o')) (hb0 : Below w0.heap.size w0 w) (hps : ∀ x, (encs x).size = ps.size)
  (I : List α → World → Prop) (Ix : Code → List α → World → Prop) (hI : AbideT T w.heap.size I) (hIx : ∀ c, Stay w.heap.size (Ix c)) (h0 : I [] w) (Ax : α → Act → World → Prop) (hAx : ∀ x a' W l o o', w.heap.size ≤ l → W.heap[l]? = some o → o.isCells = false → Ax x a' W → Ax x a' (W.putObj l o'))
  (hassign : ∀ (l : Nat) (pre : List α) (x : α) (W : World) (K : Act → World → Prop), I pre W → (∀ a' W', KeepsOthers W W' → Kp W W' → I pre W' → Ax x a' W' → K a' W') →
   assign.wpIn (F.inRound l) (n - 1 - 1) P (Exit.then K (fun _ _ _ => False)) { tmps := (ps.zip (encs x)).foldl (fun t (p, v) => t.setIfInBounds p v) a.tmps, defers := [] } W)
  (hbody : ∀ (l : Nat) (pre : List α) (x : α) (a' : Act) (W : World), I pre W → Ax x a' W → Sp (pre ++ [x]) → pre.length < N → body.wpIn (F.inRound l) (n - 1 - 1) P (ownPostK Kp I Ix (pre ++ [x]) W) a' W)
  (hdone : ∀ (D : Nat) (xs : List α) (W : World), w.heap.size ≤ D → S xs → I xs W → W.heap[D]? = some (.deferred (some [])) → Q .normal { a with defers := { target := .collected D, args := #[] } :: a.defers } W)
  (hstop : ∀ (D : Nat) (c : Code) (pre : List α) (W : World), w.heap.size ≤ D → Sp pre → Ix c pre W → W.heap[D]? = some (.deferred (some [])) → c.wpIn F n P Q { a with defers := { target := .collected D, args := #[] } :: a.defers } W) :
  (Code.rangeFunc g ps assign body).wpIn F n P Q a w := by
 obtain ⟨D, hD⟩ : ∃ D, w.heap.size = D := ⟨_, rfl⟩
 refine wpIn_rangeFunc fun fn hfn => ?_
 obtain ⟨lp, hlp⟩ : ∃ lp : LoopState → Option Code → Loop, lp = fun st pe => { state := st, pending := pe, fn, tmps := a.tmps, params := ps, assign, body, defers := D } := ⟨_, rfl⟩
 obtain ⟨V, hV⟩ : ∃ V, (w.alloc (.deferred (some []))).alloc (.loop (lp .ready none)) = V := ⟨_, rfl⟩
 have sV : V.heap.size = D + 2 := by rw [← hV]; simp [hD]
 have bV : Below D w V := by rw [← hV, ← hD]; exact ((Below.refl _ w).alloc (Nat.le_refl _) _).alloc (by simp) _
 have lV : V.heap[D + 1]? = some (.loop (lp .ready none)) := by
  have := World.alloc_heap_new (w.alloc (.deferred (some []))) (.loop (lp .ready none))
  rwa [hV, World.size_alloc, hD] at this
 have kV : V.heap[D]? = some (.deferred (some [])) := by
  rw [← hV, ← hD]; exact (Below.heap_alloc _ _ _ (by simp)).trans (World.alloc_heap_new w _)
 rw [hD] at hI hIx hKb hdone hstop hAx
 refine ⟨D + 1, [{ target := .collected D, args := #[] }], V, { target := .fn (.func gf) lb, args := #[.func (.yield (D + 1)) #[] #[]] }, V, gf, #[.func (.yield (D + 1)) #[] #[]] ++ lb, V, ?_, ?_, ?_, ?_, fun _ => h1, ?_⟩
 ·
  rw [hro, ← hV, hlp, ← hD]; exact run_enterLoop_outer _ _ _ _ _
 ·
  simp only [resolve, hg]
  simp [go_sem]
 ·
  intro f' hf'; simp [Target.leads] at hf'; subst hf'; exact hFg
 ·
  simp [invoke, go_sem, eg]
 refine (hseq (D + 1) (fun pre W => I pre W ∧ W.heap[D + 1]? = some (.loop (lp .ready none)) ∧ W.heap[D]? = some (.deferred (some [])))
  (fun pre W => ∃ c, Ix c pre W ∧ W.heap[D + 1]? = some (.loop (lp .done (some c))) ∧ W.heap[D]? = some (.deferred (some [])))
  V (hb0.trans (bV.mono (by rw [← hD]; exact hb0.size))) ?_ ?_ ⟨hI _ _ _ h0 bV (KeepT.of_below (by rw [hD]; exact bV)), lV, kV⟩).mono ?_
 ·
  rintro s A C ⟨h, hl, hk⟩ hb ht
  exact ⟨hI _ _ _ h (hb.mono (by omega)) ht, (hb.block _ (by omega)).trans hl, (hb.block _ (by omega)).trans hk⟩
 ·
  rintro pre x Wa ⟨hia, hla, hka⟩ hsp hlen
  have hy := run_yield (P := P) (args := encs x) hla (by rw [hlp]; exact hps x)
  rw [hlp] at hy
  refine ⟨fn, _, assign, body, hy, roundIn_of_wpIn hfn (hassign _ pre x Wa _ hia fun a' W hko hkp hi hax => ?_)⟩
  have hl := hko.same _ _ hla rfl
  have hk := hko.same _ _ hka rfl
  have hlt : D + 1 < W.heap.size := (Array.getElem?_eq_some_iff.1 hl).1
  have hbr := run_beginRound (P := P) hl (by rw [hlp])
  obtain ⟨X, hX⟩ : ∃ X, W.putObj (D + 1) (.loop { lp .ready none with state := .busy }) = X := ⟨_, rfl⟩
  rw [hX] at hbr
  have lX : X.heap[D + 1]? = some (.loop { lp .ready none with state := .busy }) := by rw [← hX]; exact World.putObj_heap_same hlt
  have kX : X.heap[D]? = some (.deferred (some [])) := by rw [← hX]; exact (World.putObj_heap_other (by omega)).trans hk
  have iX : I pre X := hI _ _ _ hi (by rw [← hX]; exact below_put _ (by omega) hl) (by rw [← hX]; exact KeepT.putObj _ hl rfl)
  have aX : Ax x a' X := by rw [← hX]; exact hAx _ _ _ _ _ _ (by omega) hl rfl hax
  have wX : Kp Wa X := hKt hkp (by rw [← hX]; exact hKb _ _ _ _ (by omega) hl rfl rfl rfl)
  have close : ∀ (j : Option Code) (Y : World), KeepsOthers X Y → ∃ Z, (Instr.endRound (D + 1) j).run P Y = .ok (.bool j.isNone) Z ∧ (Below D Y Z ∧ KeepT T Y Z ∧ ∀ c s, Ix c s Y → Ix c s Z) ∧ Kp Y Z ∧ Z.heap[D + 1]? = some (.loop (lp (if j.isNone then .ready else .done) j)) ∧ Z.heap[D]? = some (.deferred (some [])) := fun j Y hY => by
   have lY := hY.same _ _ lX rfl
   have hr := run_endRound (P := P) j lY
   rw [hlp] at hr lY ⊢
   exact ⟨_, hr, ⟨below_put _ (by omega) lY, KeepT.putObj _ lY rfl, fun c s h => hIx c s _ _ _ _ (by omega) lY rfl h⟩, hKb _ _ _ _ (by omega) lY rfl rfl rfl, World.putObj_heap_same (Array.getElem?_eq_some_iff.1 lY).1, (World.putObj_heap_other (by omega)).trans (hY.same _ _ kX rfl)⟩
  refine ⟨X, hbr, ?_⟩
  refine wpIn_mono (hbody _ pre x a' X iX aX hsp hlen) ?_
  rintro e a3 Y hp
  cases e with
  | normal =>
   obtain ⟨h3, h4, h5⟩ := hp
   obtain ⟨Z, z1, z2, z3, z4, z5⟩ := close none Y h3
   exact ⟨_, Z, z1, .inl ⟨rfl, ⟨hI _ _ _ h5 z2.1 z2.2.1, z4, z5⟩, hKt (hKt wX h4) z3⟩⟩
  | ret =>
   obtain ⟨h3, h5⟩ := hp
   obtain ⟨Z, z1, z2, z3, z4, z5⟩ := close (some .ret) Y h3
   exact ⟨_, Z, z1, .inr ⟨rfl, .ret, z2.2.2 _ _ h5, z4, z5⟩⟩
  | exit id =>
   obtain ⟨h3, h5⟩ := hp
   obtain ⟨Z, z1, z2, z3, z4, z5⟩ := close (some (.exit id)) Y h3
   exact ⟨_, Z, z1, .inr ⟨rfl, .exit id, z2.2.2 _ _ h5, z4, z5⟩⟩
  | goto t =>
   obtain ⟨h3, h5⟩ := hp
   obtain ⟨Z, z1, z2, z3, z4, z5⟩ := close (some (.goto t)) Y h3
   exact ⟨_, Z, z1, .inr ⟨rfl, .goto t, z2.2.2 _ _ h5, z4, z5⟩⟩
  | panic ch => exact hp.elim
  | outgrown => exact hp.elim
 ·
  rintro e W ⟨⟨v, rfl⟩, (⟨xs, hS, hi, hl, hk⟩ | ⟨pre, hSp, c, hi, hl, hk⟩)⟩
  ·
   have hr := run_endLoop (P := P) hl (by rw [hlp]; simp)
   rw [hlp] at hr hl
   exact ⟨none, _, hr, hdone D xs _ (Nat.le_refl _) hS (hI _ _ _ hi (below_put _ (by omega) hl) (KeepT.putObj _ hl rfl)) ((World.putObj_heap_other (by omega)).trans hk)⟩
  ·
   have hr := run_endLoop (P := P) hl (by rw [hlp]; simp)
   rw [hlp] at hr hl
   exact ⟨some c, _, hr, hstop D c pre _ (Nat.le_refl _) hSp (hIx c _ _ _ _ _ (by omega) hl rfl hi) ((World.putObj_heap_other (by omega)).trans hk)⟩
end
end Go.Proofs.YtlmajlfhjbhdpaaGreat
