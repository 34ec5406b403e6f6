/-
 Texts built as one: XYV, XYX.
-/
import Derived.Test.YtlmajlfhjbhdpaaGreatWA
import Derived.Test.YtlmajlfhjbhdpaaGreatWC
namespace Go.Proofs.YtlmajlfhjbhdpaaGreat
section
set_option linter.unusedSimpArgs false
set_option linter.unusedVariables false
open Go.RowKit Go.Shelf
attribute [local go_sem] Oper.semAt_some
theorem AnyJ.beginT {P : Program} {ops : Array Oper} {Q : Exit → Act → World → Prop} {id : Nat} {a : Act} {w : World} (S : World → Prop) (J : Nat → Bool) (hm : P.follows .mixedOrders = true) (hS : S w.drew)
  (h : S w.drew → AnyJ P .any ops (fun e a w => e = .normal ∧ Q .normal a w) S J ops.size (Array.replicate ops.size false) a w.drew) : (Code.region id ops true).wp P Q a w :=
 Code.wp_mono (fun e a w h => by obtain ⟨rfl, h⟩ := h; exact h) (AnyJ.beginP S J hm hS h)
/-- The range law, where each value goes into one slot, and from there into the loop variable. -/
theorem range_ownDT {F : Fence} {n : Nat} {P : Program} {T0 : Array Value} {g : Operand} {p q : Tmp} {assign body : Code} {Q : Exit → Act → World → Prop} {w : World}
  (hro : F.round = none) (h1 : 1 ≤ n) {gf : Nat} {lb : Array Value} (hg : Act.eval { tmps := T0, defers := [] } g = .func (.func gf) #[] lb) (hFg : F.fn gf) (eg : ∀ args w, (callFunc gf args).run P w = .ok (.enter gf args) w)
  {Kp : World → World → Prop} {S Sp : List Int → Prop} {N : Nat} {w0 : World} (hseq : SeqD F (n - 1) P gf lb (fun x : Int => #[.int .i64 x]) Kp S Sp N w0)
  (hKt : ∀ {A B C : World}, Kp A B → Kp B C → Kp A C) (hKb : ∀ (W : World) (l : Nat) (o o' : Obj), w.heap.size ≤ l → W.heap[l]? = some o → o.isCells = false → o.isWalk = false → o'.isCells = false → Kp W (W.putObj l o')) (hb0 : Below w0.heap.size w0 w)
  (I : List Int → World → Prop) (Ix : Code → List Int → World → Prop) (hI : AbideD w.heap.size I) (hIx : ∀ c, Stay w.heap.size (Ix c)) (h0 : I [] w)
  (hassign : ∀ (l : Nat) (pre : List Int) (x : Int) (W : World) (K : Act → World → Prop), I pre W → (∀ W', KeepsOthers W W' → Kp W W' → I pre W' → K { tmps := (T0.setIfInBounds p (.int .i64 x)).setIfInBounds q (.int .i64 x), defers := [] } W') →
   assign.wpIn (F.inRound l) (n - 1 - 1) P (Exit.then K (fun _ _ _ => False)) { tmps := T0.setIfInBounds p (.int .i64 x), defers := [] } W)
  (hbody : ∀ (l : Nat) (pre : List Int) (x : Int) (W : World), I pre W → Sp (pre ++ [x]) → pre.length < N → body.wpIn (F.inRound l) (n - 1 - 1) P (ownPostK Kp I Ix (pre ++ [x]) W) { tmps := (T0.setIfInBounds p (.int .i64 x)).setIfInBounds q (.int .i64 x), defers := [] } W)
  (hdone : ∀ (D : Nat) (xs : List Int) (W : World), w.heap.size ≤ D → S xs → I xs W → W.heap[D]? = some (.deferred (some [])) → Q .normal { tmps := T0, defers := { target := .collected D, args := #[] } :: [] } W)
  (hstop : ∀ (D : Nat) (c : Code) (pre : List Int) (W : World), w.heap.size ≤ D → Sp pre → Ix c pre W → W.heap[D]? = some (.deferred (some [])) → c.wpIn F n P Q { tmps := T0, defers := { target := .collected D, args := #[] } :: [] } W) :
  (Code.rangeFunc g #[p] assign body).wpIn F n P Q { tmps := T0, defers := [] } w :=
 range_ownD hro h1 hg hFg eg hseq hKt hKb hb0 (fun _ => rfl) I Ix hI hIx h0 (fun x a' _ => a' = { tmps := (T0.setIfInBounds p (.int .i64 x)).setIfInBounds q (.int .i64 x), defers := [] }) (fun _ _ _ _ _ _ _ _ _ h => h)
  (fun l pre x W K hi hk => by
   have h := hassign l pre x W K hi (fun W' k1 k2 k3 => hk _ W' k1 k2 k3 rfl)
   have e : ∀ v : Value, ((#[p].zip #[v]).foldl (fun t (p, v) => t.setIfInBounds p v) T0) = T0.setIfInBounds p v := fun v => by simp
   rw [e]
   exact h) (fun l pre x a' W hi ha hs hl => by subst ha; exact hbody l pre x W hi hs hl) hdone hstop
/-- What the loop over the rooms leaves by a return. -/
def PlX (w : World) (sb B0 : Nat) (hs : Value) (n : Nat) (left : Int) (L : Option (List StayV) → Int → Prop) (c : Code) (_ : List Int) (W : World) : Prop := c = .ret ∧ ∃ (va : Option Addr) (vn vc : Nat) (r : RefV) (res : Option (List StayV)) (left' : Int), Row W (B0 + 2) [.slice va vn vc] ∧ Row W (B0 + 3) r.cs ∧ Row W (B0 + 4) [.bool res.isSome] ∧ Row W sb [hs, .int .i64 left'] ∧ -1 ≤ left' ∧ left' ≤ left ∧ Ch (fun x => x = sb) w W ∧ L res left' ∧
 (∀ out, res = some out → vn = n ∧ n ≤ vc ∧ SlG stE W va n out ∧ PlA va)
theorem Ch.putObj {o : Nat → Prop} {A W : World} (h : Ch o A W) (l : Nat) (x : Obj) (hl : A.heap.size ≤ l) : Ch o A (W.putObj l x) :=
 ⟨h.1, h.2.1, h.2.2.1, by simpa [World.putObj] using h.2.2.2.1, fun k hk hn => (World.putObj_heap_other (by omega)).trans (h.2.2.2.2 k hk hn)⟩
theorem PlX.stay {w : World} {sb B0 : Nat} {hs : Value} {n : Nat} {left : Int} {L : Option (List StayV) → Int → Prop} {base : Nat} (hw : w.heap.size ≤ base) (c : Code) : Stay base (PlX w sb B0 hs n left L c) := by
 rintro s W l o o' hl ho hc ⟨rfl, va, vn, vc, r, res, left', h1, h2, h3, h4, h5, h6, h7, h8, h9⟩
 refine ⟨rfl, va, vn, vc, r, res, left', h1.putObj ho hc, h2.putObj ho hc, h3.putObj ho hc, h4.putObj ho hc, h5, h6, h7.putObj l o' (by omega), h8, fun out e => ?_⟩
 obtain ⟨q1, q2, q3, q4⟩ := h9 out e
 exact ⟨q1, q2, q3.putObj o' ho hc, q4⟩
/-- What stands behind the call of place within place. -/
def Pl17 (H : List RoomV) (d : Nat) (l : List StayV) (i n sb : Nat) (x lk : Int) (hs ls : Value) (W : World) (T : Array Value) (a : Act) (w : World) : Prop := ∃ (Bt : Nat) (ad : Option Addr) (cp : Nat) (va : Option Addr) (vn vc : Nat) (r : RefV) (bo : Bool) (res : Option (List StayV)) (lm : Int),
 Ch (fun k => k = sb ∨ k = Bt) W w ∧ W.heap.size ≤ Bt ∧ Row w sb [hs, .int .i64 lm] ∧ Row w Bt r.cs ∧ PlaceR H d (lk - 1) (placedL l i x) res lm ∧ res.isSome = bo ∧ -1 ≤ lm ∧ lm ≤ lk - 1 ∧ (∀ out, res = some out → vn = n ∧ n ≤ vc ∧ SlG stE w va n out ∧ PlA va) ∧
 a = { tmps := ((((((((((((T.setIfInBounds 79 (.pointer (some ⟨sb, 0, none⟩))).setIfInBounds 80 ls).setIfInBounds 81 (.int .i64 (i : Int))).setIfInBounds 82 (.int .i64 x)).setIfInBounds 83 (.slice ad n cp)).setIfInBounds 84 (.tuple #[.slice va vn vc, r.val, .bool bo])).setIfInBounds 78 (.tuple #[.slice va vn vc, r.val, .bool bo])).setIfInBounds 85 (.slice va vn vc)).setIfInBounds 86 r.val).setIfInBounds 87 (.bool bo)).setIfInBounds 15 (.pointer (some ⟨Bt, 0, none⟩))).setIfInBounds 14 (.slice va vn vc)).setIfInBounds 16 (.bool bo), defers := [] }
theorem region_mid {P : Program} {ops : Array Oper} {Q : Exit → Act → World → Prop} {l n id : Nat} {T : Array Value} {w : World} (R : Array Value → Act → World → Prop)
  (h : (Code.region id ops true).wpIn (Fence.wide.inRound l) n P (fun e a w => e = .normal ∧ R T a w) { tmps := T, defers := [] } w) (k : ∀ a w, R T a w → Q .normal a w) : (Code.region id ops true).wpIn (Fence.wide.inRound l) n P Q { tmps := T, defers := [] } w :=
 wpIn_mono h (fun e a w h => by obtain ⟨rfl, h⟩ := h; exact k a w h)
theorem Row.setc {w : World} {b : Nat} {cs : List Value} (h : Row w b cs) (i : Nat) (v : Value) : Row (w.setCell ⟨b, i, none⟩ v) b (cs.set i v) := by
 obtain ⟨T, hT⟩ := h
 exact ⟨T, by simp [World.setCell, Array.getElem?_modify, hT]⟩
theorem Ch.trans' {o p : Nat → Prop} {A B C : World} (h : Ch o A B) (k : Ch p B C) (hp : ∀ i, p i → A.heap.size ≤ i ∨ o i) : Ch o A C :=
 ⟨k.1.trans h.1, k.2.1.trans h.2.1, k.2.2.1.trans h.2.2.1, Nat.le_trans h.2.2.2.1 k.2.2.2.1, fun i hi ho => (k.2.2.2.2 i (Nat.lt_of_lt_of_le hi h.2.2.2.1) (fun hh => by
  rcases hp i hh with h1 | h1
  ·
   omega
  ·
   exact ho h1)).trans (h.2.2.2.2 i hi ho)⟩
/-- The results are laid. -/
abbrev putR (W : World) (B : Nat) (v : Value) (r : RefV) (bo : Bool) : World := ((((((W.setCell ⟨B + 1 + 1, 0, none⟩ v).setCell ⟨B + 1 + 1 + 1, 0, none⟩ (.int .i64 r.kd)).setCell ⟨B + 1 + 1 + 1, 1, none⟩ (.int .i64 r.ni)).setCell ⟨B + 1 + 1 + 1, 2, none⟩ (.slice r.sa r.sn r.sc)).setCell ⟨B + 1 + 1 + 1, 3, none⟩ (.slice r.ra r.rn r.rc)).setCell ⟨B + 1 + 1 + 1, 4, none⟩ (.slice r.ba r.bn r.bc)).setCell ⟨B + 1 + 1 + 1 + 1, 0, none⟩ (.bool bo)
theorem putR_row {W : World} {B : Nat} {x2 x4 : Value} (v : Value) (r : RefV) (bo : Bool) (h2 : Row W (B + 2) [x2]) (h3 : Row W (B + 3) zref.cs) (h4 : Row W (B + 4) [x4]) :
  Row (putR W B v r bo) (B + 2) [v] ∧ Row (putR W B v r bo) (B + 3) r.cs ∧ Row (putR W B v r bo) (B + 4) [.bool bo] ∧ Ch (fun k => k = B + 2 ∨ k = B + 3 ∨ k = B + 4) W (putR W B v r bo) := by
 refine ⟨?_, ?_, ?_, ?_⟩
 ·
  exact ((((((h2.setc 0 v).other (by show B + 2 ≠ B + 1 + 1 + 1; omega) _).other (by show B + 2 ≠ B + 1 + 1 + 1; omega) _).other (by show B + 2 ≠ B + 1 + 1 + 1; omega) _).other (by show B + 2 ≠ B + 1 + 1 + 1; omega) _).other (by show B + 2 ≠ B + 1 + 1 + 1; omega) _).other (by show B + 2 ≠ B + 1 + 1 + 1 + 1; omega) _
 ·
  exact ((((((h3.other (by show B + 3 ≠ B + 1 + 1; omega) _).setc 0 _).setc 1 _).setc 2 _).setc 3 _).setc 4 _).other (by show B + 3 ≠ B + 1 + 1 + 1 + 1; omega) _
 ·
  exact ((((((h4.other (by show B + 4 ≠ B + 1 + 1; omega) _).other (by show B + 4 ≠ B + 1 + 1 + 1; omega) _).other (by show B + 4 ≠ B + 1 + 1 + 1; omega) _).other (by show B + 4 ≠ B + 1 + 1 + 1; omega) _).other (by show B + 4 ≠ B + 1 + 1 + 1; omega) _).other (by show B + 4 ≠ B + 1 + 1 + 1; omega) _).setc 0 _
 ·
  exact (((((((Ch.refl (fun k => k = B + 2 ∨ k = B + 3 ∨ k = B + 4) W).setCell (p := ⟨B + 1 + 1, 0, none⟩) (.inl rfl) _).setCell (p := ⟨B + 1 + 1 + 1, 0, none⟩) (.inr (.inl rfl)) _).setCell (p := ⟨B + 1 + 1 + 1, 1, none⟩) (.inr (.inl rfl)) _).setCell (p := ⟨B + 1 + 1 + 1, 2, none⟩) (.inr (.inl rfl)) _).setCell (p := ⟨B + 1 + 1 + 1, 3, none⟩) (.inr (.inl rfl)) _).setCell (p := ⟨B + 1 + 1 + 1, 4, none⟩) (.inr (.inl rfl)) _).setCell (p := ⟨B + 1 + 1 + 1 + 1, 0, none⟩) (.inr (.inr rfl)) _
set_option maxRecDepth 100000 in
set_option maxHeartbeats 6400000 in
theorem place2_any (H : List RoomV) (ha : Option Addr) (hm hc sb : Nat) (hm1 : hm ≤ 1000) (hv : validM H = true) : ∀ (d : Nat) (left : Int) (b : Option Addr) (n cap : Nat) (l : List StayV) (w : World), 0 ≤ left → left ≤ 5000 → n ≤ cap → PlA b → GoodL l → (l.filter (fun s => !s.inn)).length < d →
  Row w sb [.slice ha hm hc, .int .i64 left] → SlM w ha hm H → Stab w.heap.size sb (fun W => SlM W ha hm H) → SlG stE w b n l → Stab w.heap.size sb (fun W => SlG stE W b n l) →
  Calls Tryz.prog 51 #[.pointer (some ⟨sb, 0, none⟩), .slice b n cap] w fun e w' => ∃ (va : Option Addr) (vn vc : Nat) (r : RefV) (res : Option (List StayV)) (left' : Int), e = .returned (.tuple #[.slice va vn vc, r.val, .bool res.isSome]) ∧ PlaceR H d left l res left' ∧ Row w' sb [.slice ha hm hc, .int .i64 left'] ∧ -1 ≤ left' ∧ left' ≤ left ∧ Ch (fun x => x = sb) w w' ∧
   (∀ out, res = some out → vn = n ∧ n ≤ vc ∧ SlG stE w' va n out ∧ PlA va) ∧ (Crowded H l → ∃ s ∈ l, HallRef (nsL s.fr l) (srtM H) s.fr r)
 | 0, _, _, _, _, _, _, _, _, _, _, _, h, _, _, _, _, _ => absurd h (Nat.not_lt_zero _)
 | d + 1, left, b, n, cap, l, w, h0, h1, hc1, hpb, hg, hd, hr, hH, hHs, hL, hLs => by
  have IH := Lib.hid (place2_any H ha hm hc sb hm1 hv d)
  have HPB := Lib.hid hpb
  clear hpb
  have HH := Lib.hid hH
  have HHS := Lib.hid hHs
  have HL := Lib.hid hL
  have HLS := Lib.hid hLs
  have HG := Lib.hid hg
  have HV := Lib.hid hv
  have HR := Lib.hid hr
  have HD := Lib.hid hd
  have hn := hg.len hL.1
  have hsb := hr.lt
  obtain ⟨B0, hB0⟩ : ∃ B0, w.heap.size = B0 := ⟨_, rfl⟩
  obtain ⟨W1, hW1⟩ : ∃ W1, ((((w.alloc (.cells #[.pointer (some ⟨sb, 0, none⟩)] 91)).alloc (.cells #[.slice b n cap] 26)).alloc (.cells #[.slice none 0 0] 26)).alloc (.cells #[.int .i64 0, .int .i64 0, .slice none 0 0, .slice none 0 0, .slice none 0 0] 47)).alloc (.cells #[.bool false] 4) = W1 := ⟨_, rfl⟩
  have hb1 : Below w.heap.size w W1 := by rw [← hW1]; (repeat' (first | (with_reducible first | exact Below.refl _ _ | assumption | exact Bw.out (by assumption) | refine bw_alloc ?_ _ | refine bw_step ?_ (by assumption) | refine Below.alloc ?_ ?_ _ | refine Below.drew ?_ | refine below_drewN ?_ _ | refine Below.setCell ?_ ?_ _ | refine below_step ?_ (by assumption) ?_ | exact Nat.le_refl _) | omega | (simp; omega) | (simp; done)))
  have q0 : Row W1 B0 [.pointer (some ⟨sb, 0, none⟩)] := by rw [← hW1, ← hB0]; (repeat' (first | (with_reducible assumption) | (with_reducible refine Row.new' _ _ _ (by first | rfl | (simp; done) | omega)) | (with_reducible first | refine Row.alloc ?_ _ | refine Row.drew ?_ | refine Row.step ?_ (by assumption) | refine Row.drewN ?_ _) | (with_reducible refine Row.set2' ?_ _ _; first | exact ⟨_, _, by assumption⟩ | exact ⟨_, _, Row.alloc (by assumption) _⟩) | (with_reducible refine Row.other ?_ (by first | omega | (simp; omega)) _)))
  have q1 : Row W1 (B0 + 1) [.slice b n cap] := by rw [← hW1, ← hB0]; (repeat' (first | (with_reducible assumption) | (with_reducible refine Row.new' _ _ _ (by first | rfl | (simp; done) | omega)) | (with_reducible first | refine Row.alloc ?_ _ | refine Row.drew ?_ | refine Row.step ?_ (by assumption) | refine Row.drewN ?_ _) | (with_reducible refine Row.set2' ?_ _ _; first | exact ⟨_, _, by assumption⟩ | exact ⟨_, _, Row.alloc (by assumption) _⟩) | (with_reducible refine Row.other ?_ (by first | omega | (simp; omega)) _)))
  have q2 : Row W1 (B0 + 2) [.slice none 0 0] := by rw [← hW1, ← hB0]; (repeat' (first | (with_reducible assumption) | (with_reducible refine Row.new' _ _ _ (by first | rfl | (simp; done) | omega)) | (with_reducible first | refine Row.alloc ?_ _ | refine Row.drew ?_ | refine Row.step ?_ (by assumption) | refine Row.drewN ?_ _) | (with_reducible refine Row.set2' ?_ _ _; first | exact ⟨_, _, by assumption⟩ | exact ⟨_, _, Row.alloc (by assumption) _⟩) | (with_reducible refine Row.other ?_ (by first | omega | (simp; omega)) _)))
  have q3 : Row W1 (B0 + 3) zref.cs := by rw [← hW1, ← hB0]; (repeat' (first | (with_reducible assumption) | (with_reducible refine Row.new' _ _ _ (by first | rfl | (simp; done) | omega)) | (with_reducible first | refine Row.alloc ?_ _ | refine Row.drew ?_ | refine Row.step ?_ (by assumption) | refine Row.drewN ?_ _) | (with_reducible refine Row.set2' ?_ _ _; first | exact ⟨_, _, by assumption⟩ | exact ⟨_, _, Row.alloc (by assumption) _⟩) | (with_reducible refine Row.other ?_ (by first | omega | (simp; omega)) _)))
  have q4 : Row W1 (B0 + 4) [.bool false] := by rw [← hW1, ← hB0]; (repeat' (first | (with_reducible assumption) | (with_reducible refine Row.new' _ _ _ (by first | rfl | (simp; done) | omega)) | (with_reducible first | refine Row.alloc ?_ _ | refine Row.drew ?_ | refine Row.step ?_ (by assumption) | refine Row.drewN ?_ _) | (with_reducible refine Row.set2' ?_ _ _; first | exact ⟨_, _, by assumption⟩ | exact ⟨_, _, Row.alloc (by assumption) _⟩) | (with_reducible refine Row.other ?_ (by first | omega | (simp; omega)) _)))
  have hs1 : W1.heap.size = B0 + 5 := by rw [← hW1, ← hB0]; simp
  have hr1 := hr.step hb1
  have Q0 := Lib.hid q0
  have Q1 := Lib.hid q1
  have Q2 := Lib.hid q2
  have Q3 := Lib.hid q3
  have Q4 := Lib.hid q4
  have HR1 := Lib.hid hr1
  have HB1 := Lib.hid hb1
  have HC1 : Hid (Ch (fun x => x = sb) w W1) := Ch.ofB hb1
  clear hH hHs hL hLs hg hr hv hd q0 q1 q2 q3 q4 hr1 hb1
  have hB0' := Lib.hid hB0
  refine calls_of_wp_marks Tryz.func51 rfl ?_
  simp only [Tryz.ntmps51, List.size_toArray, List.length_cons, List.length_nil, Nat.reduceAdd, Nat.reduceSub, Array.replicate_succ, Array.replicate_zero, List.push_toArray, List.append_toArray, List.nil_append, List.cons_append]
  go_upto_region 1 with fail
  have n0 := Q0.out.cell 0 rfl
  have n1 := HR1.out.cell 0 rfl
  refine AnyJ.beginT (fun w' : World => w'.cell? ⟨B0, 0, none⟩ = some (.pointer (some ⟨sb, 0, none⟩)) ∧ w'.cell? ⟨sb, 0, none⟩ = some (.slice ha hm hc)) (fun _ => true) (by kernel_rfl) ⟨n0, n1⟩ (fun hS => ?_)
  refine AnyJ.takeD (i := 0) (d := some 17) (v := ?_) rfl (by kernel_rfl) (by kernel_rfl) (by kernel_rfl) (by kernel_rfl) (by kernel_rfl) (fun _ _ _ h => (by cases h.1)) (Or.inl ⟨by kernel_rfl, ?_⟩) hS ?_
  rotate_left
  ·
   intro w' hS
   obtain ⟨f0, f1⟩ := hS
   go_simp
   try with_reducible rfl
  refine AnyJ.takeD (i := 1) (d := some 18) (v := ?_) rfl (by kernel_rfl) (by kernel_rfl) (by kernel_rfl) (by kernel_rfl) (by kernel_rfl) (fun _ _ _ h => (by cases h.1)) (Or.inl ⟨by kernel_rfl, ?_⟩) hS ?_
  rotate_left
  ·
   intro w' hS
   obtain ⟨f0, f1⟩ := hS
   go_simp
   try with_reducible rfl
  refine AnyJ.takeD (i := 2) (d := some 19) (v := ?_) rfl (by kernel_rfl) (by kernel_rfl) (by kernel_rfl) (by kernel_rfl) (by kernel_rfl) (fun _ _ _ h => (by cases h.1)) (Or.inl ⟨by kernel_rfl, ?_⟩) hS ?_
  rotate_left
  ·
   intro w' hS
   obtain ⟨f0, f1⟩ := hS
   go_simp
   try with_reducible rfl
  refine AnyJ.takeD (i := 3) (d := some 20) (v := ?_) rfl (by kernel_rfl) (by kernel_rfl) (by kernel_rfl) (by kernel_rfl) (by kernel_rfl) (fun _ _ _ h => (by cases h.1)) (Or.inl ⟨by kernel_rfl, ?_⟩) hS ?_
  rotate_left
  ·
   intro w' hS
   obtain ⟨f0, f1⟩ := hS
   go_simp
   try with_reducible rfl
  refine AnyJ.takeD (i := 4) (d := some 21) (v := ?_) rfl (by kernel_rfl) (by kernel_rfl) (by kernel_rfl) (by kernel_rfl) (by kernel_rfl) (fun _ _ _ h => (by cases h.1)) (Or.inl ⟨by kernel_rfl, ?_⟩) hS ?_
  rotate_left
  ·
   intro w' hS
   obtain ⟨f0, f1⟩ := hS
   go_simp
   try with_reducible rfl
  refine AnyJ.takeD (i := 5) (d := some 22) (v := ?_) rfl (by kernel_rfl) (by kernel_rfl) (by kernel_rfl) (by kernel_rfl) (by kernel_rfl) (fun _ _ _ h => (by cases h.1)) (Or.inl ⟨by kernel_rfl, ?_⟩) hS ?_
  rotate_left
  ·
   intro w' hS
   obtain ⟨f0, f1⟩ := hS
   go_simp
   try with_reducible rfl
  refine AnyJ.takeD (i := 6) (d := some 23) (v := ?_) rfl (by kernel_rfl) (by kernel_rfl) (by kernel_rfl) (by kernel_rfl) (by kernel_rfl) (fun _ _ _ h => (by cases h.1)) (Or.inl ⟨by kernel_rfl, ?_⟩) hS ?_
  rotate_left
  ·
   intro w' hS
   obtain ⟨f0, f1⟩ := hS
   go_simp
   try with_reducible rfl
  refine AnyJ.takeD (i := 7) (d := some 24) (v := ?_) rfl (by kernel_rfl) (by kernel_rfl) (by kernel_rfl) (by kernel_rfl) (by kernel_rfl) (fun _ _ _ h => (by cases h.1)) (Or.inl ⟨by kernel_rfl, ?_⟩) hS ?_
  rotate_left
  ·
   intro w' hS
   obtain ⟨f0, f1⟩ := hS
   go_simp
   try with_reducible rfl
  refine AnyJ.takeD (i := 8) (d := some 25) (v := ?_) rfl (by kernel_rfl) (by kernel_rfl) (by kernel_rfl) (by kernel_rfl) (by kernel_rfl) (fun _ _ _ h => (by cases h.1)) (Or.inl ⟨by kernel_rfl, ?_⟩) hS ?_
  rotate_left
  ·
   intro w' hS
   obtain ⟨f0, f1⟩ := hS
   go_simp
   try with_reducible rfl
  refine AnyJ.takeD (i := 9) (d := some 26) (v := ?_) rfl (by kernel_rfl) (by kernel_rfl) (by kernel_rfl) (by kernel_rfl) (by kernel_rfl) (fun _ _ _ h => (by cases h.1)) (Or.inl ⟨by kernel_rfl, ?_⟩) hS ?_
  rotate_left
  ·
   intro w' hS
   obtain ⟨f0, f1⟩ := hS
   go_simp
   try with_reducible rfl
  refine AnyJ.takeD (i := 12) (d := some 29) (v := ?_) rfl (by kernel_rfl) (by kernel_rfl) (by kernel_rfl) (by kernel_rfl) (by kernel_rfl) (fun _ _ _ h => (by cases h.1)) (Or.inl ⟨by kernel_rfl, ?_⟩) hS ?_
  rotate_left
  ·
   intro w' hS
   obtain ⟨f0, f1⟩ := hS
   go_simp
   try with_reducible rfl
  obtain ⟨W2, hW2⟩ : ∃ W2, W1.drew.alloc (.cells #[.func (.func 69) #[.slice ha hm hc] #[], .func (.func 70) #[.slice ha hm hc] #[]] 111) = W2 := ⟨_, rfl⟩
  have hb2 : Below W1.heap.size W1 W2 := by rw [← hW2]; exact (Below.refl _ _).drew.alloc (by simp) _
  have qf : Row W2 (B0 + 5) [.func (.func 69) #[.slice ha hm hc] #[], .func (.func 70) #[.slice ha hm hc] #[]] := by rw [← hW2, ← hs1]; exact Row.new' _ _ _ (by simp)
  refine AnyJ.one (i := 10) (by kernel_rfl) rfl (fun Kz hKz => ?_)
  go_simp
  refine hKz _ _ (fun _ => ⟨(hb2.cell (World.block_lt_of_cell? _ _ n0)).trans n0, (hb2.cell (World.block_lt_of_cell? _ _ n1)).trans n1⟩) ?_
  clear hKz Kz
  refine AnyJ.one (i := 11) (by kernel_rfl) rfl (fun Kz hKz => ?_)
  go_simp
  refine hKz _ _ (fun _ => ⟨(hb2.cell (World.block_lt_of_cell? _ _ n0)).trans n0, (hb2.cell (World.block_lt_of_cell? _ _ n1)).trans n1⟩) ?_
  clear hKz Kz
  refine AnyJ.done (by kernel_rfl) ⟨rfl, ?_⟩ _
  try simp only [Act.put, List.setIfInBounds_toArray, List.set_cons_zero, List.set_cons_succ]
  replace Q0 := Lib.hid (Q0.out.step hb2)
  replace Q1 := Lib.hid (Q1.out.step hb2)
  replace Q2 := Lib.hid (Q2.out.step hb2)
  replace Q3 := Lib.hid (Q3.out.step hb2)
  replace Q4 := Lib.hid (Q4.out.step hb2)
  replace HR1 := Lib.hid (HR1.out.step hb2)
  have HC2 : Hid (Ch (fun x => x = sb) w W2) := HC1.out.trans (Ch.ofB hb2)
  have HB2 : Hid (Below w.heap.size w W2) := HB1.out.trans (hb2.mono HB1.out.size)
  have hs2 : W2.heap.size = B0 + 6 := by rw [← hW2]; simp [hs1]
  have QF := Lib.hid qf
  have f0 := qf.cell 0 rfl
  have f1 := qf.cell 1 rfl
  have hfl := qf.lt
  clear hW2 hW1 hb2 qf n0 n1 hS HB1 HC1 hs1
  go_wp2_with fail
  go_loopw [8, 9, 10, 29] (fun _ _ _ ix wr => ∃ i : Nat, i ≤ 2 ∧ ix = .int .i64 i ∧ Hid (1 ≤ i → ¬ Crowded H l) ∧ Hid (Below W2.heap.size W2 wr)) (fun _ _ _ ix _ => 2 - (intOf ix).toNat)
  case atStart => exact ⟨0, Nat.zero_le _, rfl, (fun h => by omega), Below.refl _ _⟩
  case round =>
   obtain ⟨i, hi, rfl, hNC, hB⟩ := hrel
   have hH3 := HHS.out.ch HH.out (HC2.out.trans (Ch.ofB hB.out)) (Nat.le_refl _)
   have hL3 := HLS.out.ch HL.out (HC2.out.trans (Ch.ofB hB.out)) (Nat.le_refl _)
   have HH3 := Lib.hid hH3
   have HL3 := Lib.hid hL3
   have z1 := (Q1.out.step hB.out).cell 0 rfl
   have g0 := (QF.out.step hB.out).cell 0 rfl
   have g1 := (QF.out.step hB.out).cell 1 rfl
   have gl := (QF.out.step hB.out).lt
   clear hH3 hL3 f0 f1 hfl
   obtain rfl | rfl | rfl : i = 0 ∨ i = 1 ∨ i = 2 := by omega
   ·
    go_wp2_with fail
    refine (crowded_any ha hm hc H b n cap l wr hm1 HH3.out HV.out HL3.out HG.out).mono ?_
    rintro e w4 ⟨r, is, rfl, hno, hyes, hb4⟩
    have HB4 : Hid (Below W2.heap.size W2 w4) := hB.out.trans (hb4.mono hB.out.size)
    cases is with
    | true =>
     -- ARM1
     have HY := Lib.hid (hyes rfl)
     clear hno hyes hb4
     obtain ⟨Bx, hBx⟩ : ∃ Bx, w4.heap.size = Bx := ⟨_, rfl⟩
     obtain ⟨w5, hw5⟩ : ∃ w5, w4.alloc (.cells #[.int .i64 r.kd, .int .i64 r.ni, .slice r.sa r.sn r.sc, .slice r.ra r.rn r.rc, .slice r.ba r.bn r.bc] 47) = w5 := ⟨_, rfl⟩
     have hal : Below w4.heap.size w4 w5 := by rw [← hw5]; exact (Below.refl _ _).alloc (Nat.le_refl _) _
     have hr5 : Row w5 Bx r.cs := by rw [← hw5, ← hBx]; exact Row.new' _ _ _ rfl
     have HB5 : Hid (Below W2.heap.size W2 w5) := HB4.out.trans (hal.mono HB4.out.size)
     have c0 := hr5.cell 0 rfl
     have c1 := hr5.cell 1 rfl
     have c2 := hr5.cell 2 rfl
     have c3 := hr5.cell 3 rfl
     have c4 := hr5.cell 4 rfl
     have cl := hr5.lt
     have hsz5 := HB5.out.size
     have hbx6 : B0 + 6 ≤ Bx := by have := HB4.out.size; omega
     have p2 := Q2.out.step HB5.out
     have p3 := Q3.out.step HB5.out
     have p4 := Q4.out.step HB5.out
     have t0 := p2.cell 0 rfl
     have t1 := p2.frozen 0
     have t2 := p2.lt
     have u0 := p3.cell 0 rfl
     have u1 := p3.cell 1 rfl
     have u2 := p3.cell 2 rfl
     have u3 := p3.cell 3 rfl
     have u4 := p3.cell 4 rfl
     have u5 := p3.frozen 0
     have u6 := p3.frozen 1
     have u7 := p3.frozen 2
     have u8 := p3.frozen 3
     have u9 := p3.frozen 4
     have ul := p3.lt
     have v0 := p4.cell 0 rfl
     have v1 := p4.frozen 0
     have v2 := p4.lt
     obtain ⟨Wf, hWf⟩ : ∃ Wf, putR w5 B0 (.slice none 0 0) r false = Wf := ⟨_, rfl⟩
     have HP := putR_row (.slice none 0 0) r false p2 p3 p4
     rw [hWf] at HP
     replace HP := Lib.hid HP
     dsimp only [putR] at hWf
     have HWF := Lib.hid hWf
     clear hWf
     clear hal hr5 p2 p3 p4 g0 g1 gl z1
     go_wp2_with fail
     go_region
     go_wp2_with fail
     rw [HWF.out]
     obtain ⟨e2, e3, e4, eC⟩ := HP.out
     have hCf : Ch (fun x => x = sb) w Wf := (HC2.out.trans (Ch.ofB HB5.out)).trans' eC (fun k h => by omega)
     obtain ⟨Wd, hWd⟩ : ∃ Wd, Wf.drew = Wd := ⟨_, rfl⟩
     have d2 : Row Wd (B0 + 2) [.slice none 0 0] := by rw [← hWd]; exact e2.drew
     have d3 : Row Wd (B0 + 3) r.cs := by rw [← hWd]; exact e3.drew
     have d4 : Row Wd (B0 + 4) [.bool false] := by rw [← hWd]; exact e4.drew
     have hCd : Ch (fun x => x = sb) w Wd := by rw [← hWd]; exact hCf.drew
     have hRd : Row Wd sb [.slice ha hm hc, .int .i64 left] := by rw [← hWd]; exact ((HR1.out.step HB5.out).ch eC (by omega)).drew
     rw [hWd]
     have a0 : Wd.cell? ⟨B0 + 1 + 1, 0, none⟩ = _ := Row.cell (b := B0 + 1 + 1) d2 0 rfl
     have a1 : Wd.cell? ⟨B0 + 1 + 1 + 1, 0, none⟩ = _ := Row.cell (b := B0 + 1 + 1 + 1) d3 0 rfl
     have a2 : Wd.cell? ⟨B0 + 1 + 1 + 1, 1, none⟩ = _ := Row.cell (b := B0 + 1 + 1 + 1) d3 1 rfl
     have a3 : Wd.cell? ⟨B0 + 1 + 1 + 1, 2, none⟩ = _ := Row.cell (b := B0 + 1 + 1 + 1) d3 2 rfl
     have a4 : Wd.cell? ⟨B0 + 1 + 1 + 1, 3, none⟩ = _ := Row.cell (b := B0 + 1 + 1 + 1) d3 3 rfl
     have a5 : Wd.cell? ⟨B0 + 1 + 1 + 1, 4, none⟩ = _ := Row.cell (b := B0 + 1 + 1 + 1) d3 4 rfl
     have a6 : Wd.cell? ⟨B0 + 1 + 1 + 1 + 1, 0, none⟩ = _ := Row.cell (b := B0 + 1 + 1 + 1 + 1) d4 0 rfl
     refine ⟨.tuple #[.slice none 0 0, r.val, .bool false], by simp [results, Tryz.results51, go_sem, a0, a1, a2, a3, a4, a5, a6], ?_⟩
     obtain ⟨s, hs, hh⟩ := HY.out
     obtain ⟨R, T, _, _, _, _, hhr⟩ := hh
     exact ⟨_, _, _, r, none, left, rfl, .inl ⟨⟨s, hs, hhr.not⟩, rfl, rfl⟩, hRd, by omega, by omega, hCd, (fun out h => by cases h), fun _ => HY.out⟩
     -- ARM1E
    | false =>
     have HN : Hid (¬ Crowded H l) := fun ⟨s, hs, h⟩ => h (hno rfl s hs)
     clear hno hyes hb4 g0 g1 gl z1
     go_wp2_with fail
     exact ⟨⟨1, by omega, rfl, fun _ => HN.out, HB4.out.trans ((Below.refl _ _).alloc HB4.out.size _)⟩, by simp [intOf]⟩
   ·
    go_wp2_with fail
    refine (apart_any (.slice ha hm hc) b n cap l wr HL3.out HG.out).mono ?_
    rintro e w4 ⟨rfl, hb4⟩
    have HB4 : Hid (Below W2.heap.size W2 w4) := hB.out.trans (hb4.mono hB.out.size)
    clear hb4 g0 g1 gl z1
    go_wp2_with fail
    exact ⟨⟨2, by omega, rfl, fun _ => hNC.out (by omega), HB4.out.trans ((Below.refl _ _).alloc HB4.out.size _)⟩, by simp [intOf]⟩
   ·
    have HN := Lib.hid (hNC.out (by omega))
    clear g0 g1 gl
    go_wp2_with fail
    refine (next_any b n cap l wr (by omega) HL3.out).mono ?_
    rintro e w4 ⟨j, rfl, hnx, hb4⟩
    have HB4 : Hid (Below W2.heap.size W2 w4) := hB.out.trans (hb4.mono hB.out.size)
    obtain ⟨Bi, hBi⟩ : ∃ Bi, w4.heap.size = Bi := ⟨_, rfl⟩
    obtain ⟨w5, hw5⟩ : ∃ w5, w4.alloc (.cells #[.int .i64 j] 3) = w5 := ⟨_, rfl⟩
    have hal : Below w4.heap.size w4 w5 := by rw [← hw5]; exact (Below.refl _ _).alloc (Nat.le_refl _) _
    have hri : Row w5 Bi [.int .i64 j] := by rw [← hw5, ← hBi]; exact Row.new' _ _ _ rfl
    have HB5 : Hid (Below W2.heap.size W2 w5) := HB4.out.trans (hal.mono HB4.out.size)
    have hbi6 : B0 + 6 ≤ Bi := by have := HB4.out.size; omega
    have hs5 : w5.heap.size = Bi + 1 := by rw [← hw5, ← hBi]; simp
    have c1 := hri.cell 0 rfl
    have z1 := (Q1.out.step HB5.out).cell 0 rfl
    have HRI := Lib.hid hri
    have HL5 := Lib.hid (HLS.out.ch HL.out (HC2.out.trans (Ch.ofB HB5.out)) (Nat.le_refl _))
    clear hb4 hal hri
    rcases hnx with ⟨rfl, hall⟩ | ⟨i, s, rfl, hsi, hin⟩
    ·
     skip
     -- ARM2
     have HALL := Lib.hid hall
     have p2 := Q2.out.step HB5.out
     have p3 := Q3.out.step HB5.out
     have p4 := Q4.out.step HB5.out
     have t0 := p2.cell 0 rfl
     have t1 := p2.frozen 0
     have t2 := p2.lt
     have u0 := p3.cell 0 rfl
     have u1 := p3.cell 1 rfl
     have u2 := p3.cell 2 rfl
     have u3 := p3.cell 3 rfl
     have u4 := p3.cell 4 rfl
     have u5 := p3.frozen 0
     have u6 := p3.frozen 1
     have u7 := p3.frozen 2
     have u8 := p3.frozen 3
     have u9 := p3.frozen 4
     have ul := p3.lt
     have v0 := p4.cell 0 rfl
     have v1 := p4.frozen 0
     have v2 := p4.lt
     obtain ⟨Wf, hWf⟩ : ∃ Wf, putR w5 B0 (.slice b n cap) zref true = Wf := ⟨_, rfl⟩
     have HP := putR_row (.slice b n cap) zref true p2 p3 p4
     rw [hWf] at HP
     replace HP := Lib.hid HP
     dsimp only [putR] at hWf
     clear hall p2 p3 p4
     go_wp2_with fail
     obtain ⟨e2, e3, e4, eC⟩ := HP.out
     have hCf : Ch (fun x => x = sb) w Wf := (HC2.out.trans (Ch.ofB HB5.out)).trans' eC (fun k h => by omega)
     have hRf : Row Wf sb [.slice ha hm hc, .int .i64 left] := (HR1.out.step HB5.out).ch eC (by omega)
     have hLf := HLS.out.ch HL.out hCf (Nat.le_refl _)
     have a0 : Wf.cell? ⟨B0 + 1 + 1, 0, none⟩ = _ := Row.cell (b := B0 + 1 + 1) e2 0 rfl
     have a1 : Wf.cell? ⟨B0 + 1 + 1 + 1, 0, none⟩ = _ := Row.cell (b := B0 + 1 + 1 + 1) e3 0 rfl
     have a2 : Wf.cell? ⟨B0 + 1 + 1 + 1, 1, none⟩ = _ := Row.cell (b := B0 + 1 + 1 + 1) e3 1 rfl
     have a3 : Wf.cell? ⟨B0 + 1 + 1 + 1, 2, none⟩ = _ := Row.cell (b := B0 + 1 + 1 + 1) e3 2 rfl
     have a4 : Wf.cell? ⟨B0 + 1 + 1 + 1, 3, none⟩ = _ := Row.cell (b := B0 + 1 + 1 + 1) e3 3 rfl
     have a5 : Wf.cell? ⟨B0 + 1 + 1 + 1, 4, none⟩ = _ := Row.cell (b := B0 + 1 + 1 + 1) e3 4 rfl
     have a6 : Wf.cell? ⟨B0 + 1 + 1 + 1 + 1, 0, none⟩ = _ := Row.cell (b := B0 + 1 + 1 + 1 + 1) e4 0 rfl
     refine ⟨.tuple #[.slice b n cap, zref.val, .bool true], by simp [results, Tryz.results51, go_sem, a0, a1, a2, a3, a4, a5, a6], ?_⟩
     exact ⟨_, _, _, zref, some l, left, rfl, .inr ⟨HN.out, .inl ⟨HALL.out, rfl, rfl⟩⟩, hRf, by omega, by omega, hCf, (fun out h => by cases h; exact ⟨rfl, hc1, hLf, HPB.out⟩), fun h => absurd h HN.out⟩
     -- ARM2E
    ·
     have h01 : ¬ ((i : Int) < 0) := by omega
     have hil : i < n := by have := (List.getElem?_eq_some_iff.1 hsi).1; rw [HL.out.1] at this; exact this
     obtain ⟨s', gs, off1, hsx, rfl, hlb1, x0, x1, x2, x3, x4, x5, x6, x7, x8⟩ := slT_get HL5.out hil
     have hss : s' = s := by have := hsx.out; rw [hsi] at this; cases this; rfl
     subst hss
     have i1 : (0 : Int) ≤ (i : Int) := by omega
     have i2 : (i : Int) < (n : Int) := by omega
     obtain ⟨W6, hW6⟩ : ∃ W6, (w5.alloc (.cells #[.int .i64 s'.id] 3)).alloc (.cells #[.int .i64 3, .int .i64 0, .slice (some ⟨Bi + 1, 0, none⟩) 1 1, .slice none 0 0, .slice none 0 0] 47) = W6 := ⟨_, rfl⟩
     have hb6 : Below w5.heap.size w5 W6 := by rw [← hW6]; exact ((Below.refl _ _).alloc (Nat.le_refl _) _).alloc (by simp) _
     have hrt : Row W6 (Bi + 2) [.int .i64 3, .int .i64 0, .slice (some ⟨Bi + 1, 0, none⟩) 1 1, .slice none 0 0, .slice none 0 0] := by rw [← hW6]; exact Row.new' _ _ _ (by simp [hs5])
     have hs6 : W6.heap.size = Bi + 3 := by rw [← hW6]; simp [hs5]
     have HSI := Lib.hid hsi
     have HIN := Lib.hid hin
     have HW6 := Lib.hid hW6
     clear hsi hin hsx hW6
     go_upto_region 12 with fail
     rw [HW6.out]
     clear HW6 hw5
     have h61 := hb6.size
     replace HB5 : Hid (Below W2.heap.size W2 W6) := HB5.out.trans (hb6.mono HB5.out.size)
     replace HRI := Lib.hid (HRI.out.step hb6)
     replace HL5 := Lib.hid (HL5.out.step hb6)
     have HT := Lib.hid hrt
     have n0 := (Q0.out.step HB5.out).cell 0 rfl
     have n1 := (HR1.out.step HB5.out).cell 0 rfl
     have n2 := (Q1.out.step HB5.out).cell 0 rfl
     have n3 := HRI.out.cell 0 rfl
     have y0 := (hb6.cell (World.block_lt_of_cell? _ _ x0)).trans x0
     have y1 := (hb6.cell (World.block_lt_of_cell? _ _ x1)).trans x1
     have y2 := (hb6.cell (World.block_lt_of_cell? _ _ x2)).trans x2
     have y3 := (hb6.cell (World.block_lt_of_cell? _ _ x3)).trans x3
     have y4 := (hb6.cell (World.block_lt_of_cell? _ _ x4)).trans x4
     have y5 := (hb6.cell (World.block_lt_of_cell? _ _ x5)).trans x5
     have y6 := (hb6.cell (World.block_lt_of_cell? _ _ x6)).trans x6
     have y7 := (hb6.cell (World.block_lt_of_cell? _ _ x7)).trans x7
     have y8 := (hb6.cell (World.block_lt_of_cell? _ _ x8)).trans x8
     clear x0 x1 x2 x3 x4 x5 x6 x7 x8 hb6 hrt c1 z1 hB
     refine AnyJ.beginT (fun w' : World => w'.cell? ⟨B0, 0, none⟩ = some (.pointer (some ⟨sb, 0, none⟩)) ∧ w'.cell? ⟨sb, 0, none⟩ = some (.slice ha hm hc) ∧ w'.cell? ⟨B0 + 1, 0, none⟩ = some (.slice (some ⟨gs, off1, none⟩) n cap) ∧ w'.cell? ⟨Bi, 0, none⟩ = some (.int .i64 (i : Int)) ∧ w'.cell? ⟨gs, off1 + i * 9, none⟩ = some (.int .i64 s'.id) ∧ w'.cell? ⟨gs, off1 + i * 9 + 1, none⟩ = some (.int .i64 s'.kd) ∧ w'.cell? ⟨gs, off1 + i * 9 + 2, none⟩ = some (.int .i64 s'.fr) ∧ w'.cell? ⟨gs, off1 + i * 9 + 3, none⟩ = some (.int .i64 s'.un) ∧ w'.cell? ⟨gs, off1 + i * 9 + 4, none⟩ = some (.int .i64 s'.ps) ∧ w'.cell? ⟨gs, off1 + i * 9 + 5, none⟩ = some (.int .i64 s'.rm) ∧ w'.cell? ⟨gs, off1 + i * 9 + 6, none⟩ = some (.int .i64 s'.wt) ∧ w'.cell? ⟨gs, off1 + i * 9 + 7, none⟩ = some (.bool s'.ac) ∧ w'.cell? ⟨gs, off1 + i * 9 + 8, none⟩ = some (.bool s'.inn)) (fun _ => true) (by kernel_rfl) ⟨n0, n1, n2, n3, y0, y1, y2, y3, y4, y5, y6, y7, y8⟩ (fun hS => ?_)
     refine AnyJ.takeD (i := 0) (d := some 55) (v := ?_) rfl (by kernel_rfl) (by kernel_rfl) (by kernel_rfl) (by kernel_rfl) (by kernel_rfl) (fun _ _ _ h => (by cases h.1)) (Or.inl ⟨by kernel_rfl, ?_⟩) hS ?_
     rotate_left
     ·
      intro w' hS
      obtain ⟨e0, e1, e2, e3, f0, f1, f2, f3, f4, f5, f6, f7, f8⟩ := hS
      go_simp
      try with_reducible rfl
     refine AnyJ.takeD (i := 1) (d := some 56) (v := ?_) rfl (by kernel_rfl) (by kernel_rfl) (by kernel_rfl) (by kernel_rfl) (by kernel_rfl) (fun _ _ _ h => (by cases h.1)) (Or.inl ⟨by kernel_rfl, ?_⟩) hS ?_
     rotate_left
     ·
      intro w' hS
      obtain ⟨e0, e1, e2, e3, f0, f1, f2, f3, f4, f5, f6, f7, f8⟩ := hS
      go_simp
      try with_reducible rfl
     refine AnyJ.takeD (i := 2) (d := some 57) (v := ?_) rfl (by kernel_rfl) (by kernel_rfl) (by kernel_rfl) (by kernel_rfl) (by kernel_rfl) (fun _ _ _ h => (by cases h.1)) (Or.inl ⟨by kernel_rfl, ?_⟩) hS ?_
     rotate_left
     ·
      intro w' hS
      obtain ⟨e0, e1, e2, e3, f0, f1, f2, f3, f4, f5, f6, f7, f8⟩ := hS
      go_simp
      try with_reducible rfl
     refine AnyJ.takeD (i := 3) (d := some 58) (v := ?_) rfl (by kernel_rfl) (by kernel_rfl) (by kernel_rfl) (by kernel_rfl) (by kernel_rfl) (fun _ _ _ h => (by cases h.1)) (Or.inl ⟨by kernel_rfl, ?_⟩) hS ?_
     rotate_left
     ·
      intro w' hS
      obtain ⟨e0, e1, e2, e3, f0, f1, f2, f3, f4, f5, f6, f7, f8⟩ := hS
      go_simp
      try with_reducible rfl
     refine AnyJ.takeD (i := 4) (d := some 59) (v := ?_) rfl (by kernel_rfl) (by kernel_rfl) (by kernel_rfl) (by kernel_rfl) (by kernel_rfl) (fun _ _ _ h => (by cases h.1)) (Or.inl ⟨by kernel_rfl, ?_⟩) hS ?_
     rotate_left
     ·
      intro w' hS
      obtain ⟨e0, e1, e2, e3, f0, f1, f2, f3, f4, f5, f6, f7, f8⟩ := hS
      go_simp
      try with_reducible rfl
     refine AnyJ.takeD (i := 5) (d := some 60) (v := ?_) rfl (by kernel_rfl) (by kernel_rfl) (by kernel_rfl) (by kernel_rfl) (by kernel_rfl) (fun _ _ _ h => (by cases h.1)) (Or.inl ⟨by kernel_rfl, ?_⟩) hS ?_
     rotate_left
     ·
      intro w' hS
      obtain ⟨e0, e1, e2, e3, f0, f1, f2, f3, f4, f5, f6, f7, f8⟩ := hS
      go_simp
      try with_reducible rfl
     refine AnyJ.takeD (i := 6) (d := some 61) (v := .pointer (some ⟨gs, off1 + i * 9, none⟩)) rfl (by kernel_rfl) (by kernel_rfl) (by kernel_rfl) (by kernel_rfl) (by kernel_rfl) (fun _ _ _ h => (by cases h.1)) (Or.inl ⟨by kernel_rfl, ?_⟩) hS ?_
     ·
      intro w' hS
      obtain ⟨e0, e1, e2, e3, f0, f1, f2, f3, f4, f5, f6, f7, f8⟩ := hS
      go_simp
      try omega
     refine AnyJ.takeD (i := 7) (d := some 62) (v := ?_) rfl (by kernel_rfl) (by kernel_rfl) (by kernel_rfl) (by kernel_rfl) (by kernel_rfl) (fun _ _ _ h => (by cases h.1)) (Or.inl ⟨by kernel_rfl, ?_⟩) hS ?_
     rotate_left
     ·
      intro w' hS
      obtain ⟨e0, e1, e2, e3, f0, f1, f2, f3, f4, f5, f6, f7, f8⟩ := hS
      go_simp
      try with_reducible rfl
     have hFT := fitting_any ha hm hc s' W6.drew
     refine AnyJ.one (i := 8) (by kernel_rfl) rfl (fun Kz hKz => ?_)
     go_simp
     refine hFT.mono ?_
     rintro e W7 ⟨rfl, hf1, hf2, hb7⟩
     refine hKz _ _ (fun _ => ?_) ?_
     ·
      obtain ⟨e0, e1, e2, e3, f0, f1, f2, f3, f4, f5, f6, f7, f8⟩ := hS
      refine ⟨?_, ?_, ?_, ?_, ?_, ?_, ?_, ?_, ?_, ?_, ?_, ?_, ?_⟩ <;> exact (hb7.cell (World.block_lt_of_cell? _ _ (by assumption))).trans (by assumption)
     clear hKz Kz hFT
     refine AnyJ.done (by kernel_rfl) ⟨rfl, ?_⟩ _
     try simp only [Act.put, List.setIfInBounds_toArray, List.set_cons_zero, List.set_cons_succ]
     obtain ⟨base, hbase⟩ : ∃ base, W7.heap.size = base := ⟨_, rfl⟩
     have hd6 : W6.drew.heap.size = Bi + 3 := hs6
     rw [hd6] at hf1 hf2 hb7 ⊢
     have hlt7 := hf2.lt
     have hO : PlO sb B0 Bi (Bi + 2) (Bi + 3) (Bi + 4) base := ⟨by omega, by omega, by omega, by omega, by omega, by omega⟩
     have hb67 : Below W6.heap.size W6 W7 := by rw [hs6]; exact (Below.refl _ _).drew.trans hb7
     have HB7 : Hid (Below W2.heap.size W2 W7) := HB5.out.trans (hb67.mono HB5.out.size)
     have HC7 : Hid (Ch (fun x => x = sb) w W7) := HC2.out.trans (Ch.ofB HB7.out)
     have HSG := Lib.hid (HG.out.each s' (List.mem_of_getElem? HSI.out))
     have HST := Lib.hid (fit_stops (KPl w.heap.size sb (Bi + 3) (Bi + 4)) 5 (by omega) (Bi + 3) (Bi + 4) ha hm hc H s' W7 hf1 hf2 (HHS.out.ch HH.out HC7.out (Nat.le_refl _)) hm1 (validM_in HV.out).2.1 HSG.out (fun A C h r => r.of_block h.2.2.1) (fun A C h r => r.of_block h.2.2.2) (fun A C h hA => HHS.out A C h.2.1 hA) (fun A C h => h.1))
     have HP0 : Hid (PlF sb B0 Bi (Bi + 2) (Bi + 3) (Bi + 4) base (.slice ha hm hc) (.slice (some ⟨gs, off1, none⟩) n cap) (.slice (some ⟨Bi + 1, 0, none⟩) 1 1) i s' (.slice none 0 0) (.slice none 0 0) 0 W7) := ⟨⟨Q0.out.step HB7.out, Q1.out.step HB7.out, Q2.out.step HB7.out, Q3.out.step HB7.out, Q4.out.step HB7.out, HRI.out.step hb67, hf1, hf2⟩, HT.out.step hb67, ⟨[], rfl, OwnG.nil _ _ _ _⟩, ⟨[], rfl, OwnG.nil _ _ _ _⟩⟩
     have HRS := Lib.hid (HR1.out.step HB7.out)
     have HSX : Hid (∃ b c, Value.slice (some ⟨Bi + 1, 0, none⟩) 1 1 = .slice b 1 c) := ⟨_, _, rfl⟩
     clear hS n0 n1 n2 n3 y0 y1 y2 y3 y4 y5 y6 y7 y8 hb7 hb67 hf1 hf2
     go_wp2_with fail
     refine (wpIn_wide (n := 6)).1 ?_
     refine range_ownDT (w0 := W7) (p := 64) (q := 13) rfl (by omega) rfl trivial (enters_of Tryz.func87 (by kernel_rfl) rfl) HST.out (fun h k => h.trans k)
      (fun Wx lx o o' hl ho hcc hwk hc' => KPl.putObj Wx lx o' hl (by omega) (by omega) (by omega)) (Below.refl _ _)
      (PlI w sb B0 Bi (Bi + 2) (Bi + 3) (Bi + 4) base (.slice ha hm hc) (.slice (some ⟨gs, off1, none⟩) n cap) (.slice (some ⟨Bi + 1, 0, none⟩) 1 1) i s' left (PlaceL (PlaceR H d) l i))
      (PlX w sb B0 (.slice ha hm hc) n left (PlaceL (PlaceR H d) l i (fitL s' H) left)) (by rw [hbase]; exact PlI.abide hO (by omega)) (fun c => PlX.stay (by omega) c)
      ⟨left, .slice none 0 0, .slice none 0 0, HRS.out, h0, Int.le_refl _, HP0.out, HC7.out, by omega, fun r res left' h => h⟩ ?assign ?body ?done ?stop
     case assign =>
      intro lx pre x W K hI hK
      gi_wp2
      exact hK W (KeepsOthers.refl _) (KPl.refl ..) hI
     case body =>
      rintro lx pre x W hI hsp hpl
      -- ARM3
      simp only [List.setIfInBounds_toArray, List.set_cons_zero, List.set_cons_succ]
      obtain ⟨lk, vR, vB, r1, k0, k1, hF, hCw, hbW, hLk⟩ := hI
      obtain ⟨xs, hxl, hX⟩ := hF.xs
      obtain ⟨bs, hbl, hBs⟩ := hF.bs
      obtain ⟨adR, cpR, rfl, hX, _⟩ := hX.shape hxl
      obtain ⟨adB, cpB, rfl, hBs, _⟩ := hBs.shape hbl
      have HX := Lib.hid hX
      have HBS := Lib.hid hBs
      clear hX hBs
      obtain ⟨rest, hrest⟩ := hsp
      have hLX : ∀ res left', PlaceL (PlaceR H d) l i (x :: rest) lk res left' → PlaceL (PlaceR H d) l i (fitL s' H) left res left' := fun res left' h => by
       have := hLk _ _ _ h
       rw [← hrest]
       simpa using this
      have HLX := Lib.hid hLX
      have HLK := Lib.hid hLk
      have HF := Lib.hid hF
      have HCW := Lib.hid hCw
      have HRW := Lib.hid r1
      have HO := Lib.hid hO
      have hxm : x ∈ fitL s' H := by rw [← hrest]; simp
      obtain ⟨rx, hrx, hrid, hrs⟩ := fitL_mem hxm
      have hx1 : 1 ≤ x ∧ x ≤ 1000000 := by rw [← hrid]; exact (formedR_in ((validM_in HV.out).2.1 rx hrx)).1
      have m0 := hF.z.b0.cell 0 rfl
      have s0 := r1.cell 0 rfl
      have s1 := r1.cell 1 rfl
      have sz := r1.frozen 1
      have sl := r1.lt
      clear hLX hF hCw r1 hLk hrest hxm hrs
      obtain ⟨W1, hW1⟩ : ∃ W1, W.setCell ⟨sb, 1, none⟩ (.int .i64 (lk - 1)) = W1 := ⟨_, rfl⟩
      have hr1 : Row W1 sb [.slice ha hm hc, .int .i64 (lk - 1)] := by rw [← hW1]; exact HRW.out.setc 1 _
      have hc1' : Ch (fun x => x = sb) W W1 := by rw [← hW1]; exact Ch.setCell (o := fun x => x = sb) (Ch.refl _ W) (p := ⟨sb, 1, none⟩) rfl _
      have HF1 := Lib.hid (HF.out.ch hO hc1')
      have n0 := HF1.out.z.b0.cell 0 rfl
      have n1 := hr1.cell 1 rfl
      have HR1 := Lib.hid hr1
      have HC1 := Lib.hid hc1'
      clear hr1 hc1'
      by_cases hneg : lk - 1 < 0
      ·
       have p2 := HF1.out.z.b2
       have p3 := HF1.out.z.b3
       have p4 := HF1.out.z.b4
       have t0 := p2.cell 0 rfl
       have t1 := p2.frozen 0
       have t2 := p2.lt
       have u0 := p3.cell 0 rfl
       have u1 := p3.cell 1 rfl
       have u2 := p3.cell 2 rfl
       have u3 := p3.cell 3 rfl
       have u4 := p3.cell 4 rfl
       have u5 := p3.frozen 0
       have u6 := p3.frozen 1
       have u7 := p3.frozen 2
       have u8 := p3.frozen 3
       have u9 := p3.frozen 4
       have ul := p3.lt
       have v0 := p4.cell 0 rfl
       have v1 := p4.frozen 0
       have v2 := p4.lt
       obtain ⟨Wf, hWf⟩ : ∃ Wf, putR W1 B0 (.slice none 0 0) zref false = Wf := ⟨_, rfl⟩
       have HP := putR_row (.slice none 0 0) zref false p2 p3 p4
       rw [hWf] at HP
       replace HP := Lib.hid HP
       dsimp only [putR] at hWf
       clear p2 p3 p4
       gi_wp2_with fail
       obtain ⟨e2, e3, e4, eC⟩ := HP.out
       have hW1l := HF.out.z.h1.lt
       have hW2l := HF.out.z.h2.lt
       have hok : ∀ k, k = B0 + 2 ∨ k = B0 + 3 ∨ k = B0 + 4 → oPl B0 sb (Bi + 3) (Bi + 4) W k := by
        rintro k (rfl | rfl | rfl)
        ·
         exact oPl_row HF.out.z.b2 (by omega) (by omega) (by omega)
        ·
         exact oPl_row HF.out.z.b3 (by omega) (by omega) (by omega)
        ·
         exact oPl_row HF.out.z.b4 (by omega) (by omega) (by omega)
       have hcW : Ch (oPl B0 sb (Bi + 3) (Bi + 4) W) W Wf := (HC1.out.mono (fun k _ h => .inl h)).trans (eC.mono (fun k _ h => hok k h))
       exact ⟨(oPl_out HRW.out hW1l hW2l (by omega) (by omega) (by omega) hcW).1, rfl, none, 0, 0, zref, none, lk - 1, e2, e3, e4, HR1.out.ch eC (by omega), by omega, by omega, (HCW.out.trans HC1.out).trans' eC (fun k h => by omega), HLX.out _ _ (.inl ⟨hneg, rfl, rfl⟩), (fun out e => by cases e)⟩
      ·
       have hSof : ∀ Z, PlF sb B0 Bi (Bi + 2) (Bi + 3) (Bi + 4) base (.slice ha hm hc) (.slice (some ⟨gs, off1, none⟩) n cap) (.slice (some ⟨Bi + 1, 0, none⟩) 1 1) i s' (.slice adR pre.length cpR) (.slice adB pre.length cpB) pre.length Z → (Z.cell? ⟨B0, 0, none⟩ = some (.pointer (some ⟨sb, 0, none⟩)) ∧ Z.cell? ⟨B0 + 1, 0, none⟩ = some (.slice (some ⟨gs, off1, none⟩) n cap) ∧ Z.cell? ⟨Bi, 0, none⟩ = some (.int .i64 (i : Int))) := fun Z h => ⟨h.z.b0.cell 0 rfl, h.z.b1.cell 0 rfl, h.z.bi.cell 0 rfl⟩
       obtain ⟨Wa, hWa⟩ : ∃ Wa, W1.drew = Wa := ⟨_, rfl⟩
       have hba : Below W1.heap.size W1 Wa := by rw [← hWa]; exact (Below.refl _ _).drew
       have HFa := Lib.hid (HF1.out.ch hO (Ch.ofB hba))
       have HRa := Lib.hid (HR1.out.step hba)
       have HCa : Hid (Ch (fun x => x = sb) W Wa) := HC1.out.trans (Ch.ofB hba)
       gi_wp2_with fail
       refine region_mid (Pl17 H d l i n sb x lk (.slice ha hm hc) (.slice (some ⟨gs, off1, none⟩) n cap) W) ?pre ?post
       case post =>
        clear hSof HFa HRa HCa hba hWa
        rintro a' We ⟨Bt, ad, cp, va, vn, vc, r, bo, res, lm, hCe, hBtl, hRe, hBE, hPR, hbo, hm1', hm2', hLE, rfl⟩
        simp only [List.setIfInBounds_toArray, List.set_cons_zero, List.set_cons_succ]
        have HCe := Lib.hid hCe
        have HRe := Lib.hid hRe
        have HBE := Lib.hid hBE
        have HPR := Lib.hid hPR
        have HBO := Lib.hid hbo
        have HLE := Lib.hid hLE
        have hsWe := HCe.out.size
        have HFe := Lib.hid (HF.out.ch2 hO HCe.out (fun k h => by omega))
        clear hCe hRe hBE hPR hbo hLE
        have hoe : ∀ k, k = sb ∨ k = Bt → oPl B0 sb (Bi + 3) (Bi + 4) W k := by
         rintro k (rfl | rfl)
         ·
          exact .inl rfl
         ·
          exact .inr ⟨by omega, by have := HF.out.z.h1.lt; omega, by have := HF.out.z.h2.lt; omega, fun x hx => absurd (Array.getElem?_eq_some_iff.1 hx).1 (by omega)⟩
        clear n0 n1 s0 s1 sz sl m0
        have n0 := HFe.out.z.b0.cell 0 rfl
        have n1 := HRe.out.cell 1 rfl
        cases bo with
        | true =>
         obtain ⟨out, hres⟩ := Option.isSome_iff_exists.1 HBO.out
         have p2 := HFe.out.z.b2
         have p3 := HFe.out.z.b3
         have p4 := HFe.out.z.b4
         have t0 := p2.cell 0 rfl
         have t1 := p2.frozen 0
         have t2 := p2.lt
         have u0 := p3.cell 0 rfl
         have u1 := p3.cell 1 rfl
         have u2 := p3.cell 2 rfl
         have u3 := p3.cell 3 rfl
         have u4 := p3.cell 4 rfl
         have u5 := p3.frozen 0
         have u6 := p3.frozen 1
         have u7 := p3.frozen 2
         have u8 := p3.frozen 3
         have u9 := p3.frozen 4
         have ul := p3.lt
         have v0 := p4.cell 0 rfl
         have v1 := p4.frozen 0
         have v2 := p4.lt
         obtain ⟨Wf, hWf⟩ : ∃ Wf, putR We B0 (.slice va vn vc) zref true = Wf := ⟨_, rfl⟩
         have HP := putR_row (.slice va vn vc) zref true p2 p3 p4
         rw [hWf] at HP
         replace HP := Lib.hid HP
         dsimp only [putR] at hWf
         clear p2 p3 p4
         gi_wp2_with fail
         obtain ⟨e2, e3, e4, eC⟩ := HP.out
         have hW1l := HF.out.z.h1.lt
         have hW2l := HF.out.z.h2.lt
         have hok : ∀ k, k = B0 + 2 ∨ k = B0 + 3 ∨ k = B0 + 4 → oPl B0 sb (Bi + 3) (Bi + 4) W k := by
          rintro k (rfl | rfl | rfl)
          ·
           exact oPl_row HF.out.z.b2 (by omega) (by omega) (by omega)
          ·
           exact oPl_row HF.out.z.b3 (by omega) (by omega) (by omega)
          ·
           exact oPl_row HF.out.z.b4 (by omega) (by omega) (by omega)
         have hcW : Ch (oPl B0 sb (Bi + 3) (Bi + 4) W) W Wf := (HCe.out.mono (fun k _ h => hoe k h)).trans (eC.mono (fun k _ h => hok k h))
         have hcw : Ch (fun x => x = sb) w Wf := (HCW.out.trans' HCe.out (fun k h => by omega)).trans' eC (fun k h => by omega)
         have hso := HLE.out out hres
         have hsl := hso.2.2.1
         have hsf : SlG stE Wf va n out := hsl.of_same (fun h0 b o eb => eC.2.2.2.2 b (by obtain ⟨b', o', e', hb'⟩ := hsl.block h0; rw [eb] at e'; cases e'; exact hb') (fun h => by
          rcases h with rfl | rfl | rfl
          ·
           exact hsl.ne_row HFe.out.z.b2 (by show 1 < 9; omega) h0 eb rfl
          ·
           exact hsl.ne_row HFe.out.z.b3 (by show 5 < 9; omega) h0 eb rfl
          ·
           exact hsl.ne_row HFe.out.z.b4 (by show 1 < 9; omega) h0 eb rfl))
         exact ⟨(oPl_out HRW.out hW1l hW2l (by omega) (by omega) (by omega) hcW).1, rfl, va, vn, vc, zref, some out, lm, e2, e3, e4, HRe.out.ch eC (by omega), hm1', by omega, hcw, HLX.out _ _ (.inr ⟨by omega, some out, lm, by rw [← hres]; exact HPR.out, .inl ⟨.inl rfl, rfl, rfl⟩⟩), (fun out' e => by cases e; exact ⟨hso.1, hso.2.1, hsf, hso.2.2.2⟩)⟩
        | false =>
         have hres : res = none := by have := HBO.out; cases res <;> simp_all
         by_cases hlm : lm < 0
         ·
          skip
          have p2 := HFe.out.z.b2
          have p3 := HFe.out.z.b3
          have p4 := HFe.out.z.b4
          have t0 := p2.cell 0 rfl
          have t1 := p2.frozen 0
          have t2 := p2.lt
          have u0 := p3.cell 0 rfl
          have u1 := p3.cell 1 rfl
          have u2 := p3.cell 2 rfl
          have u3 := p3.cell 3 rfl
          have u4 := p3.cell 4 rfl
          have u5 := p3.frozen 0
          have u6 := p3.frozen 1
          have u7 := p3.frozen 2
          have u8 := p3.frozen 3
          have u9 := p3.frozen 4
          have ul := p3.lt
          have v0 := p4.cell 0 rfl
          have v1 := p4.frozen 0
          have v2 := p4.lt
          obtain ⟨Wf, hWf⟩ : ∃ Wf, putR We B0 (.slice va vn vc) zref false = Wf := ⟨_, rfl⟩
          have HP := putR_row (.slice va vn vc) zref false p2 p3 p4
          rw [hWf] at HP
          replace HP := Lib.hid HP
          dsimp only [putR] at hWf
          clear p2 p3 p4
          gi_wp2_with fail
          obtain ⟨e2, e3, e4, eC⟩ := HP.out
          have hW1l := HF.out.z.h1.lt
          have hW2l := HF.out.z.h2.lt
          have hok : ∀ k, k = B0 + 2 ∨ k = B0 + 3 ∨ k = B0 + 4 → oPl B0 sb (Bi + 3) (Bi + 4) W k := by
           rintro k (rfl | rfl | rfl)
           ·
            exact oPl_row HF.out.z.b2 (by omega) (by omega) (by omega)
           ·
            exact oPl_row HF.out.z.b3 (by omega) (by omega) (by omega)
           ·
            exact oPl_row HF.out.z.b4 (by omega) (by omega) (by omega)
          have hcW : Ch (oPl B0 sb (Bi + 3) (Bi + 4) W) W Wf := (HCe.out.mono (fun k _ h => hoe k h)).trans (eC.mono (fun k _ h => hok k h))
          have hcw : Ch (fun x => x = sb) w Wf := (HCW.out.trans' HCe.out (fun k h => by omega)).trans' eC (fun k h => by omega)
          exact ⟨(oPl_out HRW.out hW1l hW2l (by omega) (by omega) (by omega) hcW).1, rfl, va, vn, vc, zref, none, lm, e2, e3, e4, HRe.out.ch eC (by omega), hm1', by omega, hcw, HLX.out _ _ (.inr ⟨by omega, none, lm, by rw [← hres]; exact HPR.out, .inl ⟨.inr hlm, rfl, rfl⟩⟩), (fun out e => by cases e)⟩
         ·
          have t3 := HFe.out.t.cell 3 rfl
          have t4 := HFe.out.t.cell 4 rfl
          have b0 := HBE.out.cell 0 rfl
          have b1 := HBE.out.cell 1 rfl
          have b2 := HBE.out.cell 2 rfl
          have b3 := HBE.out.cell 3 rfl
          have b4 := HBE.out.cell 4 rfl
          obtain ⟨Wg, hWg⟩ : ∃ X, We.drew = X := ⟨_, rfl⟩
          have hbg : Below We.heap.size We Wg := by rw [← hWg]; exact (Below.refl _ _).drew
          have HKg : Hid (Ch (fun k => (Value.slice adR pre.length cpR).ownBlock = some k ∨ (Value.slice adB pre.length cpB).ownBlock = some k) We Wg) := Ch.ofB hbg
          have HXe : Hid (OwnG intE 3 We base (.slice adR pre.length cpR) xs) := HX.out.ch HCe.out (fun g hg e => by have := HX.out.lt hg; omega)
          have HYe : Hid (OwnG rfE 47 We base (.slice adB pre.length cpB) bs) := HBS.out.ch HCe.out (fun g hg e => by have := HBS.out.lt hg; omega)
          have HXg := Lib.hid (HXe.out.step hbg)
          have HYg := Lib.hid (HYe.out.step hbg)
          have hown : ∀ k, ((Value.slice adR pre.length cpR).ownBlock = some k ∨ (Value.slice adB pre.length cpB).ownBlock = some k) → base ≤ k ∧ k < W.heap.size ∧ oPl B0 sb (Bi + 3) (Bi + 4) W k := fun k h => by
           rcases h with h | h
           ·
            exact ⟨(HX.out.lt h).1, (HX.out.lt h).2, oPl_own HX.out (by omega) (by omega) (by omega) h⟩
           ·
            exact ⟨(HBS.out.lt h).1, (HBS.out.lt h).2, oPl_own HBS.out (by omega) (by omega) (by omega) h⟩
          have hap : ∀ g, (Value.slice adR pre.length cpR).ownBlock = some g → (Value.slice adB pre.length cpB).ownBlock ≠ some g := fun g hg => HX.out.apart HBS.out (by decide) hg
          have hSG : ∀ Z, Ch (fun k => (Value.slice adR pre.length cpR).ownBlock = some k ∨ (Value.slice adB pre.length cpB).ownBlock = some k) We Z → (Z.cell? ⟨Bi + 1 + 1, 3, none⟩ = some (.slice adR pre.length cpR) ∧ Z.cell? ⟨Bi + 1 + 1, 4, none⟩ = some (.slice adB pre.length cpB) ∧ Z.cell? ⟨Bt, 0, none⟩ = some (.int .i64 r.kd) ∧ Z.cell? ⟨Bt, 1, none⟩ = some (.int .i64 r.ni) ∧ Z.cell? ⟨Bt, 2, none⟩ = some (.slice r.sa r.sn r.sc) ∧ Z.cell? ⟨Bt, 3, none⟩ = some (.slice r.ra r.rn r.rc) ∧ Z.cell? ⟨Bt, 4, none⟩ = some (.slice r.ba r.bn r.bc)) := fun Z h => by
           have ht := HFe.out.t.ch h (fun e => by have := hown _ e; omega)
           have hb := HBE.out.ch h (fun e => by have := hown _ e; omega)
           exact ⟨ht.cell 3 rfl, ht.cell 4 rfl, hb.cell 0 rfl, hb.cell 1 rfl, hb.cell 2 rfl, hb.cell 3 rfl, hb.cell 4 rfl⟩
          have hsg := hSG Wg HKg.out
          gi_wp2_with fail
          refine AnyJ.beginI (fun Z : World => Z.cell? ⟨Bi + 1 + 1, 3, none⟩ = some (.slice adR pre.length cpR) ∧ Z.cell? ⟨Bi + 1 + 1, 4, none⟩ = some (.slice adB pre.length cpB) ∧ Z.cell? ⟨Bt, 0, none⟩ = some (.int .i64 r.kd) ∧ Z.cell? ⟨Bt, 1, none⟩ = some (.int .i64 r.ni) ∧ Z.cell? ⟨Bt, 2, none⟩ = some (.slice r.sa r.sn r.sc) ∧ Z.cell? ⟨Bt, 3, none⟩ = some (.slice r.ra r.rn r.rc) ∧ Z.cell? ⟨Bt, 4, none⟩ = some (.slice r.ba r.bn r.bc)) (fun j => decide (j < 11)) (by kernel_rfl) (by kernel_rfl) (by rw [hWg]; exact hsg) (fun hS => ?_)
          rw [hWg] at hS ⊢
          clear hWg t3 t4 b0 b1 b2 b3 b4 hbg
          refine AnyJ.takeD (i := 0) (d := some 99) (v := ?_) rfl (by kernel_rfl) (by kernel_rfl) (by kernel_rfl) (by kernel_rfl) (by kernel_rfl) (fun _ _ _ h => (by cases h.1)) (Or.inl ⟨by kernel_rfl, ?_⟩) hS ?_
          rotate_left
          ·
           intro w' hS
           obtain ⟨f0, f1, f2, f3, f4, f5, f6⟩ := hS
           go_simp
           try with_reducible rfl
          refine AnyJ.takeD (i := 1) (d := some 100) (v := ?_) rfl (by kernel_rfl) (by kernel_rfl) (by kernel_rfl) (by kernel_rfl) (by kernel_rfl) (fun _ _ _ h => (by cases h.1)) (Or.inl ⟨by kernel_rfl, ?_⟩) hS ?_
          rotate_left
          ·
           intro w' hS
           obtain ⟨f0, f1, f2, f3, f4, f5, f6⟩ := hS
           go_simp
           try with_reducible rfl
          refine AnyJ.takeD (i := 2) (d := some 101) (v := ?_) rfl (by kernel_rfl) (by kernel_rfl) (by kernel_rfl) (by kernel_rfl) (by kernel_rfl) (fun _ _ _ h => (by cases h.1)) (Or.inl ⟨by kernel_rfl, ?_⟩) hS ?_
          rotate_left
          ·
           intro w' hS
           obtain ⟨f0, f1, f2, f3, f4, f5, f6⟩ := hS
           go_simp
           try with_reducible rfl
          refine AnyJ.takeD (i := 5) (d := some 104) (v := ?_) rfl (by kernel_rfl) (by kernel_rfl) (by kernel_rfl) (by kernel_rfl) (by kernel_rfl) (fun _ _ _ h => (by cases h.1)) (Or.inl ⟨by kernel_rfl, ?_⟩) hS ?_
          rotate_left
          ·
           intro w' hS
           obtain ⟨f0, f1, f2, f3, f4, f5, f6⟩ := hS
           go_simp
           try with_reducible rfl
          refine AnyJ.takeD (i := 6) (d := some 105) (v := ?_) rfl (by kernel_rfl) (by kernel_rfl) (by kernel_rfl) (by kernel_rfl) (by kernel_rfl) (fun _ _ _ h => (by cases h.1)) (Or.inl ⟨by kernel_rfl, ?_⟩) hS ?_
          rotate_left
          ·
           intro w' hS
           obtain ⟨f0, f1, f2, f3, f4, f5, f6⟩ := hS
           go_simp
           try with_reducible rfl
          refine AnyJ.takeT [7, 8, 9, 11, 12, 13] (i := 7) (d := some 106) (v := ?_) rfl (by kernel_rfl) (by kernel_rfl) (by kernel_rfl) (by kernel_rfl) (fun _ _ _ h => (by cases h.1)) (Or.inl ⟨by kernel_rfl, ?_⟩) hS ?_
          rotate_left
          ·
           intro w' hS
           obtain ⟨f0, f1, f2, f3, f4, f5, f6⟩ := hS
           go_simp
           try with_reducible rfl
          refine AnyJ.two (i := 3) (j := 8) (by kernel_rfl) rfl rfl (fun Kz hKz => ?_) (fun Kz hKz => ?_)
          ·
           skip
           go_simp
           obtain ⟨Wh, hWh⟩ : ∃ X, Wg.alloc (.cells #[.int .i64 x] 3) = X := ⟨_, rfl⟩
           obtain ⟨g3, hg3⟩ : ∃ g3, Wg.heap.size = g3 := ⟨_, rfl⟩
           have hbh : Below Wg.heap.size Wg Wh := by rw [← hWh]; exact (Below.refl _ _).alloc (Nat.le_refl _) _
           have HI3 : Hid (SlG intE Wh (some ⟨g3, 0, none⟩) 1 [x]) := SlG.row (rest := []) (by rw [← hWh, ← hg3]; exact Row.new' _ [.int .i64 x] _ rfl) rfl
           try rw [hWh]
           try rw [hg3]
           have HKh : Hid (Ch (fun k => (Value.slice adR pre.length cpR).ownBlock = some k ∨ (Value.slice adB pre.length cpB).ownBlock = some k) We Wh) := HKg.out.trans (Ch.ofB hbh)
           refine hKz _ _ (fun _ => hSG _ HKh.out) ?_
           clear hKz Kz hg3 hWh
           refine AnyJ.two (i := 4) (j := 8) (by kernel_rfl) rfl rfl (fun Kz hKz => ?_) (fun Kz hKz => ?_)
           ·
            skip
            refine step_append_G inI rfl (.tmp 100) (.tmp 102) 44 rfl Tryz.underlying44 base (l := xs) (v := .slice adR pre.length cpR) (by simp [Act.eval, Act.put]) (HXg.out.step hbh) (xa := some ⟨g3, 0, none⟩) (m := 1) (c := 1) (ys := [x]) (by simp [Act.eval, Act.put]) HI3.out (by rw [hxl]; omega) (by rw [hxl]; omega) (by have := HKh.out.size; have := HCe.out.size; omega) ?_
            intro vR2 Wi hoR hgR hoR2 _
            obtain ⟨adR2, cpR2, rfl, hoR, _⟩ := hoR.shape (n := pre.length + 1) (by rw [List.length_append, hxl]; rfl)
            have hki : Ch (fun k => (Value.slice adR pre.length cpR).ownBlock = some k) Wh Wi := Ch.of_grown hgR (fun k e => e)
            have HKi : Hid (Ch (fun k => (Value.slice adR pre.length cpR).ownBlock = some k ∨ (Value.slice adB pre.length cpB).ownBlock = some k) We Wi) := HKh.out.trans (hki.mono (fun k _ h => .inl h))
            have HR2i := Lib.hid hoR
            refine hKz _ _ (fun _ => hSG _ HKi.out) ?_
            clear hKz Kz hoR hgR hoR2
            have hS := hSG _ HKi.out
            refine AnyJ.takeD (i := 10) (d := some 109) (v := ?_) rfl (by kernel_rfl) (by kernel_rfl) (by kernel_rfl) (by kernel_rfl) (by kernel_rfl) (fun _ _ _ h => (by cases h.1)) (Or.inl ⟨by kernel_rfl, ?_⟩) hS ?_
            rotate_left
            ·
             intro w' hS
             obtain ⟨f0, f1, f2, f3, f4, f5, f6⟩ := hS
             go_simp
             try with_reducible rfl
            refine AnyJ.one (i := 8) (by kernel_rfl) rfl (fun Kz hKz => ?_)
            go_simp
            obtain ⟨Wj, hWj⟩ : ∃ X, Wi.alloc (.cells #[.int .i64 r.kd, .int .i64 r.ni, .slice r.sa r.sn r.sc, .slice r.ra r.rn r.rc, .slice r.ba r.bn r.bc] 47) = X := ⟨_, rfl⟩
            obtain ⟨g8, hg8⟩ : ∃ g8, Wi.heap.size = g8 := ⟨_, rfl⟩
            have hbj : Below Wi.heap.size Wi Wj := by rw [← hWj]; exact (Below.refl _ _).alloc (Nat.le_refl _) _
            have hg8l : We.heap.size ≤ g8 := by have := HKi.out.size; omega
            have hg8u : g8 < Wj.heap.size := by rw [← hWj, ← hg8]; simp
            have HI8 : Hid (SlG rfE Wj (some ⟨g8, 0, none⟩) 1 [r]) := SlG.row (rest := []) (by rw [← hWj, ← hg8]; exact Row.new' _ r.cs _ rfl) rfl
            try rw [hWj]
            try rw [hg8]
            have HKj : Hid (Ch (fun k => (Value.slice adR pre.length cpR).ownBlock = some k ∨ (Value.slice adB pre.length cpB).ownBlock = some k) We Wj) := HKi.out.trans (Ch.ofB hbj)
            refine hKz _ _ (fun _ => hSG _ HKj.out) ?_
            clear hKz Kz hg8 hWj
            refine AnyJ.one (i := 9) (by kernel_rfl) rfl (fun Kz hKz => ?_)
            refine step_append_G rfI rfl (.tmp 105) (.tmp 107) 45 rfl Tryz.underlying45 base (l := bs) (v := .slice adB pre.length cpB) (by simp [Act.eval, Act.put]) (((HYg.out.step hbh).ch hki (fun g hg e => hap g e hg)).step hbj) (xa := some ⟨g8, 0, none⟩) (m := 1) (c := 1) (ys := [r]) (by simp [Act.eval, Act.put]) HI8.out (by rw [hbl]; omega) (by rw [hbl]; omega) (by have := HKj.out.size; have := HCe.out.size; omega) ?_
            intro vB2 Wk hoB hgB hoB2 _
            obtain ⟨adB2, cpB2, rfl, hoB, _⟩ := hoB.shape (n := pre.length + 1) (by rw [List.length_append, hbl]; rfl)
            have hkk : Ch (fun k => (Value.slice adB pre.length cpB).ownBlock = some k) Wj Wk := Ch.of_grown hgB (fun k e => e)
            have HKk : Hid (Ch (fun k => (Value.slice adR pre.length cpR).ownBlock = some k ∨ (Value.slice adB pre.length cpB).ownBlock = some k) We Wk) := HKj.out.trans (hkk.mono (fun k _ h => .inr h))
            have HXk : Hid (OwnG intE 3 Wk base (.slice adR2 (pre.length + 1) cpR2) (xs ++ [x])) := OwnG.ch (HR2i.out.step hbj) hkk (fun g hg e => OwnG.apart (HR2i.out.step hbj) (((HYg.out.step hbh).ch hki (fun g hg e => hap g e hg)).step hbj) (by decide) hg e)
            have HYk := Lib.hid hoB
            refine hKz _ _ (fun _ => hSG _ HKk.out) ?_
            clear hKz Kz hoB hgB hoB2
            have hTk := HFe.out.t.ch HKk.out (fun e => by have := hown _ e; omega)
            have hzk := HFe.out.z.ch hO HKk.out (fun k e => by have := hown _ e; omega)
            have t0 : Wk.cell? ⟨Bi + 1 + 1, 3, none⟩ = _ := Row.cell (b := Bi + 1 + 1) hTk 3 rfl
            have t1 : Wk.frozen? ⟨Bi + 1 + 1, 3, none⟩ = false := Row.frozen (b := Bi + 1 + 1) hTk 3
            have t2 : Bi + 1 + 1 < Wk.heap.size := hTk.lt
            obtain ⟨Wm, hWm⟩ : ∃ X, Wk.setCell ⟨Bi + 1 + 1, 3, none⟩ (.slice adR2 (pre.length + 1) cpR2) = X := ⟨_, rfl⟩
            have hTm : Row Wm (Bi + 1 + 1) [.int .i64 3, .int .i64 0, .slice (some ⟨Bi + 1, 0, none⟩) 1 1, .slice adR2 (pre.length + 1) cpR2, .slice adB pre.length cpB] := by rw [← hWm]; exact Row.setc (b := Bi + 1 + 1) hTk 3 _
            have hcm : Ch (fun k => k = Bi + 2) Wk Wm := by rw [← hWm]; exact Ch.setCell (o := fun k => k = Bi + 2) (Ch.refl _ Wk) (p := ⟨Bi + 1 + 1, 3, none⟩) rfl _
            refine AnyJ.one (i := 11) (by kernel_rfl) rfl (fun Kz hKz => ?_)
            go_simp
            try rw [hWm]
            refine hKz _ _ (fun h => by simp at h) ?_
            clear hKz Kz t0 t1 t2 hWm
            refine AnyJ.one (i := 12) (by kernel_rfl) rfl (fun Kz hKz => ?_)
            go_simp
            refine hKz _ _ (fun h => by simp at h) ?_
            clear hKz Kz
            have t0 := hTm.cell 4 rfl
            have t1 := hTm.frozen 4
            have t2 := hTm.lt
            obtain ⟨Wn, hWn⟩ : ∃ X, Wm.setCell ⟨Bi + 1 + 1, 4, none⟩ (.slice adB2 (pre.length + 1) cpB2) = X := ⟨_, rfl⟩
            have hTn : Row Wn (Bi + 2) [.int .i64 3, .int .i64 0, .slice (some ⟨Bi + 1, 0, none⟩) 1 1, .slice adR2 (pre.length + 1) cpR2, .slice adB2 (pre.length + 1) cpB2] := by rw [← hWn]; exact hTm.setc 4 _
            have hcn : Ch (fun k => k = Bi + 2) Wk Wn := by rw [← hWn]; exact hcm.setCell (p := ⟨Bi + 1 + 1, 4, none⟩) rfl _
            refine AnyJ.one (i := 13) (by kernel_rfl) rfl (fun Kz hKz => ?_)
            go_simp
            try rw [hWn]
            refine hKz _ _ (fun h => by simp at h) ?_
            clear hKz Kz t0 t1 t2 hWn
            refine AnyJ.done (by kernel_rfl) ⟨rfl, ?_⟩ _
            have hcW : Ch (oPl B0 sb (Bi + 3) (Bi + 4) W) W Wn := ((HCe.out.mono (fun k _ h => hoe k h)).trans (HKk.out.mono (fun k _ h => (hown k h).2.2))).trans (hcn.mono (fun k _ h => by subst h; exact oPl_row HF.out.t (by omega) (by omega) (by omega)))
            have hcw : Ch (fun x => x = sb) w Wn := ((HCW.out.trans' HCe.out (fun k h => by omega)).trans' HKk.out (fun k h => by have := hown k h; omega)).trans' hcn (fun k h => by omega)
            have hrn : Row Wn sb [.slice ha hm hc, .int .i64 lm] := (HRe.out.ch HKk.out (fun e => by have := hown _ e; omega)).ch hcn (by omega)
            have hzn := hzk.ch hO hcn (fun k e => .inr (.inl e))
            have hsn : base ≤ Wn.heap.size := by have := hcW.size; omega
            have hXn := HXk.out.ch hcn (fun g hg e => by have := (HXk.out.lt hg).1; omega)
            have hYn := HYk.out.ch hcn (fun g hg e => by have := (HYk.out.lt hg).1; omega)
            obtain ⟨hk1, hk2⟩ := oPl_out HRW.out HF.out.z.h1.lt HF.out.z.h2.lt (by omega) (by omega) (by omega) hcW
            refine ⟨hk1, hk2, lm, .slice adR2 (pre.length + 1) cpR2, .slice adB2 (pre.length + 1) cpB2, hrn, by omega, by omega, ⟨hzn, ?_, ?_, ?_⟩, hcw, hsn, ?_⟩
            ·
             exact hTn
            ·
             exact ⟨xs ++ [x], by simp [hxl], hXn⟩
            ·
             exact ⟨bs ++ [r], by simp [hbl], hYn⟩
            ·
             intro rr res2 left2 h
             have := HLK.out (x :: rr) res2 left2 (.inr ⟨by omega, none, lm, by rw [← hres]; exact HPR.out, .inr ⟨rfl, by omega, h⟩⟩)
             simpa using this
           ·
            skip
            go_simp
            obtain ⟨Wi, hWi⟩ : ∃ X, Wh.alloc (.cells #[.int .i64 r.kd, .int .i64 r.ni, .slice r.sa r.sn r.sc, .slice r.ra r.rn r.rc, .slice r.ba r.bn r.bc] 47) = X := ⟨_, rfl⟩
            obtain ⟨g8, hg8⟩ : ∃ g8, Wh.heap.size = g8 := ⟨_, rfl⟩
            have hbi : Below Wh.heap.size Wh Wi := by rw [← hWi]; exact (Below.refl _ _).alloc (Nat.le_refl _) _
            have hg8l : We.heap.size ≤ g8 := by have := HKh.out.size; omega
            have hg8u : g8 < Wi.heap.size := by rw [← hWi, ← hg8]; simp
            have HI8 : Hid (SlG rfE Wi (some ⟨g8, 0, none⟩) 1 [r]) := SlG.row (rest := []) (by rw [← hWi, ← hg8]; exact Row.new' _ r.cs _ rfl) rfl
            try rw [hWi]
            try rw [hg8]
            have HKi : Hid (Ch (fun k => (Value.slice adR pre.length cpR).ownBlock = some k ∨ (Value.slice adB pre.length cpB).ownBlock = some k) We Wi) := HKh.out.trans (Ch.ofB hbi)
            refine hKz _ _ (fun _ => hSG _ HKi.out) ?_
            clear hKz Kz hg8 hWi
            refine AnyJ.one (i := 4) (by kernel_rfl) rfl (fun Kz hKz => ?_)
            refine step_append_G inI rfl (.tmp 100) (.tmp 102) 44 rfl Tryz.underlying44 base (l := xs) (v := .slice adR pre.length cpR) (by simp [Act.eval, Act.put]) ((HXg.out.step hbh).step hbi) (xa := some ⟨g3, 0, none⟩) (m := 1) (c := 1) (ys := [x]) (by simp [Act.eval, Act.put]) (HI3.out.step hbi) (by rw [hxl]; omega) (by rw [hxl]; omega) (by have := HKi.out.size; have := HCe.out.size; omega) ?_
            intro vR2 Wj hoR hgR hoR2 _
            obtain ⟨adR2, cpR2, rfl, hoR, _⟩ := hoR.shape (n := pre.length + 1) (by rw [List.length_append, hxl]; rfl)
            have hkj : Ch (fun k => (Value.slice adR pre.length cpR).ownBlock = some k) Wi Wj := Ch.of_grown hgR (fun k e => e)
            have HKj : Hid (Ch (fun k => (Value.slice adR pre.length cpR).ownBlock = some k ∨ (Value.slice adB pre.length cpB).ownBlock = some k) We Wj) := HKi.out.trans (hkj.mono (fun k _ h => .inl h))
            have HR2j := Lib.hid hoR
            refine hKz _ _ (fun _ => hSG _ HKj.out) ?_
            clear hKz Kz hoR hgR hoR2
            have hS := hSG _ HKj.out
            refine AnyJ.takeD (i := 10) (d := some 109) (v := ?_) rfl (by kernel_rfl) (by kernel_rfl) (by kernel_rfl) (by kernel_rfl) (by kernel_rfl) (fun _ _ _ h => (by cases h.1)) (Or.inl ⟨by kernel_rfl, ?_⟩) hS ?_
            rotate_left
            ·
             intro w' hS
             obtain ⟨f0, f1, f2, f3, f4, f5, f6⟩ := hS
             go_simp
             try with_reducible rfl
            refine AnyJ.one (i := 9) (by kernel_rfl) rfl (fun Kz hKz => ?_)
            replace HI8 := Lib.hid (HI8.out.of_same (fun _ b o e => hkj.2.2.2.2 b (by cases e; omega) (fun e2 => by cases e; have := hown _ (.inl e2); omega)))
            refine step_append_G rfI rfl (.tmp 105) (.tmp 107) 45 rfl Tryz.underlying45 base (l := bs) (v := .slice adB pre.length cpB) (by simp [Act.eval, Act.put]) (((HYg.out.step hbh).step hbi).ch hkj (fun g hg e => hap g e hg)) (xa := some ⟨g8, 0, none⟩) (m := 1) (c := 1) (ys := [r]) (by simp [Act.eval, Act.put]) HI8.out (by rw [hbl]; omega) (by rw [hbl]; omega) (by have := HKj.out.size; have := HCe.out.size; omega) ?_
            intro vB2 Wk hoB hgB hoB2 _
            obtain ⟨adB2, cpB2, rfl, hoB, _⟩ := hoB.shape (n := pre.length + 1) (by rw [List.length_append, hbl]; rfl)
            have hkk : Ch (fun k => (Value.slice adB pre.length cpB).ownBlock = some k) Wj Wk := Ch.of_grown hgB (fun k e => e)
            have HKk : Hid (Ch (fun k => (Value.slice adR pre.length cpR).ownBlock = some k ∨ (Value.slice adB pre.length cpB).ownBlock = some k) We Wk) := HKj.out.trans (hkk.mono (fun k _ h => .inr h))
            have HXk : Hid (OwnG intE 3 Wk base (.slice adR2 (pre.length + 1) cpR2) (xs ++ [x])) := OwnG.ch HR2j.out hkk (fun g hg e => OwnG.apart HR2j.out (((HYg.out.step hbh).step hbi).ch hkj (fun g hg e => hap g e hg)) (by decide) hg e)
            have HYk := Lib.hid hoB
            refine hKz _ _ (fun _ => hSG _ HKk.out) ?_
            clear hKz Kz hoB hgB hoB2
            have hTk := HFe.out.t.ch HKk.out (fun e => by have := hown _ e; omega)
            have hzk := HFe.out.z.ch hO HKk.out (fun k e => by have := hown _ e; omega)
            have t0 : Wk.cell? ⟨Bi + 1 + 1, 3, none⟩ = _ := Row.cell (b := Bi + 1 + 1) hTk 3 rfl
            have t1 : Wk.frozen? ⟨Bi + 1 + 1, 3, none⟩ = false := Row.frozen (b := Bi + 1 + 1) hTk 3
            have t2 : Bi + 1 + 1 < Wk.heap.size := hTk.lt
            obtain ⟨Wm, hWm⟩ : ∃ X, Wk.setCell ⟨Bi + 1 + 1, 3, none⟩ (.slice adR2 (pre.length + 1) cpR2) = X := ⟨_, rfl⟩
            have hTm : Row Wm (Bi + 1 + 1) [.int .i64 3, .int .i64 0, .slice (some ⟨Bi + 1, 0, none⟩) 1 1, .slice adR2 (pre.length + 1) cpR2, .slice adB pre.length cpB] := by rw [← hWm]; exact Row.setc (b := Bi + 1 + 1) hTk 3 _
            have hcm : Ch (fun k => k = Bi + 2) Wk Wm := by rw [← hWm]; exact Ch.setCell (o := fun k => k = Bi + 2) (Ch.refl _ Wk) (p := ⟨Bi + 1 + 1, 3, none⟩) rfl _
            refine AnyJ.one (i := 11) (by kernel_rfl) rfl (fun Kz hKz => ?_)
            go_simp
            try rw [hWm]
            refine hKz _ _ (fun h => by simp at h) ?_
            clear hKz Kz t0 t1 t2 hWm
            refine AnyJ.one (i := 12) (by kernel_rfl) rfl (fun Kz hKz => ?_)
            go_simp
            refine hKz _ _ (fun h => by simp at h) ?_
            clear hKz Kz
            have t0 := hTm.cell 4 rfl
            have t1 := hTm.frozen 4
            have t2 := hTm.lt
            obtain ⟨Wn, hWn⟩ : ∃ X, Wm.setCell ⟨Bi + 1 + 1, 4, none⟩ (.slice adB2 (pre.length + 1) cpB2) = X := ⟨_, rfl⟩
            have hTn : Row Wn (Bi + 2) [.int .i64 3, .int .i64 0, .slice (some ⟨Bi + 1, 0, none⟩) 1 1, .slice adR2 (pre.length + 1) cpR2, .slice adB2 (pre.length + 1) cpB2] := by rw [← hWn]; exact hTm.setc 4 _
            have hcn : Ch (fun k => k = Bi + 2) Wk Wn := by rw [← hWn]; exact hcm.setCell (p := ⟨Bi + 1 + 1, 4, none⟩) rfl _
            refine AnyJ.one (i := 13) (by kernel_rfl) rfl (fun Kz hKz => ?_)
            go_simp
            try rw [hWn]
            refine hKz _ _ (fun h => by simp at h) ?_
            clear hKz Kz t0 t1 t2 hWn
            refine AnyJ.done (by kernel_rfl) ⟨rfl, ?_⟩ _
            have hcW : Ch (oPl B0 sb (Bi + 3) (Bi + 4) W) W Wn := ((HCe.out.mono (fun k _ h => hoe k h)).trans (HKk.out.mono (fun k _ h => (hown k h).2.2))).trans (hcn.mono (fun k _ h => by subst h; exact oPl_row HF.out.t (by omega) (by omega) (by omega)))
            have hcw : Ch (fun x => x = sb) w Wn := ((HCW.out.trans' HCe.out (fun k h => by omega)).trans' HKk.out (fun k h => by have := hown k h; omega)).trans' hcn (fun k h => by omega)
            have hrn : Row Wn sb [.slice ha hm hc, .int .i64 lm] := (HRe.out.ch HKk.out (fun e => by have := hown _ e; omega)).ch hcn (by omega)
            have hzn := hzk.ch hO hcn (fun k e => .inr (.inl e))
            have hsn : base ≤ Wn.heap.size := by have := hcW.size; omega
            have hXn := HXk.out.ch hcn (fun g hg e => by have := (HXk.out.lt hg).1; omega)
            have hYn := HYk.out.ch hcn (fun g hg e => by have := (HYk.out.lt hg).1; omega)
            obtain ⟨hk1, hk2⟩ := oPl_out HRW.out HF.out.z.h1.lt HF.out.z.h2.lt (by omega) (by omega) (by omega) hcW
            refine ⟨hk1, hk2, lm, .slice adR2 (pre.length + 1) cpR2, .slice adB2 (pre.length + 1) cpB2, hrn, by omega, by omega, ⟨hzn, ?_, ?_, ?_⟩, hcw, hsn, ?_⟩
            ·
             exact hTn
            ·
             exact ⟨xs ++ [x], by simp [hxl], hXn⟩
            ·
             exact ⟨bs ++ [r], by simp [hbl], hYn⟩
            ·
             intro rr res2 left2 h
             have := HLK.out (x :: rr) res2 left2 (.inr ⟨by omega, none, lm, by rw [← hres]; exact HPR.out, .inr ⟨rfl, by omega, h⟩⟩)
             simpa using this
          ·
           skip
           go_simp
           obtain ⟨Wh, hWh⟩ : ∃ X, Wg.alloc (.cells #[.int .i64 r.kd, .int .i64 r.ni, .slice r.sa r.sn r.sc, .slice r.ra r.rn r.rc, .slice r.ba r.bn r.bc] 47) = X := ⟨_, rfl⟩
           obtain ⟨g8, hg8⟩ : ∃ g8, Wg.heap.size = g8 := ⟨_, rfl⟩
           have hbh : Below Wg.heap.size Wg Wh := by rw [← hWh]; exact (Below.refl _ _).alloc (Nat.le_refl _) _
           have hg8l : We.heap.size ≤ g8 := by have := HKg.out.size; omega
           have hg8u : g8 < Wh.heap.size := by rw [← hWh, ← hg8]; simp
           have HI8 : Hid (SlG rfE Wh (some ⟨g8, 0, none⟩) 1 [r]) := SlG.row (rest := []) (by rw [← hWh, ← hg8]; exact Row.new' _ r.cs _ rfl) rfl
           try rw [hWh]
           try rw [hg8]
           have HKh : Hid (Ch (fun k => (Value.slice adR pre.length cpR).ownBlock = some k ∨ (Value.slice adB pre.length cpB).ownBlock = some k) We Wh) := HKg.out.trans (Ch.ofB hbh)
           refine hKz _ _ (fun _ => hSG _ HKh.out) ?_
           clear hKz Kz hg8 hWh
           refine AnyJ.one (i := 3) (by kernel_rfl) rfl (fun Kz hKz => ?_)
           go_simp
           obtain ⟨Wi, hWi⟩ : ∃ X, Wh.alloc (.cells #[.int .i64 x] 3) = X := ⟨_, rfl⟩
           obtain ⟨g3, hg3⟩ : ∃ g3, Wh.heap.size = g3 := ⟨_, rfl⟩
           have hbi : Below Wh.heap.size Wh Wi := by rw [← hWi]; exact (Below.refl _ _).alloc (Nat.le_refl _) _
           have HI3 : Hid (SlG intE Wi (some ⟨g3, 0, none⟩) 1 [x]) := SlG.row (rest := []) (by rw [← hWi, ← hg3]; exact Row.new' _ [.int .i64 x] _ rfl) rfl
           try rw [hWi]
           try rw [hg3]
           have HKi : Hid (Ch (fun k => (Value.slice adR pre.length cpR).ownBlock = some k ∨ (Value.slice adB pre.length cpB).ownBlock = some k) We Wi) := HKh.out.trans (Ch.ofB hbi)
           refine hKz _ _ (fun _ => hSG _ HKi.out) ?_
           clear hKz Kz hg3 hWi
           refine AnyJ.one (i := 4) (by kernel_rfl) rfl (fun Kz hKz => ?_)
           refine step_append_G inI rfl (.tmp 100) (.tmp 102) 44 rfl Tryz.underlying44 base (l := xs) (v := .slice adR pre.length cpR) (by simp [Act.eval, Act.put]) ((HXg.out.step hbh).step hbi) (xa := some ⟨g3, 0, none⟩) (m := 1) (c := 1) (ys := [x]) (by simp [Act.eval, Act.put]) HI3.out (by rw [hxl]; omega) (by rw [hxl]; omega) (by have := HKi.out.size; have := HCe.out.size; omega) ?_
           intro vR2 Wj hoR hgR hoR2 _
           obtain ⟨adR2, cpR2, rfl, hoR, _⟩ := hoR.shape (n := pre.length + 1) (by rw [List.length_append, hxl]; rfl)
           have hkj : Ch (fun k => (Value.slice adR pre.length cpR).ownBlock = some k) Wi Wj := Ch.of_grown hgR (fun k e => e)
           have HKj : Hid (Ch (fun k => (Value.slice adR pre.length cpR).ownBlock = some k ∨ (Value.slice adB pre.length cpB).ownBlock = some k) We Wj) := HKi.out.trans (hkj.mono (fun k _ h => .inl h))
           have HR2j := Lib.hid hoR
           refine hKz _ _ (fun _ => hSG _ HKj.out) ?_
           clear hKz Kz hoR hgR hoR2
           have hbis := hbi.size
           have hS := hSG _ HKj.out
           refine AnyJ.takeD (i := 10) (d := some 109) (v := ?_) rfl (by kernel_rfl) (by kernel_rfl) (by kernel_rfl) (by kernel_rfl) (by kernel_rfl) (fun _ _ _ h => (by cases h.1)) (Or.inl ⟨by kernel_rfl, ?_⟩) hS ?_
           rotate_left
           ·
            intro w' hS
            obtain ⟨f0, f1, f2, f3, f4, f5, f6⟩ := hS
            go_simp
            try with_reducible rfl
           refine AnyJ.one (i := 9) (by kernel_rfl) rfl (fun Kz hKz => ?_)
           replace HI8 := Lib.hid ((HI8.out.step hbi).of_same (fun _ b o e => hkj.2.2.2.2 b (by cases e; omega) (fun e2 => by cases e; have := hown _ (.inl e2); omega)))
           refine step_append_G rfI rfl (.tmp 105) (.tmp 107) 45 rfl Tryz.underlying45 base (l := bs) (v := .slice adB pre.length cpB) (by simp [Act.eval, Act.put]) (((HYg.out.step hbh).step hbi).ch hkj (fun g hg e => hap g e hg)) (xa := some ⟨g8, 0, none⟩) (m := 1) (c := 1) (ys := [r]) (by simp [Act.eval, Act.put]) HI8.out (by rw [hbl]; omega) (by rw [hbl]; omega) (by have := HKj.out.size; have := HCe.out.size; omega) ?_
           intro vB2 Wk hoB hgB hoB2 _
           obtain ⟨adB2, cpB2, rfl, hoB, _⟩ := hoB.shape (n := pre.length + 1) (by rw [List.length_append, hbl]; rfl)
           have hkk : Ch (fun k => (Value.slice adB pre.length cpB).ownBlock = some k) Wj Wk := Ch.of_grown hgB (fun k e => e)
           have HKk : Hid (Ch (fun k => (Value.slice adR pre.length cpR).ownBlock = some k ∨ (Value.slice adB pre.length cpB).ownBlock = some k) We Wk) := HKj.out.trans (hkk.mono (fun k _ h => .inr h))
           have HXk : Hid (OwnG intE 3 Wk base (.slice adR2 (pre.length + 1) cpR2) (xs ++ [x])) := OwnG.ch HR2j.out hkk (fun g hg e => OwnG.apart HR2j.out (((HYg.out.step hbh).step hbi).ch hkj (fun g hg e => hap g e hg)) (by decide) hg e)
           have HYk := Lib.hid hoB
           refine hKz _ _ (fun _ => hSG _ HKk.out) ?_
           clear hKz Kz hoB hgB hoB2
           have hTk := HFe.out.t.ch HKk.out (fun e => by have := hown _ e; omega)
           have hzk := HFe.out.z.ch hO HKk.out (fun k e => by have := hown _ e; omega)
           have t0 : Wk.cell? ⟨Bi + 1 + 1, 3, none⟩ = _ := Row.cell (b := Bi + 1 + 1) hTk 3 rfl
           have t1 : Wk.frozen? ⟨Bi + 1 + 1, 3, none⟩ = false := Row.frozen (b := Bi + 1 + 1) hTk 3
           have t2 : Bi + 1 + 1 < Wk.heap.size := hTk.lt
           obtain ⟨Wm, hWm⟩ : ∃ X, Wk.setCell ⟨Bi + 1 + 1, 3, none⟩ (.slice adR2 (pre.length + 1) cpR2) = X := ⟨_, rfl⟩
           have hTm : Row Wm (Bi + 1 + 1) [.int .i64 3, .int .i64 0, .slice (some ⟨Bi + 1, 0, none⟩) 1 1, .slice adR2 (pre.length + 1) cpR2, .slice adB pre.length cpB] := by rw [← hWm]; exact Row.setc (b := Bi + 1 + 1) hTk 3 _
           have hcm : Ch (fun k => k = Bi + 2) Wk Wm := by rw [← hWm]; exact Ch.setCell (o := fun k => k = Bi + 2) (Ch.refl _ Wk) (p := ⟨Bi + 1 + 1, 3, none⟩) rfl _
           refine AnyJ.one (i := 11) (by kernel_rfl) rfl (fun Kz hKz => ?_)
           go_simp
           try rw [hWm]
           refine hKz _ _ (fun h => by simp at h) ?_
           clear hKz Kz t0 t1 t2 hWm
           refine AnyJ.one (i := 12) (by kernel_rfl) rfl (fun Kz hKz => ?_)
           go_simp
           refine hKz _ _ (fun h => by simp at h) ?_
           clear hKz Kz
           have t0 := hTm.cell 4 rfl
           have t1 := hTm.frozen 4
           have t2 := hTm.lt
           obtain ⟨Wn, hWn⟩ : ∃ X, Wm.setCell ⟨Bi + 1 + 1, 4, none⟩ (.slice adB2 (pre.length + 1) cpB2) = X := ⟨_, rfl⟩
           have hTn : Row Wn (Bi + 2) [.int .i64 3, .int .i64 0, .slice (some ⟨Bi + 1, 0, none⟩) 1 1, .slice adR2 (pre.length + 1) cpR2, .slice adB2 (pre.length + 1) cpB2] := by rw [← hWn]; exact hTm.setc 4 _
           have hcn : Ch (fun k => k = Bi + 2) Wk Wn := by rw [← hWn]; exact hcm.setCell (p := ⟨Bi + 1 + 1, 4, none⟩) rfl _
           refine AnyJ.one (i := 13) (by kernel_rfl) rfl (fun Kz hKz => ?_)
           go_simp
           try rw [hWn]
           refine hKz _ _ (fun h => by simp at h) ?_
           clear hKz Kz t0 t1 t2 hWn
           refine AnyJ.done (by kernel_rfl) ⟨rfl, ?_⟩ _
           have hcW : Ch (oPl B0 sb (Bi + 3) (Bi + 4) W) W Wn := ((HCe.out.mono (fun k _ h => hoe k h)).trans (HKk.out.mono (fun k _ h => (hown k h).2.2))).trans (hcn.mono (fun k _ h => by subst h; exact oPl_row HF.out.t (by omega) (by omega) (by omega)))
           have hcw : Ch (fun x => x = sb) w Wn := ((HCW.out.trans' HCe.out (fun k h => by omega)).trans' HKk.out (fun k h => by have := hown k h; omega)).trans' hcn (fun k h => by omega)
           have hrn : Row Wn sb [.slice ha hm hc, .int .i64 lm] := (HRe.out.ch HKk.out (fun e => by have := hown _ e; omega)).ch hcn (by omega)
           have hzn := hzk.ch hO hcn (fun k e => .inr (.inl e))
           have hsn : base ≤ Wn.heap.size := by have := hcW.size; omega
           have hXn := HXk.out.ch hcn (fun g hg e => by have := (HXk.out.lt hg).1; omega)
           have hYn := HYk.out.ch hcn (fun g hg e => by have := (HYk.out.lt hg).1; omega)
           obtain ⟨hk1, hk2⟩ := oPl_out HRW.out HF.out.z.h1.lt HF.out.z.h2.lt (by omega) (by omega) (by omega) hcW
           refine ⟨hk1, hk2, lm, .slice adR2 (pre.length + 1) cpR2, .slice adB2 (pre.length + 1) cpB2, hrn, by omega, by omega, ⟨hzn, ?_, ?_, ?_⟩, hcw, hsn, ?_⟩
           ·
            exact hTn
           ·
            exact ⟨xs ++ [x], by simp [hxl], hXn⟩
           ·
            exact ⟨bs ++ [r], by simp [hbl], hYn⟩
           ·
            intro rr res2 left2 h
            have := HLK.out (x :: rr) res2 left2 (.inr ⟨by omega, none, lm, by rw [← hres]; exact HPR.out, .inr ⟨rfl, by omega, h⟩⟩)
            simpa using this
       refine AnyJ.beginI (fun w' : World => w'.cell? ⟨B0, 0, none⟩ = some (.pointer (some ⟨sb, 0, none⟩)) ∧ w'.cell? ⟨B0 + 1, 0, none⟩ = some (.slice (some ⟨gs, off1, none⟩) n cap) ∧ w'.cell? ⟨Bi, 0, none⟩ = some (.int .i64 (i : Int))) (fun _ => true) (by kernel_rfl) (by kernel_rfl) (by rw [hWa]; exact hSof _ HFa.out) (fun hS => ?_)
       rw [hWa] at hS ⊢
       clear hWa hba hW1
       refine AnyJ.takeD (i := 0) (d := some 79) (v := ?_) rfl (by kernel_rfl) (by kernel_rfl) (by kernel_rfl) (by kernel_rfl) (by kernel_rfl) (fun _ _ _ h => (by cases h.1)) (Or.inl ⟨by kernel_rfl, ?_⟩) hS ?_
       rotate_left
       ·
        intro w' hS
        obtain ⟨e0, e1, e2⟩ := hS
        go_simp
        try with_reducible rfl
       refine AnyJ.takeD (i := 1) (d := some 80) (v := ?_) rfl (by kernel_rfl) (by kernel_rfl) (by kernel_rfl) (by kernel_rfl) (by kernel_rfl) (fun _ _ _ h => (by cases h.1)) (Or.inl ⟨by kernel_rfl, ?_⟩) hS ?_
       rotate_left
       ·
        intro w' hS
        obtain ⟨e0, e1, e2⟩ := hS
        go_simp
        try with_reducible rfl
       refine AnyJ.takeD (i := 2) (d := some 81) (v := ?_) rfl (by kernel_rfl) (by kernel_rfl) (by kernel_rfl) (by kernel_rfl) (by kernel_rfl) (fun _ _ _ h => (by cases h.1)) (Or.inl ⟨by kernel_rfl, ?_⟩) hS ?_
       rotate_left
       ·
        intro w' hS
        obtain ⟨e0, e1, e2⟩ := hS
        go_simp
        try with_reducible rfl
       refine AnyJ.takeD (i := 3) (d := some 82) (v := ?_) rfl (by kernel_rfl) (by kernel_rfl) (by kernel_rfl) (by kernel_rfl) (by kernel_rfl) (fun _ _ _ h => (by cases h.1)) (Or.inl ⟨by kernel_rfl, ?_⟩) hS ?_
       rotate_left
       ·
        intro w' hS
        obtain ⟨e0, e1, e2⟩ := hS
        go_simp
        try with_reducible rfl
       refine AnyJ.two (i := 4) (j := 10) (by kernel_rfl) rfl rfl (fun Kz hKz => ?_) (fun Kz hKz => ?_)
       ·
        skip
        go_simp
        refine (placed_any (some ⟨gs, off1, none⟩) n cap l i x Wa (by omega) hc1 hil (HLS.out.ch HL.out (HCW.out.trans HCa.out) (Nat.le_refl _))).mono ?_
        rintro e Wb ⟨ad, cp, rfl, hcp, hpl', hfr, hbb⟩
        have HFb := Lib.hid (HFa.out.ch hO (Ch.ofB hbb))
        have HRb := Lib.hid (HRa.out.step hbb)
        have HCb : Hid (Ch (fun x => x = sb) W Wb) := HCa.out.trans (Ch.ofB hbb)
        have HPL := Lib.hid hpl'
        have hfr' : ∀ g o, ad = some ⟨g, o, none⟩ → sb < g := fun g o e => by have := hfr g o e; have := HCa.out.size; omega
        refine hKz _ _ (fun _ => hSof _ HFb.out) ?_
        clear hKz Kz hpl' hfr
        refine AnyJ.two (i := 5) (j := 10) (by kernel_rfl) rfl rfl (fun Kz hKz => ?_) (fun Kz hKz => ?_)
        ·
         skip
         go_simp
         refine (IH.out (lk - 1) ad n cp (placedL l i x) Wb (by omega) (by omega) hcp (HPL.out.plA (by rw [HPL.out.1]; omega)) ((placed_ext HSI.out HIN.out hx1).good HG.out) (Nat.lt_of_lt_of_le (out_falls HSI.out HIN.out x) (Nat.le_of_lt_succ HD.out)) HRb.out (HHS.out.ch HH.out (HCW.out.trans HCb.out) (Nat.le_refl _)) (HHS.out.mono (HCW.out.trans HCb.out).size) HPL.out (HPL.out.stab (fun _ b o e => by have := hfr' b o e; omega))).mono ?_
         rintro e Wc ⟨va, vn, vc, r, res, lm, rfl, hPR, hRs, hm1', hm2', hcc, hout, hcr⟩
         have HFc := Lib.hid (HFb.out.ch hO hcc)
         have HRc := Lib.hid hRs
         have HCc : Hid (Ch (fun x => x = sb) W Wc) := HCb.out.trans hcc
         have HPR := Lib.hid hPR
         have HOUT := Lib.hid hout
         have HLc : Hid (∀ out, res = some out → SlG stE Wc va n out) := fun out e => (hout out e).2.2.1
         refine hKz _ _ (fun _ => hSof _ HFc.out) ?_
         obtain ⟨bo, hbo⟩ : ∃ bo, res.isSome = bo := ⟨_, rfl⟩
         rw [hbo]
         have HBO := Lib.hid hbo
         clear hKz Kz hPR hRs hout hcr hbo
         have hS := hSof _ HFc.out
         refine AnyJ.takeD (i := 6) (d := some 78) (v := ?_) rfl (by kernel_rfl) (by kernel_rfl) (by kernel_rfl) (by kernel_rfl) (by kernel_rfl) (fun _ _ _ h => (by cases h.1)) (Or.inl ⟨by kernel_rfl, ?_⟩) hS ?_
         rotate_left
         ·
          intro w' hS
          obtain ⟨e0, e1, e2⟩ := hS
          go_simp
          try with_reducible rfl
         refine AnyJ.takeD (i := 7) (d := some 85) (v := ?_) rfl (by kernel_rfl) (by kernel_rfl) (by kernel_rfl) (by kernel_rfl) (by kernel_rfl) (fun _ _ _ h => (by cases h.1)) (Or.inl ⟨by kernel_rfl, ?_⟩) hS ?_
         rotate_left
         ·
          intro w' hS
          obtain ⟨e0, e1, e2⟩ := hS
          go_simp
          try with_reducible rfl
         refine AnyJ.takeD (i := 8) (d := some 86) (v := ?_) rfl (by kernel_rfl) (by kernel_rfl) (by kernel_rfl) (by kernel_rfl) (by kernel_rfl) (fun _ _ _ h => (by cases h.1)) (Or.inl ⟨by kernel_rfl, ?_⟩) hS ?_
         rotate_left
         ·
          intro w' hS
          obtain ⟨e0, e1, e2⟩ := hS
          go_simp
          try with_reducible rfl
         refine AnyJ.takeD (i := 9) (d := some 87) (v := ?_) rfl (by kernel_rfl) (by kernel_rfl) (by kernel_rfl) (by kernel_rfl) (by kernel_rfl) (fun _ _ _ h => (by cases h.1)) (Or.inl ⟨by kernel_rfl, ?_⟩) hS ?_
         rotate_left
         ·
          intro w' hS
          obtain ⟨e0, e1, e2⟩ := hS
          go_simp
          try with_reducible rfl
         refine AnyJ.one (i := 10) (by kernel_rfl) rfl (fun Kz hKz => ?_)
         go_simp
         obtain ⟨Wd, hWd⟩ : ∃ X, Wc.alloc (.cells #[.int .i64 0, .int .i64 0, .slice none 0 0, .slice none 0 0, .slice none 0 0] 47) = X := ⟨_, rfl⟩
         obtain ⟨Bt, hBt⟩ : ∃ Bt, Wc.heap.size = Bt := ⟨_, rfl⟩
         have hbd : Below Wc.heap.size Wc Wd := by rw [← hWd]; exact (Below.refl _ _).alloc (Nat.le_refl _) _
         have hbt : Row Wd Bt zref.cs := by rw [← hWd, ← hBt]; exact Row.new' _ _ _ rfl
         have hBtl : W.heap.size ≤ Bt := by have := HCc.out.size; omega
         rw [hWd, hBt]
         have HFd := Lib.hid (HFc.out.ch hO (Ch.ofB hbd))
         have HRd := Lib.hid (HRc.out.step hbd)
         have HCd : Hid (Ch (fun x => x = sb) W Wd) := HCc.out.trans (Ch.ofB hbd)
         have HBT := Lib.hid hbt
         refine hKz _ _ (fun _ => hSof _ HFd.out) ?_
         clear hKz Kz hbt hWd hBt
         have HLd : Hid (∀ out, res = some out → SlG stE Wd va n out) := fun out e => (HLc.out out e).step hbd
         refine AnyJ.one (i := 11) (by kernel_rfl) rfl (fun Kz hKz => ?_)
         go_simp
         refine hKz _ _ (fun _ => hSof _ HFd.out) ?_
         clear hKz Kz
         have z0 := HBT.out.cell 0 rfl
         have z1 := HBT.out.cell 1 rfl
         have z2 := HBT.out.cell 2 rfl
         have z3 := HBT.out.cell 3 rfl
         have z4 := HBT.out.cell 4 rfl
         have z5 := HBT.out.frozen 0
         have z6 := HBT.out.frozen 1
         have z7 := HBT.out.frozen 2
         have z8 := HBT.out.frozen 3
         have z9 := HBT.out.frozen 4
         have zl := HBT.out.lt
         obtain ⟨We, hWe⟩ : ∃ X, ((((Wd.setCell ⟨Bt, 0, none⟩ (.int .i64 r.kd)).setCell ⟨Bt, 1, none⟩ (.int .i64 r.ni)).setCell ⟨Bt, 2, none⟩ (.slice r.sa r.sn r.sc)).setCell ⟨Bt, 3, none⟩ (.slice r.ra r.rn r.rc)).setCell ⟨Bt, 4, none⟩ (.slice r.ba r.bn r.bc) = X := ⟨_, rfl⟩
         have hce : Ch (fun k => k = Bt) Wd We := by rw [← hWe]; exact (((((Ch.refl (fun k => k = Bt) Wd).setCell (p := ⟨Bt, 0, none⟩) rfl _).setCell (p := ⟨Bt, 1, none⟩) rfl _).setCell (p := ⟨Bt, 2, none⟩) rfl _).setCell (p := ⟨Bt, 3, none⟩) rfl _).setCell (p := ⟨Bt, 4, none⟩) rfl _
         have hbe : Row We Bt r.cs := by rw [← hWe]; exact ((((HBT.out.setc 0 _).setc 1 _).setc 2 _).setc 3 _).setc 4 _
         have HCe : Hid (Ch (fun k => k = sb ∨ k = Bt) W We) := (HCd.out.mono (fun k _ h => .inl h)).trans (hce.mono (fun k _ h => .inr h))
         have HFe := Lib.hid (HF.out.ch2 hO HCe.out (fun k h => by omega))
         have HRe := Lib.hid (HRd.out.ch hce (by omega))
         have HBE := Lib.hid hbe
         refine AnyJ.one (i := 12) (by kernel_rfl) rfl (fun Kz hKz => ?_)
         go_simp
         try rw [hWe]
         refine hKz _ _ (fun _ => hSof _ HFe.out) ?_
         clear hKz Kz hWe z0 z1 z2 z3 z4 z5 z6 z7 z8 z9 zl
         refine AnyJ.one (i := 13) (by kernel_rfl) rfl (fun Kz hKz => ?_)
         go_simp
         refine hKz _ _ (fun _ => hSof _ HFe.out) ?_
         clear hKz Kz
         refine AnyJ.done (by kernel_rfl) ⟨rfl, rfl, ?_⟩ _
         try simp only [Act.put, List.setIfInBounds_toArray, List.set_cons_zero, List.set_cons_succ]
         have hLd := HLd.out
         have hLE : ∀ out, res = some out → vn = n ∧ n ≤ vc ∧ SlG stE We va n out ∧ PlA va := fun out e => ⟨(HOUT.out out e).1, (HOUT.out out e).2.1, (hLd out e).of_same (fun h0 b o eb => hce.2.2.2.2 b (by obtain ⟨b', o', e', hb'⟩ := (hLd out e).block h0; rw [eb] at e'; cases e'; exact hb') ((hLd out e).ne_row HBT.out (by show 5 < 9; omega) h0 eb)), (HOUT.out out e).2.2.2⟩
         refine ⟨Bt, ad, cp, va, vn, vc, r, bo, res, lm, HCe.out, hBtl, HRe.out, HBE.out, HPR.out, HBO.out, hm1', hm2', hLE, ?_⟩
         simp only [List.setIfInBounds_toArray, List.set_cons_zero, List.set_cons_succ]
        ·
         skip
         go_simp
         obtain ⟨Wc, hWc⟩ : ∃ X, Wb.alloc (.cells #[.int .i64 0, .int .i64 0, .slice none 0 0, .slice none 0 0, .slice none 0 0] 47) = X := ⟨_, rfl⟩
         obtain ⟨Bt, hBt⟩ : ∃ Bt, Wb.heap.size = Bt := ⟨_, rfl⟩
         have hbc : Below Wb.heap.size Wb Wc := by rw [← hWc]; exact (Below.refl _ _).alloc (Nat.le_refl _) _
         have hbt : Row Wc Bt zref.cs := by rw [← hWc, ← hBt]; exact Row.new' _ _ _ rfl
         have hBtl : W.heap.size ≤ Bt := by have := HCb.out.size; omega
         rw [hWc, hBt]
         have HFc := Lib.hid (HFb.out.ch hO (Ch.ofB hbc))
         have HRc := Lib.hid (HRb.out.step hbc)
         have HCc : Hid (Ch (fun x => x = sb) W Wc) := HCb.out.trans (Ch.ofB hbc)
         have HBT := Lib.hid hbt
         refine hKz _ _ (fun _ => hSof _ HFc.out) ?_
         clear hKz Kz hbt hWc hBt
         replace HPL := Lib.hid (HPL.out.step hbc)
         refine AnyJ.one (i := 5) (by kernel_rfl) rfl (fun Kz hKz => ?_)
         go_simp
         refine (IH.out (lk - 1) ad n cp (placedL l i x) Wc (by omega) (by omega) hcp (HPL.out.plA (by rw [HPL.out.1]; omega)) ((placed_ext HSI.out HIN.out hx1).good HG.out) (Nat.lt_of_lt_of_le (out_falls HSI.out HIN.out x) (Nat.le_of_lt_succ HD.out)) HRc.out (HHS.out.ch HH.out (HCW.out.trans HCc.out) (Nat.le_refl _)) (HHS.out.mono (HCW.out.trans HCc.out).size) HPL.out (HPL.out.stab (fun _ b o e => by have := hfr' b o e; omega))).mono ?_
         rintro e Wd ⟨va, vn, vc, r, res, lm, rfl, hPR, hRs, hm1', hm2', hcc, hout, hcr⟩
         have HFd := Lib.hid (HFc.out.ch hO hcc)
         have HRd := Lib.hid hRs
         have HCd : Hid (Ch (fun x => x = sb) W Wd) := HCc.out.trans hcc
         have HPR := Lib.hid hPR
         have HOUT := Lib.hid hout
         have HLd : Hid (∀ out, res = some out → SlG stE Wd va n out) := fun out e => (hout out e).2.2.1
         refine hKz _ _ (fun _ => hSof _ HFd.out) ?_
         obtain ⟨bo, hbo⟩ : ∃ bo, res.isSome = bo := ⟨_, rfl⟩
         rw [hbo]
         have HBO := Lib.hid hbo
         clear hKz Kz hPR hRs hout hcr hbo
         replace HBT := Lib.hid (HBT.out.ch hcc (by omega))
         have hS := hSof _ HFd.out
         refine AnyJ.takeD (i := 6) (d := some 78) (v := ?_) rfl (by kernel_rfl) (by kernel_rfl) (by kernel_rfl) (by kernel_rfl) (by kernel_rfl) (fun _ _ _ h => (by cases h.1)) (Or.inl ⟨by kernel_rfl, ?_⟩) hS ?_
         rotate_left
         ·
          intro w' hS
          obtain ⟨e0, e1, e2⟩ := hS
          go_simp
          try with_reducible rfl
         refine AnyJ.takeD (i := 7) (d := some 85) (v := ?_) rfl (by kernel_rfl) (by kernel_rfl) (by kernel_rfl) (by kernel_rfl) (by kernel_rfl) (fun _ _ _ h => (by cases h.1)) (Or.inl ⟨by kernel_rfl, ?_⟩) hS ?_
         rotate_left
         ·
          intro w' hS
          obtain ⟨e0, e1, e2⟩ := hS
          go_simp
          try with_reducible rfl
         refine AnyJ.takeD (i := 8) (d := some 86) (v := ?_) rfl (by kernel_rfl) (by kernel_rfl) (by kernel_rfl) (by kernel_rfl) (by kernel_rfl) (fun _ _ _ h => (by cases h.1)) (Or.inl ⟨by kernel_rfl, ?_⟩) hS ?_
         rotate_left
         ·
          intro w' hS
          obtain ⟨e0, e1, e2⟩ := hS
          go_simp
          try with_reducible rfl
         refine AnyJ.takeD (i := 9) (d := some 87) (v := ?_) rfl (by kernel_rfl) (by kernel_rfl) (by kernel_rfl) (by kernel_rfl) (by kernel_rfl) (fun _ _ _ h => (by cases h.1)) (Or.inl ⟨by kernel_rfl, ?_⟩) hS ?_
         rotate_left
         ·
          intro w' hS
          obtain ⟨e0, e1, e2⟩ := hS
          go_simp
          try with_reducible rfl
         refine AnyJ.one (i := 11) (by kernel_rfl) rfl (fun Kz hKz => ?_)
         go_simp
         refine hKz _ _ (fun _ => hSof _ HFd.out) ?_
         clear hKz Kz
         have z0 := HBT.out.cell 0 rfl
         have z1 := HBT.out.cell 1 rfl
         have z2 := HBT.out.cell 2 rfl
         have z3 := HBT.out.cell 3 rfl
         have z4 := HBT.out.cell 4 rfl
         have z5 := HBT.out.frozen 0
         have z6 := HBT.out.frozen 1
         have z7 := HBT.out.frozen 2
         have z8 := HBT.out.frozen 3
         have z9 := HBT.out.frozen 4
         have zl := HBT.out.lt
         obtain ⟨We, hWe⟩ : ∃ X, ((((Wd.setCell ⟨Bt, 0, none⟩ (.int .i64 r.kd)).setCell ⟨Bt, 1, none⟩ (.int .i64 r.ni)).setCell ⟨Bt, 2, none⟩ (.slice r.sa r.sn r.sc)).setCell ⟨Bt, 3, none⟩ (.slice r.ra r.rn r.rc)).setCell ⟨Bt, 4, none⟩ (.slice r.ba r.bn r.bc) = X := ⟨_, rfl⟩
         have hce : Ch (fun k => k = Bt) Wd We := by rw [← hWe]; exact (((((Ch.refl (fun k => k = Bt) Wd).setCell (p := ⟨Bt, 0, none⟩) rfl _).setCell (p := ⟨Bt, 1, none⟩) rfl _).setCell (p := ⟨Bt, 2, none⟩) rfl _).setCell (p := ⟨Bt, 3, none⟩) rfl _).setCell (p := ⟨Bt, 4, none⟩) rfl _
         have hbe : Row We Bt r.cs := by rw [← hWe]; exact ((((HBT.out.setc 0 _).setc 1 _).setc 2 _).setc 3 _).setc 4 _
         have HCe : Hid (Ch (fun k => k = sb ∨ k = Bt) W We) := (HCd.out.mono (fun k _ h => .inl h)).trans (hce.mono (fun k _ h => .inr h))
         have HFe := Lib.hid (HF.out.ch2 hO HCe.out (fun k h => by omega))
         have HRe := Lib.hid (HRd.out.ch hce (by omega))
         have HBE := Lib.hid hbe
         refine AnyJ.one (i := 12) (by kernel_rfl) rfl (fun Kz hKz => ?_)
         go_simp
         try rw [hWe]
         refine hKz _ _ (fun _ => hSof _ HFe.out) ?_
         clear hKz Kz hWe z0 z1 z2 z3 z4 z5 z6 z7 z8 z9 zl
         refine AnyJ.one (i := 13) (by kernel_rfl) rfl (fun Kz hKz => ?_)
         go_simp
         refine hKz _ _ (fun _ => hSof _ HFe.out) ?_
         clear hKz Kz
         refine AnyJ.done (by kernel_rfl) ⟨rfl, rfl, ?_⟩ _
         try simp only [Act.put, List.setIfInBounds_toArray, List.set_cons_zero, List.set_cons_succ]
         have hLd := HLd.out
         have hLE : ∀ out, res = some out → vn = n ∧ n ≤ vc ∧ SlG stE We va n out ∧ PlA va := fun out e => ⟨(HOUT.out out e).1, (HOUT.out out e).2.1, (hLd out e).of_same (fun h0 b o eb => hce.2.2.2.2 b (by obtain ⟨b', o', e', hb'⟩ := (hLd out e).block h0; rw [eb] at e'; cases e'; exact hb') ((hLd out e).ne_row HBT.out (by show 5 < 9; omega) h0 eb)), (HOUT.out out e).2.2.2⟩
         refine ⟨Bt, ad, cp, va, vn, vc, r, bo, res, lm, HCe.out, hBtl, HRe.out, HBE.out, HPR.out, HBO.out, hm1', hm2', hLE, ?_⟩
         simp only [List.setIfInBounds_toArray, List.set_cons_zero, List.set_cons_succ]
       ·
        skip
        go_simp
        obtain ⟨Wb, hWb⟩ : ∃ X, Wa.alloc (.cells #[.int .i64 0, .int .i64 0, .slice none 0 0, .slice none 0 0, .slice none 0 0] 47) = X := ⟨_, rfl⟩
        obtain ⟨Bt, hBt⟩ : ∃ Bt, Wa.heap.size = Bt := ⟨_, rfl⟩
        have hbb : Below Wa.heap.size Wa Wb := by rw [← hWb]; exact (Below.refl _ _).alloc (Nat.le_refl _) _
        have hbt : Row Wb Bt zref.cs := by rw [← hWb, ← hBt]; exact Row.new' _ _ _ rfl
        have hBtl : W.heap.size ≤ Bt := by have := HCa.out.size; omega
        rw [hWb, hBt]
        have HFb := Lib.hid (HFa.out.ch hO (Ch.ofB hbb))
        have HRb := Lib.hid (HRa.out.step hbb)
        have HCb : Hid (Ch (fun x => x = sb) W Wb) := HCa.out.trans (Ch.ofB hbb)
        have HBT := Lib.hid hbt
        refine hKz _ _ (fun _ => hSof _ HFb.out) ?_
        clear hKz Kz hbt hWb hBt
        refine AnyJ.one (i := 4) (by kernel_rfl) rfl (fun Kz hKz => ?_)
        go_simp
        refine (placed_any (some ⟨gs, off1, none⟩) n cap l i x Wb (by omega) hc1 hil (HLS.out.ch HL.out (HCW.out.trans HCb.out) (Nat.le_refl _))).mono ?_
        rintro e Wc ⟨ad, cp, rfl, hcp, hpl', hfr, hbc⟩
        have HFc := Lib.hid (HFb.out.ch hO (Ch.ofB hbc))
        have HRc := Lib.hid (HRb.out.step hbc)
        have HCc : Hid (Ch (fun x => x = sb) W Wc) := HCb.out.trans (Ch.ofB hbc)
        have HPL := Lib.hid hpl'
        have hfr' : ∀ g o, ad = some ⟨g, o, none⟩ → sb < g := fun g o e => by have := hfr g o e; have := HCb.out.size; omega
        refine hKz _ _ (fun _ => hSof _ HFc.out) ?_
        clear hKz Kz hpl' hfr
        replace HBT := Lib.hid (HBT.out.step hbc)
        refine AnyJ.one (i := 5) (by kernel_rfl) rfl (fun Kz hKz => ?_)
        go_simp
        refine (IH.out (lk - 1) ad n cp (placedL l i x) Wc (by omega) (by omega) hcp (HPL.out.plA (by rw [HPL.out.1]; omega)) ((placed_ext HSI.out HIN.out hx1).good HG.out) (Nat.lt_of_lt_of_le (out_falls HSI.out HIN.out x) (Nat.le_of_lt_succ HD.out)) HRc.out (HHS.out.ch HH.out (HCW.out.trans HCc.out) (Nat.le_refl _)) (HHS.out.mono (HCW.out.trans HCc.out).size) HPL.out (HPL.out.stab (fun _ b o e => by have := hfr' b o e; omega))).mono ?_
        rintro e Wd ⟨va, vn, vc, r, res, lm, rfl, hPR, hRs, hm1', hm2', hcc, hout, hcr⟩
        have HFd := Lib.hid (HFc.out.ch hO hcc)
        have HRd := Lib.hid hRs
        have HCd : Hid (Ch (fun x => x = sb) W Wd) := HCc.out.trans hcc
        have HPR := Lib.hid hPR
        have HOUT := Lib.hid hout
        have HLd : Hid (∀ out, res = some out → SlG stE Wd va n out) := fun out e => (hout out e).2.2.1
        refine hKz _ _ (fun _ => hSof _ HFd.out) ?_
        obtain ⟨bo, hbo⟩ : ∃ bo, res.isSome = bo := ⟨_, rfl⟩
        rw [hbo]
        have HBO := Lib.hid hbo
        clear hKz Kz hPR hRs hout hcr hbo
        replace HBT := Lib.hid (HBT.out.ch hcc (by omega))
        have hS := hSof _ HFd.out
        refine AnyJ.takeD (i := 6) (d := some 78) (v := ?_) rfl (by kernel_rfl) (by kernel_rfl) (by kernel_rfl) (by kernel_rfl) (by kernel_rfl) (fun _ _ _ h => (by cases h.1)) (Or.inl ⟨by kernel_rfl, ?_⟩) hS ?_
        rotate_left
        ·
         intro w' hS
         obtain ⟨e0, e1, e2⟩ := hS
         go_simp
         try with_reducible rfl
        refine AnyJ.takeD (i := 7) (d := some 85) (v := ?_) rfl (by kernel_rfl) (by kernel_rfl) (by kernel_rfl) (by kernel_rfl) (by kernel_rfl) (fun _ _ _ h => (by cases h.1)) (Or.inl ⟨by kernel_rfl, ?_⟩) hS ?_
        rotate_left
        ·
         intro w' hS
         obtain ⟨e0, e1, e2⟩ := hS
         go_simp
         try with_reducible rfl
        refine AnyJ.takeD (i := 8) (d := some 86) (v := ?_) rfl (by kernel_rfl) (by kernel_rfl) (by kernel_rfl) (by kernel_rfl) (by kernel_rfl) (fun _ _ _ h => (by cases h.1)) (Or.inl ⟨by kernel_rfl, ?_⟩) hS ?_
        rotate_left
        ·
         intro w' hS
         obtain ⟨e0, e1, e2⟩ := hS
         go_simp
         try with_reducible rfl
        refine AnyJ.takeD (i := 9) (d := some 87) (v := ?_) rfl (by kernel_rfl) (by kernel_rfl) (by kernel_rfl) (by kernel_rfl) (by kernel_rfl) (fun _ _ _ h => (by cases h.1)) (Or.inl ⟨by kernel_rfl, ?_⟩) hS ?_
        rotate_left
        ·
         intro w' hS
         obtain ⟨e0, e1, e2⟩ := hS
         go_simp
         try with_reducible rfl
        refine AnyJ.one (i := 11) (by kernel_rfl) rfl (fun Kz hKz => ?_)
        go_simp
        refine hKz _ _ (fun _ => hSof _ HFd.out) ?_
        clear hKz Kz
        have z0 := HBT.out.cell 0 rfl
        have z1 := HBT.out.cell 1 rfl
        have z2 := HBT.out.cell 2 rfl
        have z3 := HBT.out.cell 3 rfl
        have z4 := HBT.out.cell 4 rfl
        have z5 := HBT.out.frozen 0
        have z6 := HBT.out.frozen 1
        have z7 := HBT.out.frozen 2
        have z8 := HBT.out.frozen 3
        have z9 := HBT.out.frozen 4
        have zl := HBT.out.lt
        obtain ⟨We, hWe⟩ : ∃ X, ((((Wd.setCell ⟨Bt, 0, none⟩ (.int .i64 r.kd)).setCell ⟨Bt, 1, none⟩ (.int .i64 r.ni)).setCell ⟨Bt, 2, none⟩ (.slice r.sa r.sn r.sc)).setCell ⟨Bt, 3, none⟩ (.slice r.ra r.rn r.rc)).setCell ⟨Bt, 4, none⟩ (.slice r.ba r.bn r.bc) = X := ⟨_, rfl⟩
        have hce : Ch (fun k => k = Bt) Wd We := by rw [← hWe]; exact (((((Ch.refl (fun k => k = Bt) Wd).setCell (p := ⟨Bt, 0, none⟩) rfl _).setCell (p := ⟨Bt, 1, none⟩) rfl _).setCell (p := ⟨Bt, 2, none⟩) rfl _).setCell (p := ⟨Bt, 3, none⟩) rfl _).setCell (p := ⟨Bt, 4, none⟩) rfl _
        have hbe : Row We Bt r.cs := by rw [← hWe]; exact ((((HBT.out.setc 0 _).setc 1 _).setc 2 _).setc 3 _).setc 4 _
        have HCe : Hid (Ch (fun k => k = sb ∨ k = Bt) W We) := (HCd.out.mono (fun k _ h => .inl h)).trans (hce.mono (fun k _ h => .inr h))
        have HFe := Lib.hid (HF.out.ch2 hO HCe.out (fun k h => by omega))
        have HRe := Lib.hid (HRd.out.ch hce (by omega))
        have HBE := Lib.hid hbe
        refine AnyJ.one (i := 12) (by kernel_rfl) rfl (fun Kz hKz => ?_)
        go_simp
        try rw [hWe]
        refine hKz _ _ (fun _ => hSof _ HFe.out) ?_
        clear hKz Kz hWe z0 z1 z2 z3 z4 z5 z6 z7 z8 z9 zl
        refine AnyJ.one (i := 13) (by kernel_rfl) rfl (fun Kz hKz => ?_)
        go_simp
        refine hKz _ _ (fun _ => hSof _ HFe.out) ?_
        clear hKz Kz
        refine AnyJ.done (by kernel_rfl) ⟨rfl, rfl, ?_⟩ _
        try simp only [Act.put, List.setIfInBounds_toArray, List.set_cons_zero, List.set_cons_succ]
        have hLd := HLd.out
        have hLE : ∀ out, res = some out → vn = n ∧ n ≤ vc ∧ SlG stE We va n out ∧ PlA va := fun out e => ⟨(HOUT.out out e).1, (HOUT.out out e).2.1, (hLd out e).of_same (fun h0 b o eb => hce.2.2.2.2 b (by obtain ⟨b', o', e', hb'⟩ := (hLd out e).block h0; rw [eb] at e'; cases e'; exact hb') ((hLd out e).ne_row HBT.out (by show 5 < 9; omega) h0 eb)), (HOUT.out out e).2.2.2⟩
        refine ⟨Bt, ad, cp, va, vn, vc, r, bo, res, lm, HCe.out, hBtl, HRe.out, HBE.out, HPR.out, HBO.out, hm1', hm2', hLE, ?_⟩
        simp only [List.setIfInBounds_toArray, List.set_cons_zero, List.set_cons_succ]
      -- ARM3E
     case done =>
      rintro D xs' W hD hxs ⟨lk, vR, vB, r1, k0, k1, hF, hCw, hbW, hLk⟩ hKd
      have hLX := hLk [] none lk ⟨rfl, rfl⟩
      rw [List.append_nil, show xs' = fitL s' H from hxs] at hLX
      obtain ⟨xs, hxl, hX⟩ := hF.xs
      obtain ⟨bs, hbl, hBs⟩ := hF.bs
      obtain ⟨adR, cpR, rfl, -, -⟩ := hX.shape hxl
      obtain ⟨adB, cpB, rfl, -, -⟩ := hBs.shape hbl
      obtain ⟨m, hmq⟩ : ∃ m, xs'.length = m := ⟨_, rfl⟩
      rw [hmq] at hF
      have p2 := hF.z.b2
      have p3 := hF.z.b3
      have p4 := hF.z.b4
      have t0 := p2.cell 0 rfl
      have t1 := p2.frozen 0
      have t2 := p2.lt
      have u0 := p3.cell 0 rfl
      have u1 := p3.cell 1 rfl
      have u2 := p3.cell 2 rfl
      have u3 := p3.cell 3 rfl
      have u4 := p3.cell 4 rfl
      have u5 := p3.frozen 0
      have u6 := p3.frozen 1
      have u7 := p3.frozen 2
      have u8 := p3.frozen 3
      have u9 := p3.frozen 4
      have ul := p3.lt
      have v0 := p4.cell 0 rfl
      have v1 := p4.frozen 0
      have v2 := p4.lt
      have c0 := hF.t.cell 0 rfl
      have c1 := hF.t.cell 1 rfl
      have c2 := hF.t.cell 2 rfl
      have c3 := hF.t.cell 3 rfl
      have c4 := hF.t.cell 4 rfl
      have cl := hF.t.lt
      obtain ⟨Wf, hWf⟩ : ∃ Wf, putR W B0 (.slice none 0 0) ⟨3, 0, some ⟨Bi + 1, 0, none⟩, 1, 1, adR, m, cpR, adB, m, cpB⟩ false = Wf := ⟨_, rfl⟩
      have HP := putR_row (.slice none 0 0) ⟨3, 0, some ⟨Bi + 1, 0, none⟩, 1, 1, adR, m, cpR, adB, m, cpB⟩ false p2 p3 p4
      rw [hWf] at HP
      replace HP := Lib.hid HP
      dsimp only [putR] at hWf
      have HWF := Lib.hid hWf
      have HLX := Lib.hid hLX
      have HRW := Lib.hid r1
      have HCW := Lib.hid hCw
      have HKD := Lib.hid hKd
      clear hWf p2 p3 p4 hF hX hBs hLk hLX r1 hCw hKd hxs
      try rw [hmq]
      go_wp2_with fail
      go_region
      go_wp2_with fail
      rw [HWF.out]
      obtain ⟨e2, e3, e4, eC⟩ := HP.out
      have hDf : Wf.drew.heap[D]? = some (.deferred (some [])) := (eC.2.2.2.2 D (Array.getElem?_eq_some_iff.1 HKD.out).1 (fun hk => by omega)).trans HKD.out
      refine ⟨by simp, .inl ⟨_, _, rfl, run_takeDeferred hDf, ?_⟩⟩
      obtain ⟨Wz, hWz⟩ : ∃ X, Wf.drew.putObj D (.deferred none) = X := ⟨_, rfl⟩
      have d2 : Row Wz (B0 + 2) [.slice none 0 0] := by rw [← hWz]; exact e2.drew.putObj hDf rfl
      have d3 : Row Wz (B0 + 3) (RefV.cs ⟨3, 0, some ⟨Bi + 1, 0, none⟩, 1, 1, adR, m, cpR, adB, m, cpB⟩) := by rw [← hWz]; exact e3.drew.putObj hDf rfl
      have d4 : Row Wz (B0 + 4) [.bool false] := by rw [← hWz]; exact e4.drew.putObj hDf rfl
      have hCz : Ch (fun x => x = sb) w Wz := by rw [← hWz]; exact ((HCW.out.trans' eC (fun k h => by omega)).drew).putObj _ _ (by omega)
      have hRz : Row Wz sb [.slice ha hm hc, .int .i64 lk] := by rw [← hWz]; exact (HRW.out.ch eC (by omega)).drew.putObj hDf rfl
      rw [hWz]
      have a0 : Wz.cell? ⟨B0 + 1 + 1, 0, none⟩ = _ := Row.cell (b := B0 + 1 + 1) d2 0 rfl
      have a1 : Wz.cell? ⟨B0 + 1 + 1 + 1, 0, none⟩ = _ := Row.cell (b := B0 + 1 + 1 + 1) d3 0 rfl
      have a2 : Wz.cell? ⟨B0 + 1 + 1 + 1, 1, none⟩ = _ := Row.cell (b := B0 + 1 + 1 + 1) d3 1 rfl
      have a3 : Wz.cell? ⟨B0 + 1 + 1 + 1, 2, none⟩ = _ := Row.cell (b := B0 + 1 + 1 + 1) d3 2 rfl
      have a4 : Wz.cell? ⟨B0 + 1 + 1 + 1, 3, none⟩ = _ := Row.cell (b := B0 + 1 + 1 + 1) d3 3 rfl
      have a5 : Wz.cell? ⟨B0 + 1 + 1 + 1, 4, none⟩ = _ := Row.cell (b := B0 + 1 + 1 + 1) d3 4 rfl
      have a6 : Wz.cell? ⟨B0 + 1 + 1 + 1 + 1, 0, none⟩ = _ := Row.cell (b := B0 + 1 + 1 + 1 + 1) d4 0 rfl
      refine ⟨.tuple #[.slice none 0 0, RefV.val ⟨3, 0, some ⟨Bi + 1, 0, none⟩, 1, 1, adR, m, cpR, adB, m, cpB⟩, .bool false], by simp [results, Tryz.results51, go_sem, a0, a1, a2, a3, a4, a5, a6], ?_⟩
      exact ⟨none, 0, 0, _, none, lk, rfl, .inr ⟨HN.out, .inr ⟨i, s', HSI.out, HIN.out, HLX.out⟩⟩, hRz, by omega, by omega, hCz, (fun out h => by cases h), fun h => absurd h HN.out⟩
     case stop =>
      rintro D cx pre W hD hpre ⟨rfl, va, vn, vc, r, res, left', r2, r3, r4, rs, g1, g2, gC, gL, gO⟩ hKd
      refine (wpIn_wide (n := 6)).2 ?_
      have HR2 := Lib.hid r2
      have HR3 := Lib.hid r3
      have HR4 := Lib.hid r4
      have HRS := Lib.hid rs
      have HGC := Lib.hid gC
      have HGL := Lib.hid gL
      have HGO := Lib.hid gO
      have HKD := Lib.hid hKd
      clear r2 r3 r4 rs gC gL gO hKd
      go_wp2_with fail
      refine ⟨by simp, .inl ⟨_, _, rfl, run_takeDeferred HKD.out, ?_⟩⟩
      obtain ⟨Wz, hWz⟩ : ∃ X, W.putObj D (.deferred none) = X := ⟨_, rfl⟩
      have d2 : Row Wz (B0 + 2) [.slice va vn vc] := by rw [← hWz]; exact HR2.out.putObj HKD.out rfl
      have d3 : Row Wz (B0 + 3) r.cs := by rw [← hWz]; exact HR3.out.putObj HKD.out rfl
      have d4 : Row Wz (B0 + 4) [.bool res.isSome] := by rw [← hWz]; exact HR4.out.putObj HKD.out rfl
      have hRz : Row Wz sb [.slice ha hm hc, .int .i64 left'] := by rw [← hWz]; exact HRS.out.putObj HKD.out rfl
      have hCz : Ch (fun x => x = sb) w Wz := by rw [← hWz]; exact HGC.out.putObj _ _ (by omega)
      have hOz : ∀ out, res = some out → vn = n ∧ n ≤ vc ∧ SlG stE Wz va n out ∧ PlA va := fun out e => by
       obtain ⟨q1, q2, q3, q4⟩ := HGO.out out e
       exact ⟨q1, q2, by rw [← hWz]; exact q3.putObj _ HKD.out rfl, q4⟩
      rw [hWz]
      have a0 : Wz.cell? ⟨B0 + 1 + 1, 0, none⟩ = _ := Row.cell (b := B0 + 1 + 1) d2 0 rfl
      have a1 : Wz.cell? ⟨B0 + 1 + 1 + 1, 0, none⟩ = _ := Row.cell (b := B0 + 1 + 1 + 1) d3 0 rfl
      have a2 : Wz.cell? ⟨B0 + 1 + 1 + 1, 1, none⟩ = _ := Row.cell (b := B0 + 1 + 1 + 1) d3 1 rfl
      have a3 : Wz.cell? ⟨B0 + 1 + 1 + 1, 2, none⟩ = _ := Row.cell (b := B0 + 1 + 1 + 1) d3 2 rfl
      have a4 : Wz.cell? ⟨B0 + 1 + 1 + 1, 3, none⟩ = _ := Row.cell (b := B0 + 1 + 1 + 1) d3 3 rfl
      have a5 : Wz.cell? ⟨B0 + 1 + 1 + 1, 4, none⟩ = _ := Row.cell (b := B0 + 1 + 1 + 1) d3 4 rfl
      have a6 : Wz.cell? ⟨B0 + 1 + 1 + 1 + 1, 0, none⟩ = _ := Row.cell (b := B0 + 1 + 1 + 1 + 1) d4 0 rfl
      refine ⟨.tuple #[.slice va vn vc, r.val, .bool res.isSome], by simp [results, Tryz.results51, go_sem, a0, a1, a2, a3, a4, a5, a6], ?_⟩
      exact ⟨va, vn, vc, r, res, left', rfl, .inr ⟨HN.out, .inr ⟨i, s', HSI.out, HIN.out, HGL.out⟩⟩, hRz, by omega, by omega, hCz, hOz, fun h => absurd h HN.out⟩
end
section
set_option linter.unusedSimpArgs false
set_option linter.unusedVariables false
open Go.RowKit Go.Shelf
theorem sorted_any (a : Option Addr) (m mc : Nat) (RL : List RoomV) (w : World) (hm : m ≤ 1000) (hr : SlM w a m RL) :
  Calls Tryz.prog 50 #[.slice a m mc] w fun e w' => ∃ ad cp, e = .returned (.slice ad m cp) ∧ SlM w' ad m (srtM RL) ∧ Below w.heap.size w w' := by
 have HR := Lib.hid hr
 clear hr
 go_enter Tryz.func50, Tryz.ntmps50
 go_wp2_with fail
 refine (valuesM_any a m mc w).mono ?_
 rintro e w1 ⟨rfl, hr1, hb1⟩
 have HR1 := Lib.hid (HR.out.step hb1)
 have HV := Lib.hid hr1
 have HB1 := Lib.hid hb1
 clear hr1 hb1
 go_wp2_with fail
 refine (sortedM_any 67 cmpM_a w.heap.size a m mc RL w1 HV.out HR1.out.1 hm).mono ?_
 rintro e w2 ⟨ad, cp, rfl, ho, hb2⟩
 have HB2 : Hid (Below w.heap.size w w2) := HB1.out.trans (hb2.mono HB1.out.size)
 have HO : Hid (SlM w2 ad m (srtM RL)) := ⟨ho.sl, fun r hr => (HR1.out.2 r ((srtM_perm RL).mem_iff.1 hr)).step hb2⟩
 clear ho hb2
 go_wp2_with fail
 go_ret
 exact ⟨ad, cp, rfl, HO.out, HB2.out⟩
/-- What Assign gives. -/
def AsgOut (H : List RoomV) (l : List StayV) (n : Nat) (W : World) (base : Nat) (va : Option Addr) (vn vc : Nat) (r : RefV) (ok : Bool) (er : Int) : Prop := ∃ (res : Option (List StayV)) (left' : Int), PlaceR (srtM H) (l.length + 1) 5000 l res left' ∧
 ((left' < 0 ∧ ok = false ∧ er = 2) ∨ (0 ≤ left' ∧ res = none ∧ ok = false ∧ er = 0 ∧ (Crowded (srtM H) l → ∃ s ∈ l, HallRef (nsL s.fr l) (srtM (srtM H)) s.fr r)) ∨
  (0 ≤ left' ∧ ∃ out, res = some out ∧ ok = true ∧ er = 0 ∧ vn = n ∧ OwnG stE 37 W base (.slice va n vc) (backL l out)))
theorem AsgOut.step {H : List RoomV} {l : List StayV} {n : Nat} {W W' : World} {base : Nat} {va : Option Addr} {vn vc : Nat} {r : RefV} {ok : Bool} {er : Int} (h : AsgOut H l n W base va vn vc r ok er) (hb : Below W.heap.size W W') : AsgOut H l n W' base va vn vc r ok er := by
 obtain ⟨res, lm, h1, h2⟩ := h
 refine ⟨res, lm, h1, ?_⟩
 rcases h2 with h2 | h2 | ⟨h2, out, h3, h4, h5, h6, h7⟩
 ·
  exact .inl h2
 ·
  exact .inr (.inl h2)
 ·
  exact .inr (.inr ⟨h2, out, h3, h4, h5, h6, h7.step hb⟩)
/-- The marks of arrival of the first i stays are as they were. -/
theorem back_step {l out : List StayV} {i : Nat} {s t : StayV} (hl : out.length = l.length) (hs : l[i]? = some s) (ht : out[i]? = some t) : ((backL l out).take i ++ out.drop i).set i { t with inn := s.inn } = (backL l out).take (i + 1) ++ out.drop (i + 1) := by
 have hb := backL_at hl hs ht
 obtain ⟨hi, he⟩ := List.getElem?_eq_some_iff.1 hb
 obtain ⟨hi2, he2⟩ := List.getElem?_eq_some_iff.1 ht
 have hlen : ((backL l out).take i).length = i := by rw [List.length_take]; omega
 rw [List.set_append_right _ _ (by omega), hlen, Nat.sub_self, List.take_succ_eq_append_getElem hi, he]
 have : out.drop i = t :: out.drop (i + 1) := by rw [← he2]; exact (List.getElem_cons_drop hi2).symm
 rw [this]
 simp
theorem back_cur {l out : List StayV} {i : Nat} {s t : StayV} (hl : out.length = l.length) (hs : l[i]? = some s) (ht : out[i]? = some t) : ((backL l out).take i ++ out.drop i)[i]? = some t := by
 have hb := backL_at hl hs ht
 obtain ⟨hi, he⟩ := List.getElem?_eq_some_iff.1 hb
 have hlen : ((backL l out).take i).length = i := by rw [List.length_take]; omega
 rw [List.getElem?_append_right (by omega), hlen, Nat.sub_self, List.getElem?_drop]
 exact ht
set_option maxRecDepth 100000 in
set_option maxHeartbeats 6400000 in
theorem Assign_any (a b : Option Addr) (m mc n cap : Nat) (RL : List RoomV) (l : List StayV) (w : World) (hm : m ≤ 1000) (hr : SlM w a m RL) (hv : validM RL = true) (hb : PlA b) (hs : SlG stE w b n l) (hg : GoodL l) :
  Calls Tryz.prog 29 #[.slice a m mc, .slice b n cap] w fun e w' => ∃ (va : Option Addr) (vn vc : Nat) (r : RefV) (ok : Bool) (er : Int), e = .returned (.tuple #[.slice va vn vc, r.val, .bool ok, .int .i64 er]) ∧ AsgOut RL l n w' w.heap.size va vn vc r ok er ∧ Below w.heap.size w w' := by
 have hn := hg.len hs.1
 have HS := Lib.hid hs
 have HL := Lib.hid hs.1
 have HR := Lib.hid hr
 have HV := Lib.hid hv
 have HG := Lib.hid hg
 have HPB := Lib.hid hb
 clear hs hr hv hg hb
 obtain ⟨r0, hr0⟩ : ∃ r0, w.heap.size = r0 := ⟨_, rfl⟩
 obtain ⟨W1, hW1⟩ : ∃ W1, w.alloc (.cells #[.int .i64 0, .int .i64 0, .slice none 0 0, .slice none 0 0, .slice none 0 0] 47) = W1 := ⟨_, rfl⟩
 have hb1 : Below w.heap.size w W1 := by rw [← hW1]; (repeat' (first | (with_reducible first | exact Below.refl _ _ | assumption | exact Bw.out (by assumption) | refine bw_alloc ?_ _ | refine bw_step ?_ (by assumption) | refine Below.alloc ?_ ?_ _ | refine Below.drew ?_ | refine below_drewN ?_ _ | refine Below.setCell ?_ ?_ _ | refine below_step ?_ (by assumption) ?_ | exact Nat.le_refl _) | omega | (simp; omega) | (simp; done)))
 have q4 : Row W1 r0 zref.cs := by rw [← hW1, ← hr0]; (repeat' (first | (with_reducible assumption) | (with_reducible refine Row.new' _ _ _ (by first | rfl | (simp; done) | omega)) | (with_reducible first | refine Row.alloc ?_ _ | refine Row.drew ?_ | refine Row.step ?_ (by assumption) | refine Row.drewN ?_ _) | (with_reducible refine Row.set2' ?_ _ _; first | exact ⟨_, _, by assumption⟩ | exact ⟨_, _, Row.alloc (by assumption) _⟩) | (with_reducible refine Row.other ?_ (by first | omega | (simp; omega)) _)))
 have hs1 : W1.heap.size = r0 + 1 := by rw [← hW1, ← hr0]; simp
 have HB1 := Lib.hid hb1
 have HQ := Lib.hid q4
 have HS1 := Lib.hid (HS.out.step hb1)
 have HR1 := Lib.hid (HR.out.step hb1)
 clear hb1 q4
 go_enter Tryz.func29, Tryz.ntmps29
 go_wp2_with fail
 refine (rvalid_p a m mc RL W1 (by omega) HR1.out true HV.out).mono ?_
 rintro e w2 ⟨rfl, hb2⟩
 have HS2 := Lib.hid (HS1.out.step hb2)
 have HR2 := Lib.hid (HR1.out.step hb2)
 have HB2 : Hid (Below W1.heap.size W1 w2) := hb2
 clear hb2
 go_wp2_with fail
 refine (sValid_yes b n cap l w2 HS2.out HG.out).mono ?_
 rintro e w3 ⟨rfl, hb3⟩
 have HS3 := Lib.hid (HS2.out.step hb3)
 have HR3 := Lib.hid (HR2.out.step hb3)
 have HB3 : Hid (Below W1.heap.size W1 w3) := HB2.out.trans (hb3.mono HB2.out.size)
 clear hb3
 go_wp2_with fail
 refine (sorted_any a m mc RL w3 hm HR3.out).mono ?_
 rintro e w4 ⟨ha, hc, rfl, hH, hb4⟩
 have HH4 := Lib.hid hH
 have HS4 := Lib.hid (HS3.out.step hb4)
 have HB4 : Hid (Below W1.heap.size W1 w4) := HB3.out.trans (hb4.mono HB3.out.size)
 obtain ⟨sb, hsb⟩ : ∃ sb, w4.heap.size = sb := ⟨_, rfl⟩
 obtain ⟨w5, hw5⟩ : ∃ w5, w4.alloc (.cells #[.slice ha m hc, .int .i64 5000] 95) = w5 := ⟨_, rfl⟩
 have hb5 : Below w4.heap.size w4 w5 := by rw [← hw5]; exact (Below.refl _ _).alloc (Nat.le_refl _) _
 have hr5 : Row w5 sb [.slice ha m hc, .int .i64 5000] := by rw [← hw5, ← hsb]; exact Row.new' _ _ _ rfl
 have HRS5 := Lib.hid hr5
 have HS5 := Lib.hid (HS4.out.step hb5)
 have HH5 := Lib.hid (HH4.out.step hb5)
 have HB5 : Hid (Below W1.heap.size W1 w5) := HB4.out.trans (hb5.mono HB4.out.size)
 clear hH hb4 hb5 hr5
 go_wp2_with fail
 refine (cloneT_any b n cap l w5 HPB.out HS5.out (by omega)).mono ?_
 rintro e w6 ⟨cb, cc, rfl, ho6, hb6⟩
 have hsz6 := ho6.sizes
 have HO6 := Lib.hid ho6
 have HRS6 := Lib.hid (HRS5.out.step hb6)
 have HS6 := Lib.hid (HS5.out.step hb6)
 have HH6 := Lib.hid (HH5.out.step hb6)
 have HB6 : Hid (Below W1.heap.size W1 w6) := HB5.out.trans (hb6.mono HB5.out.size)
 have HPC : Hid (PlA cb) := by
  rcases ho6.plain with h | ⟨g, h⟩
  ·
   exact .inl h
  ·
   exact .inr ⟨g, 0, h⟩
 have h51 := HB4.out.size
 have hsb5 : sb < w5.heap.size := HRS5.out.lt
 have HST1 : Hid (Stab w6.heap.size sb (fun W => SlM W ha m (srtM RL))) := ((HH4.out.stab (sb := sb) (by omega)).mono (by have := hb6.size; omega))
 have HST2 : Hid (Stab w6.heap.size sb (fun W => SlG stE W cb n l)) := HO6.out.sl.stab (fun h0 g off e => by
  have : (Value.slice cb n cc).ownBlock = some g := by
   rcases ho6.plain with h | ⟨g', h⟩
   ·
    rw [h] at e; cases e
   ·
    rw [h] at e ⊢; cases e; rfl
  have := (ho6.lt this).1
  omega)
 clear ho6 hb6
 go_wp2_with fail
 refine (place2_any (srtM RL) ha m hc sb hm (by rw [validM_perm (srtM_perm RL)]; exact HV.out) (l.length + 1) 5000 cb n cc l w6 (by omega) (Int.le_refl _) hsz6.2.1 HPC.out HG.out (Nat.lt_succ_of_le (List.length_filter_le _ _)) HRS6.out HH6.out HST1.out HO6.out.sl HST2.out).mono ?_
 rintro e w7 ⟨va, vn, vc, r, res, lm, rfl, hPR, hRs, hm1, hm2, hcc, hout, hcr⟩
 have HPR := Lib.hid hPR
 have HOUT := Lib.hid hout
 have HCR := Lib.hid hcr
 have HB7 : Hid (Below W1.heap.size W1 w7) := hcc.below HB6.out (fun k hk => by omega) HB6.out.size
 have HS7 : Hid (SlG stE w7 b n l) := HS6.out.of_same (fun h0 g off e => hcc.2.2.2.2 g (by obtain ⟨g', o', e', hg'⟩ := HS6.out.block h0; rw [e] at e'; cases e'; exact hg') (fun e2 => by
  obtain ⟨g', o', e', hg'⟩ := HS4.out.block h0
  rw [e] at e'
  cases e'
  omega))
 obtain ⟨bo, hbo⟩ : ∃ bo, res.isSome = bo := ⟨_, rfl⟩
 rw [hbo]
 have HBO := Lib.hid hbo
 obtain ⟨Bt, hBt⟩ : ∃ Bt, w7.heap.size = Bt := ⟨_, rfl⟩
 obtain ⟨w8, hw8⟩ : ∃ w8, w7.alloc (.cells #[.int .i64 r.kd, .int .i64 r.ni, .slice r.sa r.sn r.sc, .slice r.ra r.rn r.rc, .slice r.ba r.bn r.bc] 47) = w8 := ⟨_, rfl⟩
 have hb8 : Below w7.heap.size w7 w8 := by rw [← hw8]; exact (Below.refl _ _).alloc (Nat.le_refl _) _
 have hr8 : Row w8 Bt r.cs := by rw [← hw8, ← hBt]; exact Row.new' _ _ _ rfl
 have HB8 : Hid (Below W1.heap.size W1 w8) := HB7.out.trans (hb8.mono HB7.out.size)
 have HS8 := Lib.hid (HS7.out.step hb8)
 have n1 := (hRs.step hb8).cell 1 rfl
 have HQ8 := Lib.hid (HQ.out.step HB8.out)
 have hr08 : r0 < Bt := by have := HB7.out.size; omega
 have HBF : Hid (Below w.heap.size w w8) := HB1.out.trans (HB8.out.mono HB1.out.size)
 have HR8 := Lib.hid hr8
 have HO8 : Hid (∀ out, res = some out → vn = n ∧ n ≤ vc ∧ SlG stE w8 va n out ∧ PlA va) := fun out e => by
  obtain ⟨q1, q2, q3, q4⟩ := HOUT.out out e
  exact ⟨q1, q2, q3.step hb8, q4⟩
 clear hPR hout hcr hcc hRs hbo hb8 hr8
 have q := HQ8.out
 have u0 := q.cell 0 rfl
 have v0 := q.frozen 0
 have u1 := q.cell 1 rfl
 have v1 := q.frozen 1
 have u2 := q.cell 2 rfl
 have v2 := q.frozen 2
 have u3 := q.cell 3 rfl
 have v3 := q.frozen 3
 have u4 := q.cell 4 rfl
 have v4 := q.frozen 4
 have rl := q.lt
 by_cases hneg : lm < 0
 ·
  go_wp2_with fail
  refine bodyPost_ret (v := .tuple #[.slice none 0 0, zref.val, .bool false, .int .i64 2]) (by simp [results, Tryz.results29, go_sem, u0, u1, u2, u3, u4, rl]) rfl ?_
  refine ⟨none, 0, 0, zref, false, 2, rfl, ⟨res, lm, HPR.out, .inl ⟨hneg, rfl, rfl⟩⟩, ?_⟩
  exact ((((HBF.out.setCell (by show _ ≤ r0; omega) _).setCell (by show _ ≤ r0; omega) _).setCell (by show _ ≤ r0; omega) _).setCell (by show _ ≤ r0; omega) _).setCell (by show _ ≤ r0; omega) _
 ·
  cases bo with
  | false =>
   have hres : res = none := by have := HBO.out; cases res <;> simp_all
   have g0 := HR8.out.cell 0 rfl
   have g1 := HR8.out.cell 1 rfl
   have g2 := HR8.out.cell 2 rfl
   have g3 := HR8.out.cell 3 rfl
   have g4 := HR8.out.cell 4 rfl
   have gl := HR8.out.lt
   go_wp2_with fail
   go_region
   go_wp2_with fail
   refine bodyPost_ret (v := .tuple #[.slice none 0 0, r.val, .bool false, .int .i64 0]) (by simp [results, Tryz.results29, go_sem, u0, u1, u2, u3, u4, rl]) rfl ?_
   refine ⟨none, 0, 0, r, false, 0, rfl, ⟨res, lm, HPR.out, .inr (.inl ⟨by omega, hres, rfl, rfl, HCR.out⟩)⟩, Below.drew ?_⟩
   exact ((((HBF.out.setCell (by show _ ≤ r0; omega) _).setCell (by show _ ≤ r0; omega) _).setCell (by show _ ≤ r0; omega) _).setCell (by show _ ≤ r0; omega) _).setCell (by show _ ≤ r0; omega) _
  | true =>
   obtain ⟨out, hres⟩ := Option.isSome_iff_exists.1 HBO.out
   obtain ⟨rfl, hvc, hsx, hpa⟩ := HO8.out out hres
   have hPR := HPR.out
   rw [hres] at hPR
   have HPR2 := Lib.hid hPR
   have hfound := (place_found (fun r hr => (formedR_in ((validM_in HV.out).2.1 r ((srtM_perm RL).mem_iff.1 hr))).1) hPR).1
   have HLO : Hid (out.length = l.length) := hfound.1
   have HSX := Lib.hid hsx
   have HPA := Lib.hid hpa
   clear hPR hfound hsx hpa hres
   go_wp2_with fail
   refine (cloneT_any va vn vc out w8 HPA.out HSX.out (by omega)).mono ?_
   rintro e w9 ⟨da, dc, rfl, ho9, hb9⟩
   have HO9 := Lib.hid ho9
   have HB9 : Hid (Below w.heap.size w w9) := HBF.out.trans (hb9.mono HBF.out.size)
   have HS9 := Lib.hid (HS8.out.step hb9)
   have HQ9 := Lib.hid (HQ8.out.step hb9)
   have h89 := HBF.out.size
   have hsl8 : ∀ (hz : 0 < l.length) g o, b = some ⟨g, o, none⟩ → g < w8.heap.size := fun hz g o e => by
    obtain ⟨g', o', e', hg'⟩ := HS8.out.block hz
    rw [e] at e'
    cases e'
    exact hg'
   have HSL8 := Lib.hid hsl8
   clear ho9 hb9 hsl8 q u0 u1 u2 u3 u4 v0 v1 v2 v3 v4 rl
   go_wp2_with fail
   go_loopw [11, 48] (fun _ ix wr => ∃ i : Nat, i ≤ vn ∧ ix = .int .i64 i ∧ Hid (OwnG stE 37 wr w8.heap.size (.slice da vn dc) ((backL l out).take i ++ out.drop i)) ∧ Hid (Ch (fun k => w8.heap.size ≤ k) w9 wr)) (fun _ ix _ => vn - (intOf ix).toNat)
   case atStart => exact ⟨0, Nat.zero_le _, rfl, by show OwnG _ _ _ _ _ _; simpa using HO9.out, Ch.refl _ _⟩
   case round =>
    obtain ⟨i, hi, rfl, hO, hC⟩ := hrel
    have HSr : Hid (SlG stE wr b vn l) := HS9.out.of_same (fun h0 g o e => hC.out.2.2.2.2 g (by have := HSL8.out h0 g o e; have := HB9.out.size; have := HO9.out; obtain ⟨g', o', e', hg'⟩ := HS9.out.block h0; rw [e] at e'; cases e'; exact hg') (fun e2 => by have := HSL8.out h0 g o e; omega))
    by_cases hin : i < vn
    ·
     obtain ⟨s, c1, off1, hsx, rfl, hlb1, x0, x1, x2, x3, x4, x5, x6, x7, x8⟩ := slT_get HSr.out hin
     obtain ⟨t, hto⟩ : ∃ t, out[i]? = some t := ⟨_, List.getElem?_eq_getElem (by rw [HLO.out, HL.out]; exact hin)⟩
     have hcur := back_cur HLO.out hsx.out hto
     have HST := Lib.hid (back_step HLO.out hsx.out hto)
     obtain ⟨g, c', rest, hde, hgb, hrr, _⟩ := hO.out.at (by have := (List.getElem?_eq_some_iff.1 hcur).1; omega)
     simp only [Value.slice.injEq] at hde
     obtain ⟨rfl, -, -⟩ := hde
     obtain ⟨hgl, hcs, hfr⟩ := own_stay hO.out hcur
     have y8 := hcs 8 _ rfl
     have z8 := hfr (i * 9 + 8)
     have i1 : (0 : Int) ≤ (i : Int) := by omega
     have i2 : (i : Int) < (vn : Int) := by omega
     have HCUR := Lib.hid hcur
     clear hcur hrr hcs hfr hsx hto
     go_wp2_with fail
     refine ⟨⟨i + 1, by omega, by go_num, ?_, hC.out.setCell (by show w8.heap.size ≤ g; omega) _⟩, by simp [intOf]; omega⟩
     show OwnG _ _ _ _ _ _
     rw [← HST.out]
     exact hO.out.put9 HCUR.out (show 8 < 9 by omega) (.bool s.inn) rfl
    ·
     obtain rfl : i = vn := by omega
     have hO2 := hO.out
     have hbl : (backL l out).length = l.length := by unfold backL; simp [HLO.out]
     have hll := HL.out
     rw [List.take_of_length_le (by omega), List.drop_of_length_le (by rw [HLO.out]; omega), List.append_nil] at hO2
     have HOF := Lib.hid hO2
     have hr8l := HR8.out.lt
     have q := HQ9.out.ch hC.out (by omega)
     have u0 := q.cell 0 rfl
     have v0 := q.frozen 0
     have u1 := q.cell 1 rfl
     have v1 := q.frozen 1
     have u2 := q.cell 2 rfl
     have v2 := q.frozen 2
     have u3 := q.cell 3 rfl
     have v3 := q.frozen 3
     have u4 := q.cell 4 rfl
     have v4 := q.frozen 4
     have rl := q.lt
     have HBG : Hid (Below w.heap.size w wr) := hC.out.below HB9.out (fun k hk => by omega) HB9.out.size
     clear hO2 hbl hO hll
     go_wp2_with fail
     refine bodyPost_ret (v := .tuple #[.slice da i dc, zref.val, .bool true, .int .i64 0]) (by simp [results, Tryz.results29, go_sem, u0, u1, u2, u3, u4, rl]) rfl ?_
     have hcq : Ch (fun k => k = r0) wr (((((wr.setCell ⟨r0, 0, none⟩ (.int .i64 0)).setCell ⟨r0, 1, none⟩ (.int .i64 0)).setCell ⟨r0, 2, none⟩ (.slice none 0 0)).setCell ⟨r0, 3, none⟩ (.slice none 0 0)).setCell ⟨r0, 4, none⟩ (.slice none 0 0)) := (((((Ch.refl (fun k => k = r0) wr).setCell (p := ⟨r0, 0, none⟩) rfl _).setCell (p := ⟨r0, 1, none⟩) rfl _).setCell (p := ⟨r0, 2, none⟩) rfl _).setCell (p := ⟨r0, 3, none⟩) rfl _).setCell (p := ⟨r0, 4, none⟩) rfl _
     refine ⟨da, i, dc, zref, .inr ⟨0, rfl, ⟨some out, lm, HPR2.out, .inr (.inr ⟨by omega, out, rfl, rfl, rfl, rfl, ?_⟩)⟩, ?_⟩⟩
     ·
      exact (HOF.out.ch hcq (fun g hg e => by have := (HOF.out.lt hg).1; omega)).mono (by omega)
     ·
      have hbg := HBG.out
      have hbz := hbg.size
      rw [hr0] at hbg
      exact hcq.below hbg (fun k hk => by omega) (by omega)
end
end Go.Proofs.YtlmajlfhjbhdpaaGreat
