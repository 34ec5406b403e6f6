/-
  The walk of package colour's Fits.
-/
import Derived.Test.YtbafhmlmibjgpaaColH
namespace Go.Proofs.Ytbafhmlmibjgpaa
set_option linter.unusedSimpArgs false
set_option linter.unusedVariables false
open Go.RowKit Go.Shelf

attribute [local go_sem] Oper.semAt_some

set_option maxRecDepth 100000 in
set_option maxHeartbeats 1600000 in
theorem Fits_arg (a : Option Addr) (n cap : Nat) (rooms : Int) (w : World) (hr : rooms < 0 ∨ 400 < rooms) :
    Calls Try.prog 16 #[.slice a n cap, .int .i64 rooms] w fun e w' => e = .returned (.tuple #[.slice none 0 0, .slice none 0 0, .int .i64 1]) ∧ Below w.heap.size w w' := by
  by_cases h0 : rooms < 0
  · go_enter Try.func16, Try.ntmps16
    go_wp2_with fail
    refine bodyPost_ret (v := .tuple #[.slice none 0 0, .slice none 0 0, .int .i64 1]) (by simp [results, Try.results16, go_sem]) rfl ⟨rfl, ?_⟩
    (repeat' (first | (with_reducible exact Below.refl _ _) | (with_reducible assumption) | (with_reducible exact Bw.out (by with_reducible assumption)) | (with_reducible refine bw_alloc ?_ _) | (with_reducible refine bw_step ?_ (by with_reducible assumption)) | (with_reducible refine Below.alloc ?_ ?_ _) | (with_reducible refine Below.drew ?_) | (with_reducible refine below_drewN ?_ _) | (with_reducible refine Below.setCell ?_ ?_ _) | (with_reducible refine below_step ?_ (by with_reducible assumption) ?_) | (with_reducible exact Nat.le_refl _) | omega | (simp; omega) | (simp; done)))
  · have h1 : 400 < rooms := by omega
    go_enter Try.func16, Try.ntmps16
    go_wp2_with fail
    refine bodyPost_ret (v := .tuple #[.slice none 0 0, .slice none 0 0, .int .i64 1]) (by simp [results, Try.results16, go_sem]) rfl ⟨rfl, ?_⟩
    (repeat' (first | (with_reducible exact Below.refl _ _) | (with_reducible assumption) | (with_reducible exact Bw.out (by with_reducible assumption)) | (with_reducible refine bw_alloc ?_ _) | (with_reducible refine bw_step ?_ (by with_reducible assumption)) | (with_reducible refine Below.alloc ?_ ?_ _) | (with_reducible refine Below.drew ?_) | (with_reducible refine below_drewN ?_ _) | (with_reducible refine Below.setCell ?_ ?_ _) | (with_reducible refine below_step ?_ (by with_reducible assumption) ?_) | (with_reducible exact Nat.le_refl _) | omega | (simp; omega) | (simp; done)))

set_option maxRecDepth 100000 in
set_option maxHeartbeats 1600000 in
theorem Fits_err (a : Option Addr) (n cap : Nat) (l : List SpV) (rooms : Int) (w : World) (hm : n ≤ 9223372036854775807) (hs : SlP w a n l) (hr0 : 0 ≤ rooms) (hr1 : rooms ≤ 400) (E : Int) (hE : chkE l = E) (h0 : E ≠ 0) :
    Calls Try.prog 16 #[.slice a n cap, .int .i64 rooms] w fun e w' => e = .returned (.tuple #[.slice none 0 0, .slice none 0 0, .int .i64 E]) ∧ Below w.heap.size w w' := by
  have HS := Lib.hid hs
  have HE := Lib.hid hE
  have h1 : (E == 0) = false := by simpa using h0
  have d0 : ¬ rooms < 0 := by omega
  have d1 : ¬ 400 < rooms := by omega
  clear hs hE
  go_enter Try.func16, Try.ntmps16
  go_wp2_with fail
  refine (ccheck_any a n cap l _ hm (HS.out.below (by (repeat' (first | (with_reducible exact Below.refl _ _) | (with_reducible assumption) | (with_reducible exact Bw.out (by with_reducible assumption)) | (with_reducible refine bw_alloc ?_ _) | (with_reducible refine bw_step ?_ (by with_reducible assumption)) | (with_reducible refine Below.alloc ?_ ?_ _) | (with_reducible refine Below.drew ?_) | (with_reducible refine below_drewN ?_ _) | (with_reducible refine Below.setCell ?_ ?_ _) | (with_reducible refine below_step ?_ (by with_reducible assumption) ?_) | (with_reducible exact Nat.le_refl _) | omega | (simp; omega) | (simp; done))))) E HE.out).mono ?_
  rintro e w1 ⟨rfl, hb1⟩
  have R_l_1 : Row w1 (w.heap.size) [.slice a n cap] := by (repeat' (first | (with_reducible assumption) | (with_reducible refine Row.new' _ _ _ (by first | rfl | (simp; done) | omega)) | (with_reducible refine Row.alloc ?_ _) | (with_reducible refine Row.drew ?_) | (with_reducible refine Row.drewN ?_ _) | (with_reducible refine Row.step ?_ (by with_reducible assumption)) | (with_reducible refine Row.set2' ?_ _ _; first | exact ⟨_, _, by with_reducible assumption⟩ | exact ⟨_, _, Row.alloc (by with_reducible assumption) _⟩ | exact ⟨_, _, Row.alloc (Row.alloc (by with_reducible assumption) _) _⟩) | (with_reducible refine Row.other ?_ (by first | omega | (simp; done) | (simp; omega)) _)))
  have c_l_0_1 := R_l_1.cell 0 rfl
  have l_l_1 := R_l_1.lt
  have R_r_1 : Row w1 (w.heap.size + 1) [.int .i64 (rooms)] := by (repeat' (first | (with_reducible assumption) | (with_reducible refine Row.new' _ _ _ (by first | rfl | (simp; done) | omega)) | (with_reducible refine Row.alloc ?_ _) | (with_reducible refine Row.drew ?_) | (with_reducible refine Row.drewN ?_ _) | (with_reducible refine Row.step ?_ (by with_reducible assumption)) | (with_reducible refine Row.set2' ?_ _ _; first | exact ⟨_, _, by with_reducible assumption⟩ | exact ⟨_, _, Row.alloc (by with_reducible assumption) _⟩ | exact ⟨_, _, Row.alloc (Row.alloc (by with_reducible assumption) _) _⟩) | (with_reducible refine Row.other ?_ (by first | omega | (simp; done) | (simp; omega)) _)))
  have c_r_0_1 := R_r_1.cell 0 rfl
  have l_r_1 := R_r_1.lt
  have R_o_1 : Row w1 (w.heap.size + 2) [.slice none 0 0] := by (repeat' (first | (with_reducible assumption) | (with_reducible refine Row.new' _ _ _ (by first | rfl | (simp; done) | omega)) | (with_reducible refine Row.alloc ?_ _) | (with_reducible refine Row.drew ?_) | (with_reducible refine Row.drewN ?_ _) | (with_reducible refine Row.step ?_ (by with_reducible assumption)) | (with_reducible refine Row.set2' ?_ _ _; first | exact ⟨_, _, by with_reducible assumption⟩ | exact ⟨_, _, Row.alloc (by with_reducible assumption) _⟩ | exact ⟨_, _, Row.alloc (Row.alloc (by with_reducible assumption) _) _⟩) | (with_reducible refine Row.other ?_ (by first | omega | (simp; done) | (simp; omega)) _)))
  have c_o_0_1 := R_o_1.cell 0 rfl
  have z_o_0_1 := R_o_1.frozen 0
  have l_o_1 := R_o_1.lt
  have R_c_1 : Row w1 (w.heap.size + 3) [.slice none 0 0] := by (repeat' (first | (with_reducible assumption) | (with_reducible refine Row.new' _ _ _ (by first | rfl | (simp; done) | omega)) | (with_reducible refine Row.alloc ?_ _) | (with_reducible refine Row.drew ?_) | (with_reducible refine Row.drewN ?_ _) | (with_reducible refine Row.step ?_ (by with_reducible assumption)) | (with_reducible refine Row.set2' ?_ _ _; first | exact ⟨_, _, by with_reducible assumption⟩ | exact ⟨_, _, Row.alloc (by with_reducible assumption) _⟩ | exact ⟨_, _, Row.alloc (Row.alloc (by with_reducible assumption) _) _⟩) | (with_reducible refine Row.other ?_ (by first | omega | (simp; done) | (simp; omega)) _)))
  have c_c_0_1 := R_c_1.cell 0 rfl
  have z_c_0_1 := R_c_1.frozen 0
  have l_c_1 := R_c_1.lt
  have R_e_1 : Row w1 (w.heap.size + 4) [.int .i64 (0)] := by (repeat' (first | (with_reducible assumption) | (with_reducible refine Row.new' _ _ _ (by first | rfl | (simp; done) | omega)) | (with_reducible refine Row.alloc ?_ _) | (with_reducible refine Row.drew ?_) | (with_reducible refine Row.drewN ?_ _) | (with_reducible refine Row.step ?_ (by with_reducible assumption)) | (with_reducible refine Row.set2' ?_ _ _; first | exact ⟨_, _, by with_reducible assumption⟩ | exact ⟨_, _, Row.alloc (by with_reducible assumption) _⟩ | exact ⟨_, _, Row.alloc (Row.alloc (by with_reducible assumption) _) _⟩) | (with_reducible refine Row.other ?_ (by first | omega | (simp; done) | (simp; omega)) _)))
  have c_e_0_1 := R_e_1.cell 0 rfl
  have z_e_0_1 := R_e_1.frozen 0
  have l_e_1 := R_e_1.lt
  have HB1 : Below w.heap.size w w1 := by (repeat' (first | (with_reducible exact Below.refl _ _) | (with_reducible assumption) | (with_reducible exact Bw.out (by with_reducible assumption)) | (with_reducible refine bw_alloc ?_ _) | (with_reducible refine bw_step ?_ (by with_reducible assumption)) | (with_reducible refine Below.alloc ?_ ?_ _) | (with_reducible refine Below.drew ?_) | (with_reducible refine below_drewN ?_ _) | (with_reducible refine Below.setCell ?_ ?_ _) | (with_reducible refine below_step ?_ (by with_reducible assumption) ?_) | (with_reducible exact Nat.le_refl _) | omega | (simp; omega) | (simp; done)))
  go_wp2_with fail
  refine bodyPost_ret (v := .tuple #[.slice none 0 0, .slice none 0 0, .int .i64 E]) (by simp [results, Try.results16, go_sem, c_o_0_1, c_c_0_1, c_e_0_1, l_o_1, l_c_1, l_e_1]) rfl ⟨rfl, ?_⟩
  (repeat' (first | (with_reducible exact Below.refl _ _) | (with_reducible assumption) | (with_reducible exact Bw.out (by with_reducible assumption)) | (with_reducible refine bw_alloc ?_ _) | (with_reducible refine bw_step ?_ (by with_reducible assumption)) | (with_reducible refine Below.alloc ?_ ?_ _) | (with_reducible refine Below.drew ?_) | (with_reducible refine below_drewN ?_ _) | (with_reducible refine Below.setCell ?_ ?_ _) | (with_reducible refine below_step ?_ (by with_reducible assumption) ?_) | (with_reducible exact Nat.le_refl _) | omega | (simp; omega) | (simp; done)))

def fitF (l : List SpV) (rooms : Int) : Option (Int × Int) := (htY l l.length).find? (fun y => decide (rooms < y.2))
def fitA (l : List SpV) (rooms : Int) : List Int := match fitF l rooms with
  | none => colO l
  | some _ => []
def fitB (l : List SpV) (rooms : Int) : List Int := match fitF l rooms with
  | none => []
  | some y => (onL l y.1).take (rooms.toNat + 1)
theorem find_none {α : Type} (p : α → Bool) {zs : List α} (h : ∀ y ∈ zs, p y = false) : zs.find? p = none := by
  rw [List.find?_eq_none]
  intro y hy; rw [h y hy]; simp
theorem find_at {α : Type} (p : α → Bool) {pre zs : List α} {x : α} (h : ∀ y ∈ pre, p y = false) (hx : p x = true) (hp : pre ++ [x] <+: zs) : zs.find? p = some x := by
  obtain ⟨r, rfl⟩ := hp
  rw [List.find?_append, List.find?_append, find_none p h]
  simp [hx]

/-- What holds between two rounds; where it is left. -/
def InvF (rooms : Int) (w3 : World) (base : Nat) (pre : List (Int × Int)) (wr : World) : Prop := (∀ y ∈ pre, y.2 ≤ rooms) ∧ Below base w3 wr
theorem invF_abide {rooms : Int} {w3 : World} {B : Nat} : Abide B (InvF rooms w3 B) := fun s X Y h hb => ⟨h.1, h.2.trans hb⟩
def OutF (l : List SpV) (rooms : Int) (w : World) (o : Nat) (cx : Code) (pre : List (Int × Int)) (wr : World) : Prop :=
  cx = .ret ∧ ∃ pre' x v, pre = pre' ++ [x] ∧ (∀ y ∈ pre', y.2 ≤ rooms) ∧ rooms < x.2 ∧ Row wr o [.slice none 0 0] ∧ Row wr (o + 1) [v] ∧ Row wr (o + 2) [.int .i64 0] ∧ SlV wr v ((onL l x.1).take (rooms.toNat + 1)) ∧ Below w.heap.size w wr
theorem SlV.put {w : World} {v : Value} {zs : List Int} {D : Nat} {o o' : Obj} (h : SlV w v zs) (hl : w.heap[D]? = some o) (ho : o.isCells = false) : SlV (w.putObj D o') v zs := by
  obtain ⟨ad, cp, e, h1, h2⟩ := h
  exact ⟨ad, cp, e, h1.keepsO (KeepsO.putObj (own := fun _ _ => False) _ hl ho (fun _ h => h)) (fun _ _ _ h => h), h2⟩
theorem Row.put {w : World} {b D : Nat} {cs : List Value} {o o' : Obj} (h : Row w b cs) (hl : w.heap[D]? = some o) (ho : o.isCells = false) : Row (w.putObj D o') b cs :=
  h.keepsO (KeepsO.putObj (own := fun _ _ => False) _ hl ho (fun _ h => h)) (fun h => h)
theorem Below.put {w0 w : World} {b D : Nat} {o o' : Obj} (h : Below b w0 w) (hl : w.heap[D]? = some o) (hD : b ≤ D) : Below b w0 (w.putObj D o') := h.trans (below_put _ hD hl)
theorem outF_stay {l : List SpV} {rooms : Int} {w : World} {o B : Nat} (hw : w.heap.size ≤ B) (cx : Code) : Stay B (OutF l rooms w o cx) := by
  rintro pre W D x x' hD hl hc ⟨rfl, pre', y, v, rfl, h1, h2, r1, r2, r3, h4, h5⟩
  exact ⟨rfl, pre', y, v, rfl, h1, h2, r1.put hl hc, r2.put hl hc, r3.put hl hc, h4.put hl hc, Below.put h5 hl (by omega)⟩

/-- A region within a round that draws and does not panic. -/
theorem AnyJ.beginI {P : Program} {ops : Array Oper} {Q : Exit → Act → World → Prop} {l n id : Nat} {a : Act} {w : World} (S : World → Prop) (J : Nat → Bool) (hm : P.follows .mixedOrders = true) (ht : tameOps ops = true) (hS : S w.drew)
    (h : S w.drew → AnyJ P .any ops (fun e a w => e = .normal ∧ Q .normal a w) S J ops.size (Array.replicate ops.size false) a w.drew) : (Code.region id ops true).wpIn (Fence.wide.inRound l) n P Q a w :=
  wpIn_mono (AnyJ.begin S J hm ht (by rintro ⟨a, w, h, _⟩; cases h) (h hS)) (fun e a w h => by obtain ⟨rfl, h⟩ := h; exact h)
theorem Row.set0 {w : World} {b : Nat} {u : Value} (h : Row w b [u]) (v : Value) : Row (w.setCell ⟨b, 0, none⟩ v) b [v] := by
  obtain ⟨T, hT⟩ := h
  exact ⟨T, by simp [World.setCell, Array.getElem?_modify, hT]⟩
theorem Row.oth {w : World} {b c : Nat} {cs : List Value} (h : Row w b cs) (hne : b ≠ c) (v : Value) : Row (w.setCell ⟨c, 0, none⟩ v) b cs := h.of_block (Below.heap_setCell _ _ _ _ hne)
theorem SlV.oth {w : World} {u : Value} {zs : List Int} (h : SlV w u zs) {base c : Nat} (hv : ∀ g o, (∃ n cap, u = .slice (some ⟨g, o, none⟩) n cap) → base ≤ g) (hc : c < base) (v : Value) : SlV (w.setCell ⟨c, 0, none⟩ v) u zs := by
  obtain ⟨ad, cp, rfl, h1, h2⟩ := h
  refine ⟨ad, cp, rfl, ⟨h1.1, fun i hi => ?_⟩, h2⟩
  obtain ⟨b, off, ha, hcell⟩ := h1.2 i hi
  subst ha
  have hb := hv b off ⟨_, _, rfl⟩
  exact ⟨b, off, rfl, (World.cell?_of_block (Below.heap_setCell _ _ _ _ (show b ≠ c by omega))).trans hcell⟩
theorem Ch.of_below {o : Nat → Prop} {A C : World} (h : Below A.heap.size A C) : Ch o A C := ⟨h.os, h.tape, h.output, h.size, fun k hk _ => h.block k hk⟩
set_option maxRecDepth 100000 in
set_option maxHeartbeats 6400000 in
theorem Fits_nat (a : Option Addr) (n cap : Nat) (l : List SpV) (R : Nat) (rooms : Int) (w : World) (hm : n ≤ 3000) (hs : SlP w a n l) (hr0 : rooms = R) (hr1 : rooms ≤ 400) (hE : chkE l = 0) :
    Calls Try.prog 16 #[.slice a n cap, .int .i64 rooms] w fun e w' => ∃ v1 v2, e = .returned (.tuple #[v1, v2, .int .i64 0]) ∧ SlV w' v1 (fitA l rooms) ∧ SlV w' v2 (fitB l rooms) ∧ Below w.heap.size w w' := by
  have HS := Lib.hid hs
  have HE := Lib.hid hE
  have HL := Lib.hid hs.1
  have HLT : Hid (∀ b o, a = some ⟨b, o, none⟩ → 0 < n → b < w.heap.size) := fun b o e h0 => by
    obtain ⟨_, _, b9, o9, _, _, _, e9, h9, _, _⟩ := hs.get h0
    rw [e] at e9
    cases e9
    exact h9
  have d0 : ¬ rooms < 0 := by omega
  obtain ⟨R1, hR1⟩ : ∃ R1, R + 1 = R1 := ⟨_, rfl⟩
  have HW : Hid (IntKind.i64.wrap (rooms + 1) = (R1 : Int)) := by show _ = _; rw [IntWalk.i64_in _ (by omega)]; omega
  have HR : Hid (rooms = (R : Int)) := hr0
  have HR1 : Hid (rooms.toNat + 1 = R1) := by show _ = _; omega
  have d1 : ¬ 400 < rooms := by omega
  clear hs hE hr0
  refine calls_of_wp_marks Try.func16 rfl ?_
  simp only [Try.ntmps16, List.size_toArray, List.length_cons, List.length_nil, Nat.reduceAdd, Nat.reduceSub, Array.replicate_succ, Array.replicate_zero, List.push_toArray, List.append_toArray, List.nil_append, List.cons_append]
  go_wp2_with fail
  refine (ccheck_any a n cap l _ (by omega) (HS.out.below (by (repeat' (first | (with_reducible exact Below.refl _ _) | (with_reducible assumption) | (with_reducible exact Bw.out (by with_reducible assumption)) | (with_reducible refine bw_alloc ?_ _) | (with_reducible refine bw_step ?_ (by with_reducible assumption)) | (with_reducible refine Below.alloc ?_ ?_ _) | (with_reducible refine Below.drew ?_) | (with_reducible refine below_drewN ?_ _) | (with_reducible refine Below.setCell ?_ ?_ _) | (with_reducible refine below_step ?_ (by with_reducible assumption) ?_) | (with_reducible exact Nat.le_refl _) | omega | (simp; omega) | (simp; done))))) 0 HE.out).mono ?_
  rintro e w1 ⟨rfl, hb1⟩
  have R_l_1 : Row w1 (w.heap.size) [.slice a n cap] := by (repeat' (first | (with_reducible assumption) | (with_reducible refine Row.new' _ _ _ (by first | rfl | (simp; done) | omega)) | (with_reducible refine Row.alloc ?_ _) | (with_reducible refine Row.drew ?_) | (with_reducible refine Row.drewN ?_ _) | (with_reducible refine Row.step ?_ (by with_reducible assumption)) | (with_reducible refine Row.set2' ?_ _ _; first | exact ⟨_, _, by with_reducible assumption⟩ | exact ⟨_, _, Row.alloc (by with_reducible assumption) _⟩ | exact ⟨_, _, Row.alloc (Row.alloc (by with_reducible assumption) _) _⟩) | (with_reducible refine Row.other ?_ (by first | omega | (simp; done) | (simp; omega)) _)))
  have c_l_0_1 := R_l_1.cell 0 rfl
  have l_l_1 := R_l_1.lt
  have R_r_1 : Row w1 (w.heap.size + 1) [.int .i64 (rooms)] := by (repeat' (first | (with_reducible assumption) | (with_reducible refine Row.new' _ _ _ (by first | rfl | (simp; done) | omega)) | (with_reducible refine Row.alloc ?_ _) | (with_reducible refine Row.drew ?_) | (with_reducible refine Row.drewN ?_ _) | (with_reducible refine Row.step ?_ (by with_reducible assumption)) | (with_reducible refine Row.set2' ?_ _ _; first | exact ⟨_, _, by with_reducible assumption⟩ | exact ⟨_, _, Row.alloc (by with_reducible assumption) _⟩ | exact ⟨_, _, Row.alloc (Row.alloc (by with_reducible assumption) _) _⟩) | (with_reducible refine Row.other ?_ (by first | omega | (simp; done) | (simp; omega)) _)))
  have c_r_0_1 := R_r_1.cell 0 rfl
  have l_r_1 := R_r_1.lt
  have R_o_1 : Row w1 (w.heap.size + 2) [.slice none 0 0] := by (repeat' (first | (with_reducible assumption) | (with_reducible refine Row.new' _ _ _ (by first | rfl | (simp; done) | omega)) | (with_reducible refine Row.alloc ?_ _) | (with_reducible refine Row.drew ?_) | (with_reducible refine Row.drewN ?_ _) | (with_reducible refine Row.step ?_ (by with_reducible assumption)) | (with_reducible refine Row.set2' ?_ _ _; first | exact ⟨_, _, by with_reducible assumption⟩ | exact ⟨_, _, Row.alloc (by with_reducible assumption) _⟩ | exact ⟨_, _, Row.alloc (Row.alloc (by with_reducible assumption) _) _⟩) | (with_reducible refine Row.other ?_ (by first | omega | (simp; done) | (simp; omega)) _)))
  have c_o_0_1 := R_o_1.cell 0 rfl
  have z_o_0_1 := R_o_1.frozen 0
  have l_o_1 := R_o_1.lt
  have R_c_1 : Row w1 (w.heap.size + 3) [.slice none 0 0] := by (repeat' (first | (with_reducible assumption) | (with_reducible refine Row.new' _ _ _ (by first | rfl | (simp; done) | omega)) | (with_reducible refine Row.alloc ?_ _) | (with_reducible refine Row.drew ?_) | (with_reducible refine Row.drewN ?_ _) | (with_reducible refine Row.step ?_ (by with_reducible assumption)) | (with_reducible refine Row.set2' ?_ _ _; first | exact ⟨_, _, by with_reducible assumption⟩ | exact ⟨_, _, Row.alloc (by with_reducible assumption) _⟩ | exact ⟨_, _, Row.alloc (Row.alloc (by with_reducible assumption) _) _⟩) | (with_reducible refine Row.other ?_ (by first | omega | (simp; done) | (simp; omega)) _)))
  have c_c_0_1 := R_c_1.cell 0 rfl
  have z_c_0_1 := R_c_1.frozen 0
  have l_c_1 := R_c_1.lt
  have R_e_1 : Row w1 (w.heap.size + 4) [.int .i64 (0)] := by (repeat' (first | (with_reducible assumption) | (with_reducible refine Row.new' _ _ _ (by first | rfl | (simp; done) | omega)) | (with_reducible refine Row.alloc ?_ _) | (with_reducible refine Row.drew ?_) | (with_reducible refine Row.drewN ?_ _) | (with_reducible refine Row.step ?_ (by with_reducible assumption)) | (with_reducible refine Row.set2' ?_ _ _; first | exact ⟨_, _, by with_reducible assumption⟩ | exact ⟨_, _, Row.alloc (by with_reducible assumption) _⟩ | exact ⟨_, _, Row.alloc (Row.alloc (by with_reducible assumption) _) _⟩) | (with_reducible refine Row.other ?_ (by first | omega | (simp; done) | (simp; omega)) _)))
  have c_e_0_1 := R_e_1.cell 0 rfl
  have z_e_0_1 := R_e_1.frozen 0
  have l_e_1 := R_e_1.lt
  have HB1 : Below w.heap.size w w1 := by (repeat' (first | (with_reducible exact Below.refl _ _) | (with_reducible assumption) | (with_reducible exact Bw.out (by with_reducible assumption)) | (with_reducible refine bw_alloc ?_ _) | (with_reducible refine bw_step ?_ (by with_reducible assumption)) | (with_reducible refine Below.alloc ?_ ?_ _) | (with_reducible refine Below.drew ?_) | (with_reducible refine below_drewN ?_ _) | (with_reducible refine Below.setCell ?_ ?_ _) | (with_reducible refine below_step ?_ (by with_reducible assumption) ?_) | (with_reducible exact Nat.le_refl _) | omega | (simp; omega) | (simp; done)))
  go_wp2_with fail
  refine (heights_any a n cap _).mono ?_
  rintro e w2 ⟨B, rfl, hB, RB, hb2⟩
  have R_l_2 : Row w2 (w.heap.size) [.slice a n cap] := by (repeat' (first | (with_reducible assumption) | (with_reducible refine Row.new' _ _ _ (by first | rfl | (simp; done) | omega)) | (with_reducible refine Row.alloc ?_ _) | (with_reducible refine Row.drew ?_) | (with_reducible refine Row.drewN ?_ _) | (with_reducible refine Row.step ?_ (by with_reducible assumption)) | (with_reducible refine Row.set2' ?_ _ _; first | exact ⟨_, _, by with_reducible assumption⟩ | exact ⟨_, _, Row.alloc (by with_reducible assumption) _⟩ | exact ⟨_, _, Row.alloc (Row.alloc (by with_reducible assumption) _) _⟩) | (with_reducible refine Row.other ?_ (by first | omega | (simp; done) | (simp; omega)) _)))
  have c_l_0_2 := R_l_2.cell 0 rfl
  have l_l_2 := R_l_2.lt
  have R_r_2 : Row w2 (w.heap.size + 1) [.int .i64 (rooms)] := by (repeat' (first | (with_reducible assumption) | (with_reducible refine Row.new' _ _ _ (by first | rfl | (simp; done) | omega)) | (with_reducible refine Row.alloc ?_ _) | (with_reducible refine Row.drew ?_) | (with_reducible refine Row.drewN ?_ _) | (with_reducible refine Row.step ?_ (by with_reducible assumption)) | (with_reducible refine Row.set2' ?_ _ _; first | exact ⟨_, _, by with_reducible assumption⟩ | exact ⟨_, _, Row.alloc (by with_reducible assumption) _⟩ | exact ⟨_, _, Row.alloc (Row.alloc (by with_reducible assumption) _) _⟩) | (with_reducible refine Row.other ?_ (by first | omega | (simp; done) | (simp; omega)) _)))
  have c_r_0_2 := R_r_2.cell 0 rfl
  have l_r_2 := R_r_2.lt
  have R_o_2 : Row w2 (w.heap.size + 2) [.slice none 0 0] := by (repeat' (first | (with_reducible assumption) | (with_reducible refine Row.new' _ _ _ (by first | rfl | (simp; done) | omega)) | (with_reducible refine Row.alloc ?_ _) | (with_reducible refine Row.drew ?_) | (with_reducible refine Row.drewN ?_ _) | (with_reducible refine Row.step ?_ (by with_reducible assumption)) | (with_reducible refine Row.set2' ?_ _ _; first | exact ⟨_, _, by with_reducible assumption⟩ | exact ⟨_, _, Row.alloc (by with_reducible assumption) _⟩ | exact ⟨_, _, Row.alloc (Row.alloc (by with_reducible assumption) _) _⟩) | (with_reducible refine Row.other ?_ (by first | omega | (simp; done) | (simp; omega)) _)))
  have c_o_0_2 := R_o_2.cell 0 rfl
  have z_o_0_2 := R_o_2.frozen 0
  have l_o_2 := R_o_2.lt
  have R_c_2 : Row w2 (w.heap.size + 3) [.slice none 0 0] := by (repeat' (first | (with_reducible assumption) | (with_reducible refine Row.new' _ _ _ (by first | rfl | (simp; done) | omega)) | (with_reducible refine Row.alloc ?_ _) | (with_reducible refine Row.drew ?_) | (with_reducible refine Row.drewN ?_ _) | (with_reducible refine Row.step ?_ (by with_reducible assumption)) | (with_reducible refine Row.set2' ?_ _ _; first | exact ⟨_, _, by with_reducible assumption⟩ | exact ⟨_, _, Row.alloc (by with_reducible assumption) _⟩ | exact ⟨_, _, Row.alloc (Row.alloc (by with_reducible assumption) _) _⟩) | (with_reducible refine Row.other ?_ (by first | omega | (simp; done) | (simp; omega)) _)))
  have c_c_0_2 := R_c_2.cell 0 rfl
  have z_c_0_2 := R_c_2.frozen 0
  have l_c_2 := R_c_2.lt
  have R_e_2 : Row w2 (w.heap.size + 4) [.int .i64 (0)] := by (repeat' (first | (with_reducible assumption) | (with_reducible refine Row.new' _ _ _ (by first | rfl | (simp; done) | omega)) | (with_reducible refine Row.alloc ?_ _) | (with_reducible refine Row.drew ?_) | (with_reducible refine Row.drewN ?_ _) | (with_reducible refine Row.step ?_ (by with_reducible assumption)) | (with_reducible refine Row.set2' ?_ _ _; first | exact ⟨_, _, by with_reducible assumption⟩ | exact ⟨_, _, Row.alloc (by with_reducible assumption) _⟩ | exact ⟨_, _, Row.alloc (Row.alloc (by with_reducible assumption) _) _⟩) | (with_reducible refine Row.other ?_ (by first | omega | (simp; done) | (simp; omega)) _)))
  have c_e_0_2 := R_e_2.cell 0 rfl
  have z_e_0_2 := R_e_2.frozen 0
  have l_e_2 := R_e_2.lt
  have HB2 : Below w.heap.size w w2 := by (repeat' (first | (with_reducible exact Below.refl _ _) | (with_reducible assumption) | (with_reducible exact Bw.out (by with_reducible assumption)) | (with_reducible refine bw_alloc ?_ _) | (with_reducible refine bw_step ?_ (by with_reducible assumption)) | (with_reducible refine Below.alloc ?_ ?_ _) | (with_reducible refine Below.drew ?_) | (with_reducible refine below_drewN ?_ _) | (with_reducible refine Below.setCell ?_ ?_ _) | (with_reducible refine below_step ?_ (by with_reducible assumption) ?_) | (with_reducible exact Nat.le_refl _) | omega | (simp; omega) | (simp; done)))
  clear R_l_1 c_l_0_1 R_r_1 c_r_0_1 R_o_1 c_o_0_1 z_o_0_1 R_c_1 c_c_0_1 z_c_0_1 R_e_1 c_e_0_1 z_e_0_1 hb1 HB1
  have HS2 : Hid (SlP w2 a n l) := HS.out.below HB2
  have hstops := heights_stops (fun _ => False) 5 (by omega) B a n cap l w2 RB HS2.out hm (fun k hk => hk.elim)
  have HST := Lib.hid hstops
  have HBB := Lib.hid HB2
  clear hstops RB hb2 HB2
  go_wp2_with fail
  have hlw := R_l_2
  have hrw := R_r_2
  have how := R_o_2
  have hcw := R_c_2
  have hew := R_e_2
  have hs2 := HBB.out.size
  have hl2 := R_e_2.lt
  clear R_l_2 R_r_2 R_o_2 R_c_2 R_e_2 c_l_0_2 c_r_0_2 c_o_0_2 c_c_0_2 c_e_0_2
  refine (wpIn_wide (n := 6)).1 ?_
  refine range_own (w0 := w2) (α := Int × Int) rfl (by omega) rfl trivial (enters_of Try.func37 (by kernel_rfl) rfl) HST.out (fun h k => h.trans k)
    (fun Wx l o o' hl ho hc hwk => KeepsO.putObj o' ho hc (fun k hk => hk))
    (Below.refl _ _) (fun _ => rfl)
    (InvF rooms w2 w2.heap.size) (OutF l rooms w (w.heap.size + 2)) invF_abide (outF_stay hs2)
    ⟨fun y hy => by simp at hy, Below.refl _ _⟩
    (fun x => { tmps := #[.slice a n cap, .int .i64 rooms, .pointer (some ⟨w.heap.size, 0, none⟩), .pointer (some ⟨w.heap.size + 1, 0, none⟩), .pointer (some ⟨w.heap.size + 1 + 1, 0, none⟩), .pointer (some ⟨w.heap.size + 1 + 1 + 1, 0, none⟩), .pointer (some ⟨w.heap.size + 1 + 1 + 1 + 1, 0, none⟩), .int .i64 0, .int .i64 x.1, .int .i64 x.2, .int .i64 rooms, .bool false, .bool false, .int .i64 rooms, .bool false, .bool false, .slice a n cap, .int .i64 0, .int .i64 0, .bool false, undef, .slice a n cap, .func (.func 37) #[] #[.pointer (some ⟨B, 0, none⟩)], .int .i64 x.1, .int .i64 x.2, undef, undef, undef, undef, undef, undef, undef, undef, undef, undef, undef, undef, undef, undef, undef, undef, undef, undef, undef], defers := [] }) ?assign ?body ?done ?stop
  case assign =>
    intro l x W K hK
    gi_wp2
    exact hK
  case body =>
    rintro lx pre x W ⟨q1, q2⟩ hsp hpl
    have RL := hlw.of_block (q2.block _ (by omega))
    have RR := hrw.of_block (q2.block _ (by omega))
    have RO := how.of_block (q2.block _ (by omega))
    have RC := hcw.of_block (q2.block _ (by omega))
    have RE := hew.of_block (q2.block _ (by omega))
    have HRO := Lib.hid RO
    have HRC := Lib.hid RC
    have HRE := Lib.hid RE
    have cL := RL.cell 0 rfl
    have cR := RR.cell 0 rfl
    by_cases hlt : rooms < x.2
    · have hxm : x ∈ htY l l.length := by
        rw [HL.out]
        exact hsp.subset (by simp)
      obtain ⟨j, _, hxe, _⟩ := htY_mem (chkE_ok HE.out).1 _ (Nat.le_refl _) x hxm
      have hxc : x.2 = (onL l x.1).length := by rw [hxe]; rfl
      have hlen : R1 ≤ (onL l x.1).length := by have := HR.out; omega
      have HSW : Hid (SlP W a n l) := HS2.out.below q2
      have HX := Lib.hid hlt
      have HQ := Lib.hid q1
      have HQ2 := Lib.hid q2
      have HBW : Hid (Below w.heap.size w W) := HBB.out.trans (q2.mono hs2)
      have hsW := q2.size
      have HLEN := Lib.hid hlen
      clear hxm hxe hxc q1 q2 hlen
      gi_wp2_with fail
      refine AnyJ.beginI (fun w' : World => w'.cell? ⟨w.heap.size, 0, none⟩ = some (.slice a n cap) ∧ w'.cell? ⟨w.heap.size + 1, 0, none⟩ = some (.int .i64 rooms)) (fun j => decide (j ≤ 8)) (by kernel_rfl) (by kernel_rfl) ⟨cL, cR⟩ (fun hS => ?_)
      refine AnyJ.takeD (i := 0) (d := some 28) (v := ?_) rfl (by kernel_rfl) (by kernel_rfl) (by kernel_rfl) (by kernel_rfl) (by kernel_rfl) (fun _ _ _ h => by cases h.1) (Or.inl ⟨by kernel_rfl, ?_⟩) hS ?_
      rotate_left
      · intro w' hS
        obtain ⟨sF0, sF1⟩ := hS
        go_simp
        try with_reducible rfl
      refine AnyJ.takeD (i := 1) (d := some 29) (v := ?_) rfl (by kernel_rfl) (by kernel_rfl) (by kernel_rfl) (by kernel_rfl) (by kernel_rfl) (fun _ _ _ h => by cases h.1) (Or.inl ⟨by kernel_rfl, ?_⟩) hS ?_
      rotate_left
      · intro w' hS
        obtain ⟨sF0, sF1⟩ := hS
        go_simp
        try with_reducible rfl
      refine AnyJ.takeD (i := 3) (d := some 31) (v := ?_) rfl (by kernel_rfl) (by kernel_rfl) (by kernel_rfl) (by kernel_rfl) (by kernel_rfl) (fun _ _ _ h => by cases h.1) (Or.inl ⟨by kernel_rfl, ?_⟩) hS ?_
      rotate_left
      · intro w' hS
        obtain ⟨sF0, sF1⟩ := hS
        go_simp
        try with_reducible rfl
      refine AnyJ.takeD (i := 4) (d := some 32) (v := ?_) rfl (by kernel_rfl) (by kernel_rfl) (by kernel_rfl) (by kernel_rfl) (by kernel_rfl) (fun _ _ _ h => by cases h.1) (Or.inl ⟨by kernel_rfl, ?_⟩) hS ?_
      rotate_left
      · intro w' hS
        obtain ⟨sF0, sF1⟩ := hS
        go_simp
        simp only [HW.out]
        try with_reducible rfl
      refine AnyJ.takeD (i := 5) (d := some 33) (v := ?_) rfl (by kernel_rfl) (by kernel_rfl) (by kernel_rfl) (by kernel_rfl) (by kernel_rfl) (fun _ _ _ h => by cases h.1) (Or.inl ⟨by kernel_rfl, ?_⟩) hS ?_
      rotate_left
      · intro w' hS
        obtain ⟨sF0, sF1⟩ := hS
        go_simp
        try with_reducible rfl
      refine AnyJ.takeD (i := 6) (d := some 34) (v := ?_) rfl (by kernel_rfl) (by kernel_rfl) (by kernel_rfl) (by kernel_rfl) (by kernel_rfl) (fun _ _ _ h => by cases h.1) (Or.inl ⟨by kernel_rfl, ?_⟩) hS ?_
      rotate_left
      · intro w' hS
        obtain ⟨sF0, sF1⟩ := hS
        go_simp
        simp only [HW.out]
        try with_reducible rfl
      refine AnyJ.one (i := 2) (by kernel_rfl) rfl (fun Kz hKz => ?_)
      go_simp
      refine (on_any a n cap l x.1 _ (by omega) (show SlP W.drew a n l from HSW.out)).mono ?_
      rintro e w4 ⟨v, rfl, hv, hb4⟩
      have hs4 : W.heap.size ≤ w4.heap.size := hb4.size
      obtain ⟨g, cp, rfl, hg, hOI, hcp, hcm⟩ := hv.ownC (c := 0) (by have := HLEN.out; omega)
      obtain ⟨mm, hmm⟩ : ∃ mm, (onL l x.1).length = mm := ⟨_, rfl⟩
      have hlen := HLEN.out
      rw [hmm] at hcp hlen ⊢
      unfold maxLen at hcm
      have hWd : W.drew.heap.size = W.heap.size := rfl
      rw [hWd] at hg
      have L4 := (RL.of_block (w' := W.drew) rfl).step hb4
      have R4 := (RR.of_block (w' := W.drew) rfl).step hb4
      have O4 := (RO.of_block (w' := W.drew) rfl).step hb4
      have C4 := (RC.of_block (w' := W.drew) rfl).step hb4
      have E4 := (RE.of_block (w' := W.drew) rfl).step hb4
      have HB4 : Hid (Below W.heap.size W w4) := (Below.refl _ W).drew.trans hb4
      have hSV : Hid (SlI w4 (some ⟨g, 0, none⟩) R1 ((onL l x.1).take R1)) := (hOI.take R1).sl (by rw [List.length_take]; omega)
      refine hKz _ _ (fun _ => ⟨L4.cell 0 rfl, R4.cell 0 rfl⟩) ?_
      have hS4 : w4.cell? ⟨w.heap.size, 0, none⟩ = some (.slice a n cap) ∧ w4.cell? ⟨w.heap.size + 1, 0, none⟩ = some (.int .i64 rooms) := ⟨L4.cell 0 rfl, R4.cell 0 rfl⟩
      clear hKz Kz hv hb4 hS HSW hOI hmm hWd HLEN RL RR RO RC RE cL cR
      have k1 : (0 : Int) ≤ (R1 : Int) := by omega
      have k2 : (R1 : Int) ≤ (cp : Int) := by omega
      refine AnyJ.takeD (i := 7) (d := some 35) (v := ?_) rfl (by kernel_rfl) (by kernel_rfl) (by kernel_rfl) (by kernel_rfl) (by kernel_rfl) (fun _ _ _ h => by cases h.1) (Or.inl ⟨by kernel_rfl, ?_⟩) hS4 ?_
      rotate_left
      · intro w' hS
        obtain ⟨sF0, sF1⟩ := hS
        go_simp
        try with_reducible rfl
      have z1 : w4.cell? ⟨w.heap.size + 1 + 1, 0, none⟩ = some (.slice none 0 0) := O4.cell 0 rfl
      have z2 : w4.frozen? ⟨w.heap.size + 1 + 1, 0, none⟩ = false := O4.frozen 0
      have z3 : w.heap.size + 1 + 1 < w4.heap.size := O4.lt
      refine AnyJ.one (i := 8) (by kernel_rfl) rfl (fun Kz hKz => ?_)
      go_simp
      clear z1 z2 z3
      obtain ⟨w5, hw5⟩ : ∃ W, w4.setCell ⟨w.heap.size + 1 + 1, 0, none⟩ (.slice none 0 0) = W := ⟨_, rfl⟩
      rw [hw5]
      have L5 : Row w5 w.heap.size [.slice a n cap] := by rw [← hw5]; exact L4.oth (by omega) _
      have R5 : Row w5 (w.heap.size + 1) [.int .i64 rooms] := by rw [← hw5]; exact R4.oth (by omega) _
      have O5 : Row w5 (w.heap.size + 2) [.slice none 0 0] := by rw [← hw5]; exact O4.set0 _
      have C5 : Row w5 (w.heap.size + 3) [.slice none 0 0] := by rw [← hw5]; exact C4.oth (by omega) _
      have E5 : Row w5 (w.heap.size + 4) [.int .i64 0] := by rw [← hw5]; exact E4.oth (by omega) _
      have V5 : SlV w5 (.slice (some ⟨g, 0, none⟩) R1 R1) ((onL l x.1).take R1) := by
        have hl : ((onL l x.1).take R1).length = R1 := by have := hSV.out.1; exact this
        rw [← hw5]
        exact SlV.oth (base := W.heap.size) ⟨_, R1, by rw [hl], by rw [hl]; exact hSV.out, by rw [hl]; exact Nat.le_refl _, by unfold maxLen; omega⟩ (fun g' o h => by obtain ⟨_, _, h⟩ := h; cases h; exact hg) (by omega) _
      refine hKz _ _ (fun _ => ⟨L5.cell 0 rfl, R5.cell 0 rfl⟩) ?_
      clear hKz Kz hS4 L4 R4 O4 C4 E4
      have hC5 : Ch (fun k => k = w.heap.size + 2 ∨ k = w.heap.size + 3 ∨ k = w.heap.size + 4) W w5 := by
        rw [← hw5]
        exact ((Ch.refl (fun k => k = w.heap.size + 2 ∨ k = w.heap.size + 3 ∨ k = w.heap.size + 4) W).trans (Ch.of_below HB4.out)).setCell (p := ⟨w.heap.size + 1 + 1, 0, none⟩) (Or.inl rfl) _
      clear hw5
      have z1 : w5.cell? ⟨w.heap.size + 1 + 1 + 1, 0, none⟩ = some (.slice none 0 0) := C5.cell 0 rfl
      have z2 : w5.frozen? ⟨w.heap.size + 1 + 1 + 1, 0, none⟩ = false := C5.frozen 0
      have z3 : w.heap.size + 1 + 1 + 1 < w5.heap.size := C5.lt
      refine AnyJ.one (i := 9) (by kernel_rfl) rfl (fun Kz hKz => ?_)
      go_simp
      clear z1 z2 z3
      obtain ⟨w6, hw6⟩ : ∃ W, w5.setCell ⟨w.heap.size + 1 + 1 + 1, 0, none⟩ (.slice (some ⟨g, 0, none⟩) R1 R1) = W := ⟨_, rfl⟩
      rw [hw6]
      have O6 : Row w6 (w.heap.size + 2) [.slice none 0 0] := by rw [← hw6]; exact O5.oth (by omega) _
      have C6 : Row w6 (w.heap.size + 3) [.slice (some ⟨g, 0, none⟩) R1 R1] := by rw [← hw6]; exact C5.set0 _
      have E6 : Row w6 (w.heap.size + 4) [.int .i64 0] := by rw [← hw6]; exact E5.oth (by omega) _
      have V6 : SlV w6 (.slice (some ⟨g, 0, none⟩) R1 R1) ((onL l x.1).take R1) := by
        rw [← hw6]
        exact V5.oth (base := W.heap.size) (fun g' o h => by obtain ⟨_, _, h⟩ := h; cases h; exact hg) (by omega) _
      have hC6 : Ch (fun k => k = w.heap.size + 2 ∨ k = w.heap.size + 3 ∨ k = w.heap.size + 4) W w6 := by
        rw [← hw6]
        exact hC5.setCell (p := ⟨w.heap.size + 1 + 1 + 1, 0, none⟩) (Or.inr (Or.inl rfl)) _
      refine hKz _ _ (fun h => by simp at h) ?_
      clear hKz Kz hw6 hC5 V5 L5 R5 O5 C5 E5
      have z1 : w6.cell? ⟨w.heap.size + 1 + 1 + 1 + 1, 0, none⟩ = some (.int .i64 0) := E6.cell 0 rfl
      have z2 : w6.frozen? ⟨w.heap.size + 1 + 1 + 1 + 1, 0, none⟩ = false := E6.frozen 0
      have z3 : w.heap.size + 1 + 1 + 1 + 1 < w6.heap.size := E6.lt
      refine AnyJ.one (i := 10) (by kernel_rfl) rfl (fun Kz hKz => ?_)
      go_simp
      clear z1 z2 z3
      obtain ⟨w7, hw7⟩ : ∃ W, w6.setCell ⟨w.heap.size + 1 + 1 + 1 + 1, 0, none⟩ (.int .i64 0) = W := ⟨_, rfl⟩
      rw [hw7]
      have O7 : Row w7 (w.heap.size + 2) [.slice none 0 0] := by rw [← hw7]; exact O6.oth (by omega) _
      have C7 : Row w7 (w.heap.size + 3) [.slice (some ⟨g, 0, none⟩) R1 R1] := by rw [← hw7]; exact C6.oth (by omega) _
      have E7 : Row w7 (w.heap.size + 4) [.int .i64 0] := by rw [← hw7]; exact E6.set0 _
      have V7 : SlV w7 (.slice (some ⟨g, 0, none⟩) R1 R1) ((onL l x.1).take R1) := by
        rw [← hw7]
        exact V6.oth (base := W.heap.size) (fun g' o h => by obtain ⟨_, _, h⟩ := h; cases h; exact hg) (by omega) _
      have hC7 : Ch (fun k => k = w.heap.size + 2 ∨ k = w.heap.size + 3 ∨ k = w.heap.size + 4) W w7 := by
        rw [← hw7]
        exact hC6.setCell (p := ⟨w.heap.size + 1 + 1 + 1 + 1, 0, none⟩) (Or.inr (Or.inr rfl)) _
      refine hKz _ _ (fun h => by simp at h) ?_
      clear hKz Kz hw7 hC6 V6 O6 C6 E6
      have HO7 := Lib.hid O7
      have HC7 := Lib.hid C7
      have HE7 := Lib.hid E7
      have HV7 := Lib.hid V7
      clear O7 C7 E7 V7
      refine AnyJ.done (by kernel_rfl) ⟨rfl, ?_⟩ _
      try simp only [Act.put, List.setIfInBounds_toArray, List.set_cons_zero, List.set_cons_succ]
      gi_wp2_with fail
      refine ⟨hC7.others (fun k hk => ?_), rfl, pre, x, _, rfl, HQ.out, HX.out, HO7.out, HC7.out, HE7.out, by rw [HR1.out]; exact HV7.out, hC7.below HBW.out (fun k hk => by omega) HBW.out.size⟩
      rcases hk with rfl | rfl | rfl
      · obtain ⟨T, e⟩ := HRO.out; exact ⟨_, _, _, e⟩
      · obtain ⟨T, e⟩ := HRC.out; exact ⟨_, _, _, e⟩
      · obtain ⟨T, e⟩ := HRE.out; exact ⟨_, _, _, e⟩
    · gi_wp2_with fail
      exact ⟨KeepsOthers.refl _, ⟨Nat.le_refl _, fun _ _ _ _ _ _ => rfl, fun _ _ h => h⟩, fun y hy => by
        rcases List.mem_append.1 hy with hy | hy
        · exact q1 y hy
        · simp at hy; subst hy; omega, q2⟩
  case done =>
    rintro D xs W hD rfl ⟨q1, q2⟩ hKd
    have RL := hlw.of_block (q2.block _ (by omega))
    have RO := how.of_block (q2.block _ (by omega))
    have RC := hcw.of_block (q2.block _ (by omega))
    have RE := hew.of_block (q2.block _ (by omega))
    have cL := RL.cell 0 rfl
    have HSW : Hid (SlP W a n l) := HS2.out.below q2
    have hf : fitF l rooms = none := find_none _ (fun y hy => by rw [HL.out] at hy; have := q1 y hy; simp; omega)
    have HF := Lib.hid hf
    have HKD := Lib.hid hKd
    have hDl := (Array.getElem?_eq_some_iff.1 hKd).1
    have HBW : Hid (Below w.heap.size w W) := HBB.out.trans (q2.mono hs2)
    have hsW := q2.size
    clear q1 q2 hf hKd
    go_wp2_with fail
    refine (Colours_ok a n cap l _ hm HSW.out HE.out).mono ?_
    rintro e w3 ⟨v, rfl, hv, hb3⟩
    obtain ⟨ad, cp, rfl, hv⟩ := hv.form2
    obtain ⟨mm, hmm⟩ : ∃ mm, (colO l).length = mm := ⟨_, rfl⟩
    have HMM := Lib.hid hmm
    rw [hmm] at hv ⊢
    clear hmm
    have O3 := RO.step hb3
    have C3 := RC.step hb3
    have E3 := RE.step hb3
    have HB3 : Hid (Below w.heap.size w w3) := HBW.out.trans (hb3.mono HBW.out.size)
    have HK3 : Hid (w3.heap[D]? = some (.deferred (some []))) := (hb3.block D hDl).trans HKD.out
    have HV3 := Lib.hid hv
    have hs3 := hb3.size
    clear hv hb3 HKD HBW RL RO RC RE cL
    have o1 : w3.cell? ⟨w.heap.size + 1 + 1, 0, none⟩ = some (.slice none 0 0) := O3.cell 0 rfl
    have o2 : w3.frozen? ⟨w.heap.size + 1 + 1, 0, none⟩ = false := O3.frozen 0
    have o3 : w.heap.size + 1 + 1 < w3.heap.size := O3.lt
    have e1 : w3.cell? ⟨w.heap.size + 1 + 1 + 1 + 1, 0, none⟩ = some (.int .i64 0) := E3.cell 0 rfl
    have e2 : w3.frozen? ⟨w.heap.size + 1 + 1 + 1 + 1, 0, none⟩ = false := E3.frozen 0
    have e3 : w.heap.size + 1 + 1 + 1 + 1 < w3.heap.size := E3.lt
    go_wp2_with fail
    obtain ⟨w4, hw4⟩ : ∃ W, (w3.setCell ⟨w.heap.size + 1 + 1, 0, none⟩ (.slice ad mm cp)).setCell ⟨w.heap.size + 1 + 1 + 1 + 1, 0, none⟩ (.int .i64 0) = W := ⟨_, rfl⟩
    rw [hw4]
    have O4 : Row w4 (w.heap.size + 2) [.slice ad mm cp] := by rw [← hw4]; exact Row.oth (O3.set0 _) (by omega) _
    have C4 : Row w4 (w.heap.size + 3) [.slice none 0 0] := by rw [← hw4]; exact Row.oth (C3.oth (by omega) _) (by omega) _
    have E4 : Row w4 (w.heap.size + 4) [.int .i64 0] := by rw [← hw4]; exact Row.set0 (E3.oth (by omega) _) _
    have hC4 : Ch (fun k => k = w.heap.size + 2 ∨ k = w.heap.size + 3 ∨ k = w.heap.size + 4) w3 w4 := by
      rw [← hw4]
      exact ((Ch.refl (fun k => k = w.heap.size + 2 ∨ k = w.heap.size + 3 ∨ k = w.heap.size + 4) w3).setCell (p := ⟨w.heap.size + 1 + 1, 0, none⟩) (Or.inl rfl) _).setCell (p := ⟨w.heap.size + 1 + 1 + 1 + 1, 0, none⟩) (Or.inr (Or.inr rfl)) _
    clear hw4 O3 C3 E3 o1 o2 o3 e1 e2 e3
    have p1 : w4.drew.cell? ⟨w.heap.size + 1 + 1, 0, none⟩ = some (.slice ad mm cp) := O4.cell 0 rfl
    have p2 : w4.drew.cell? ⟨w.heap.size + 1 + 1 + 1 + 1, 0, none⟩ = some (.int .i64 0) := E4.cell 0 rfl
    refine AnyJ.beginN (fun w' : World => w'.cell? ⟨w.heap.size + 1 + 1, 0, none⟩ = some (.slice ad mm cp) ∧ w'.cell? ⟨w.heap.size + 1 + 1 + 1 + 1, 0, none⟩ = some (.int .i64 0)) (fun j => decide (j ≤ 3)) (by kernel_rfl) ⟨p1, p2⟩ (fun hS => ?_)
    refine AnyJ.takeD (i := 0) (d := some 42) (v := ?_) rfl (by kernel_rfl) (by kernel_rfl) (by kernel_rfl) (by kernel_rfl) (by kernel_rfl) (fun _ _ _ h => by cases h.1) (Or.inl ⟨by kernel_rfl, ?_⟩) hS ?_
    rotate_left
    · intro w' hS
      obtain ⟨sF0, sF1⟩ := hS
      go_simp
      try with_reducible rfl
    refine AnyJ.takeD (i := 1) (d := some 43) (v := ?_) rfl (by kernel_rfl) (by kernel_rfl) (by kernel_rfl) (by kernel_rfl) (by kernel_rfl) (fun _ _ _ h => by cases h.1) (Or.inl ⟨by kernel_rfl, ?_⟩) hS ?_
    rotate_left
    · intro w' hS
      obtain ⟨sF0, sF1⟩ := hS
      go_simp
      try with_reducible rfl
    clear p1 p2 hS
    obtain ⟨wd, hwd⟩ : ∃ W, w4.drew = W := ⟨_, rfl⟩
    have O5 : Row wd (w.heap.size + 2) [.slice ad mm cp] := by rw [← hwd]; exact O4
    have C5 : Row wd (w.heap.size + 3) [.slice none 0 0] := by rw [← hwd]; exact C4
    have E5 : Row wd (w.heap.size + 4) [.int .i64 0] := by rw [← hwd]; exact E4
    have hC5 : Ch (fun k => k = w.heap.size + 2 ∨ k = w.heap.size + 3 ∨ k = w.heap.size + 4) w3 wd := by rw [← hwd]; exact hC4.drew
    rw [hwd]
    clear hwd O4 C4 E4 hC4
    have z1 : wd.cell? ⟨w.heap.size + 1 + 1, 0, none⟩ = some (.slice ad mm cp) := O5.cell 0 rfl
    have z2 : wd.frozen? ⟨w.heap.size + 1 + 1, 0, none⟩ = false := O5.frozen 0
    have z3 : w.heap.size + 1 + 1 < wd.heap.size := O5.lt
    refine AnyJ.one (i := 2) (by kernel_rfl) rfl (fun Kz hKz => ?_)
    go_simp
    clear z1 z2 z3
    obtain ⟨w6, hw6⟩ : ∃ W, wd.setCell ⟨w.heap.size + 1 + 1, 0, none⟩ (.slice ad mm cp) = W := ⟨_, rfl⟩
    rw [hw6]
    have O6 : Row w6 (w.heap.size + 2) [.slice ad mm cp] := by rw [← hw6]; exact O5.set0 _
    have C6 : Row w6 (w.heap.size + 3) [.slice none 0 0] := by rw [← hw6]; exact C5.oth (by omega) _
    have E6 : Row w6 (w.heap.size + 4) [.int .i64 0] := by rw [← hw6]; exact E5.oth (by omega) _
    have hC6 : Ch (fun k => k = w.heap.size + 2 ∨ k = w.heap.size + 3 ∨ k = w.heap.size + 4) w3 w6 := by rw [← hw6]; exact hC5.setCell (p := ⟨w.heap.size + 1 + 1, 0, none⟩) (Or.inl rfl) _
    refine hKz _ _ (fun _ => ⟨O6.cell 0 rfl, E6.cell 0 rfl⟩) ?_
    clear hKz Kz hw6 hC5 O5 C5 E5
    have z1 : w6.cell? ⟨w.heap.size + 1 + 1 + 1, 0, none⟩ = some (.slice none 0 0) := C6.cell 0 rfl
    have z2 : w6.frozen? ⟨w.heap.size + 1 + 1 + 1, 0, none⟩ = false := C6.frozen 0
    have z3 : w.heap.size + 1 + 1 + 1 < w6.heap.size := C6.lt
    refine AnyJ.one (i := 3) (by kernel_rfl) rfl (fun Kz hKz => ?_)
    go_simp
    clear z1 z2 z3
    obtain ⟨w7, hw7⟩ : ∃ W, w6.setCell ⟨w.heap.size + 1 + 1 + 1, 0, none⟩ (.slice none 0 0) = W := ⟨_, rfl⟩
    rw [hw7]
    have O7 : Row w7 (w.heap.size + 2) [.slice ad mm cp] := by rw [← hw7]; exact O6.oth (by omega) _
    have C7 : Row w7 (w.heap.size + 3) [.slice none 0 0] := by rw [← hw7]; exact C6.set0 _
    have E7 : Row w7 (w.heap.size + 4) [.int .i64 0] := by rw [← hw7]; exact E6.oth (by omega) _
    have hC7 : Ch (fun k => k = w.heap.size + 2 ∨ k = w.heap.size + 3 ∨ k = w.heap.size + 4) w3 w7 := by rw [← hw7]; exact hC6.setCell (p := ⟨w.heap.size + 1 + 1 + 1, 0, none⟩) (Or.inr (Or.inl rfl)) _
    refine hKz _ _ (fun _ => ⟨O7.cell 0 rfl, E7.cell 0 rfl⟩) ?_
    clear hKz Kz hw7 hC6 O6 C6 E6
    have z1 : w7.cell? ⟨w.heap.size + 1 + 1 + 1 + 1, 0, none⟩ = some (.int .i64 0) := E7.cell 0 rfl
    have z2 : w7.frozen? ⟨w.heap.size + 1 + 1 + 1 + 1, 0, none⟩ = false := E7.frozen 0
    have z3 : w.heap.size + 1 + 1 + 1 + 1 < w7.heap.size := E7.lt
    refine AnyJ.one (i := 4) (by kernel_rfl) rfl (fun Kz hKz => ?_)
    go_simp
    clear z1 z2 z3
    obtain ⟨w8, hw8⟩ : ∃ W, w7.setCell ⟨w.heap.size + 1 + 1 + 1 + 1, 0, none⟩ (.int .i64 0) = W := ⟨_, rfl⟩
    rw [hw8]
    have O8 : Row w8 (w.heap.size + 2) [.slice ad mm cp] := by rw [← hw8]; exact O7.oth (by omega) _
    have C8 : Row w8 (w.heap.size + 3) [.slice none 0 0] := by rw [← hw8]; exact C7.oth (by omega) _
    have E8 : Row w8 (w.heap.size + 4) [.int .i64 0] := by rw [← hw8]; exact E7.set0 _
    have hC8 : Ch (fun k => k = w.heap.size + 2 ∨ k = w.heap.size + 3 ∨ k = w.heap.size + 4) w3 w8 := by rw [← hw8]; exact hC7.setCell (p := ⟨w.heap.size + 1 + 1 + 1 + 1, 0, none⟩) (Or.inr (Or.inr rfl)) _
    refine hKz _ _ (fun h => by simp at h) ?_
    clear hKz Kz hw8 hC7 O7 C7 E7
    refine AnyJ.done (by kernel_rfl) ⟨rfl, ?_⟩ _
    try simp only [Act.put, List.setIfInBounds_toArray, List.set_cons_zero, List.set_cons_succ]
    have HV8 : Hid (SlV w8 (.slice ad mm cp) (colO l)) := (HV3.out.ch hC8 (fun g hg e => by have := (HV3.out.lt hg).1; omega)).sl
    have HO8 := Lib.hid O8
    have HC8 := Lib.hid C8
    have HE8 := Lib.hid E8
    have HB8 : Hid (Below w.heap.size w w8) := hC8.below HB3.out (fun k hk => by omega) HB3.out.size
    have HK8 : Hid (w8.heap[D]? = some (.deferred (some []))) := (hC8.2.2.2.2 D (Array.getElem?_eq_some_iff.1 HK3.out).1 (fun hk => by omega)).trans HK3.out
    clear O8 C8 E8 hC8 HV3 HB3 HK3
    go_wp2_with fail
    have hgr := grownBy_putObj' w8 D (.deferred none)
    refine ⟨by simp, .inl ⟨_, _, rfl, run_takeDeferred HK8.out, ?_⟩⟩
    have Z1 := HO8.out.put (o' := .deferred none) HK8.out rfl
    have Z2 := HC8.out.put (o' := .deferred none) HK8.out rfl
    have Z3 := HE8.out.put (o' := .deferred none) HK8.out rfl
    have Z4 := HV8.out.put (o' := .deferred none) HK8.out rfl
    have a1 : (w8.putObj D (.deferred none)).cell? ⟨w.heap.size + 1 + 1, 0, none⟩ = some (.slice ad mm cp) := Z1.cell 0 rfl
    have a2 : (w8.putObj D (.deferred none)).cell? ⟨w.heap.size + 1 + 1 + 1, 0, none⟩ = some (.slice none 0 0) := Z2.cell 0 rfl
    have a3 : (w8.putObj D (.deferred none)).cell? ⟨w.heap.size + 1 + 1 + 1 + 1, 0, none⟩ = some (.int .i64 0) := Z3.cell 0 rfl
    refine ⟨.tuple #[.slice ad mm cp, .slice none 0 0, .int .i64 0], by simp [results, Try.results16, go_sem, a1, a2, a3], ⟨_, _, rfl, ?_, ?_, Below.put HB8.out HK8.out (by omega)⟩⟩
    · unfold fitA; rw [HF.out]; exact Z4
    · unfold fitB; rw [HF.out]; exact SlV.nil _
  case stop =>
    rintro D cx pre W hD hpre ⟨rfl, pre', x, v, rfl, h1, h2, r1, r2, r3, h4, h5⟩ hKd
    refine (wpIn_wide (n := 6)).2 ?_
    have hf : fitF l rooms = some x := find_at _ (fun y hy => by have := h1 y hy; simp; omega) (by simpa using h2) (by rw [HL.out]; exact hpre)
    have HF := Lib.hid hf
    have HH1 := Lib.hid r1
    have HH2 := Lib.hid r2
    have HH3 := Lib.hid r3
    have HH4 := Lib.hid h4
    have HH5 := Lib.hid h5
    have HK := Lib.hid hKd
    clear hf r1 r2 r3 h4 h5 hKd h1 h2
    go_wp2_with fail
    refine ⟨by simp, .inl ⟨_, _, rfl, run_takeDeferred HK.out, ?_⟩⟩
    have Z1 := HH1.out.put (o' := .deferred none) HK.out rfl
    have Z2 := HH2.out.put (o' := .deferred none) HK.out rfl
    have Z3 := HH3.out.put (o' := .deferred none) HK.out rfl
    have Z4 := HH4.out.put (o' := .deferred none) HK.out rfl
    obtain ⟨ad, cp, hve, _⟩ := Z4
    subst hve
    have a1 : (W.putObj D (.deferred none)).cell? ⟨w.heap.size + 1 + 1, 0, none⟩ = some (.slice none 0 0) := Z1.cell 0 rfl
    have a2 := Z2.cell 0 rfl
    have a3 : (W.putObj D (.deferred none)).cell? ⟨w.heap.size + 1 + 1 + 1 + 1, 0, none⟩ = some (.int .i64 0) := Z3.cell 0 rfl
    rw [show w.heap.size + 2 + 1 = w.heap.size + 1 + 1 + 1 from rfl] at a2
    refine ⟨.tuple #[.slice none 0 0, .slice ad ((onL l x.1).take (rooms.toNat + 1)).length cp, .int .i64 0], by simp [results, Try.results16, go_sem, a1, a2, a3], ⟨_, _, rfl, ?_, ?_, Below.put HH5.out HK.out (by omega)⟩⟩
    · unfold fitA; rw [HF.out]; exact SlV.nil _
    · unfold fitB; rw [HF.out]; exact HH4.out.put HK.out rfl

end Go.Proofs.Ytbafhmlmibjgpaa
