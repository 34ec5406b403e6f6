/-
  Slices of spans; package colour's check.
-/
import Derived.Test.YtbafhmlmibjgpaaRows
import Derived.Test.YtbafhmlmibjgpaaSlice
import Derived.Test.YtbafhmlmibjgpaaBase2
namespace Go.Proofs.Ytbafhmlmibjgpaa
set_option linter.unusedSimpArgs false
set_option linter.unusedVariables false
open Go.RowKit

/-- A span: where it begins, where it ends. -/
abbrev SpV := Int × Int
def sp0 : SpV := (0, 0)
/-- The slice at a holds the spans l. -/
def SlP (w : World) (a : Option Addr) (n : Nat) (l : List SpV) : Prop :=
  l.length = n ∧ ∀ i x, l[i]? = some x → ∃ b off, a = some ⟨b, off, none⟩ ∧ w.cell? ⟨b, off + i * 2, none⟩ = some (.int .i64 x.1) ∧ w.cell? ⟨b, off + i * 2 + 1, none⟩ = some (.int .i64 x.2)
theorem SlP.nil (w : World) (a : Option Addr) : SlP w a 0 [] := ⟨rfl, fun i x h => by simp at h⟩
theorem SlP.below {w w1 : World} {a : Option Addr} {n : Nat} {l : List SpV} (h : SlP w a n l) (hb : Below w.heap.size w w1) : SlP w1 a n l := by
  refine ⟨h.1, fun i x hx => ?_⟩
  obtain ⟨b, off, ha, h1, h2⟩ := h.2 i x hx
  have hlt : b < w.heap.size := World.block_lt_of_cell? w _ h1
  exact ⟨b, off, ha, (hb.cell (p := ⟨b, off + i * 2, none⟩) hlt).trans h1, (hb.cell (p := ⟨b, off + i * 2 + 1, none⟩) hlt).trans h2⟩
theorem SlP.step {w w1 : World} {a : Option Addr} {n : Nat} {l : List SpV} (h : SlP w a n l) (hb : Below w.heap.size w w1) : SlP w1 a n l := h.below hb
theorem SlP.get {w : World} {a : Option Addr} {n : Nat} {l : List SpV} (h : SlP w a n l) {i : Nat} (hi : i < n) :
    ∃ (f u : Int) (b off : Nat), Hid (l.getD i sp0 = (f, u)) ∧ Hid (l.drop i = (f, u) :: l.drop (i + 1)) ∧ Hid (l[i]? = some (f, u)) ∧ a = some ⟨b, off, none⟩ ∧ b < w.heap.size ∧
      w.cell? ⟨b, off + i * 2, none⟩ = some (.int .i64 f) ∧ w.cell? ⟨b, off + i * 2 + 1, none⟩ = some (.int .i64 u) := by
  have hl := h.1
  have hx : l[i]? = some l[i] := List.getElem?_eq_getElem (by omega)
  obtain ⟨b, off, ha, h1, h2⟩ := h.2 i _ hx
  exact ⟨l[i].1, l[i].2, b, off, by show _ = _; simp [List.getD, show i < l.length by omega], List.drop_eq_getElem_cons (by omega), hx, ha, World.block_lt_of_cell? w _ h1, h1, h2⟩

/-- Is a span wrong? -/
def wrB (x : SpV) : Bool := decide (x.1 < 0) || (decide (x.2 ≤ x.1) || decide (1000000000 < x.2))
def chkE (l : List SpV) : Int := if 3000 < l.length then 2 else if l.any wrB then 1 else 0

set_option maxRecDepth 100000 in
set_option maxHeartbeats 1600000 in
theorem check1_any (f u : Int) (w : World) :
    Calls Try.prog 32 #[.agg #[.int .i64 f, .int .i64 u]] w fun e w' => e = .returned (.bool (wrB (f, u))) ∧ Below w.heap.size w w' := by
  by_cases h1 : f < 0
  · rw [show wrB (f, u) = true by simp [wrB, h1]]
    go_enter Try.func32, Try.ntmps32
    go_wp2_with fail
    go_ret
    refine ⟨rfl, ?_⟩
    (repeat' (first | (with_reducible exact Below.refl _ _) | (with_reducible assumption) | (with_reducible exact Bw.out (by with_reducible assumption)) | (with_reducible refine bw_alloc ?_ _) | (with_reducible refine bw_step ?_ (by with_reducible assumption)) | (with_reducible refine Below.alloc ?_ ?_ _) | (with_reducible refine Below.drew ?_) | (with_reducible refine below_drewN ?_ _) | (with_reducible refine Below.setCell ?_ ?_ _) | (with_reducible refine below_step ?_ (by with_reducible assumption) ?_) | (with_reducible exact Nat.le_refl _) | omega | (simp; omega) | (simp; done)))
  · by_cases h2 : u ≤ f
    · rw [show wrB (f, u) = true by simp [wrB, h1, h2]]
      go_enter Try.func32, Try.ntmps32
      go_wp2_with fail
      go_ret
      refine ⟨rfl, ?_⟩
      (repeat' (first | (with_reducible exact Below.refl _ _) | (with_reducible assumption) | (with_reducible exact Bw.out (by with_reducible assumption)) | (with_reducible refine bw_alloc ?_ _) | (with_reducible refine bw_step ?_ (by with_reducible assumption)) | (with_reducible refine Below.alloc ?_ ?_ _) | (with_reducible refine Below.drew ?_) | (with_reducible refine below_drewN ?_ _) | (with_reducible refine Below.setCell ?_ ?_ _) | (with_reducible refine below_step ?_ (by with_reducible assumption) ?_) | (with_reducible exact Nat.le_refl _) | omega | (simp; omega) | (simp; done)))
    · by_cases h3 : 1000000000 < u
      · rw [show wrB (f, u) = true by simp [wrB, h1, h2, h3]]
        go_enter Try.func32, Try.ntmps32
        go_wp2_with fail
        go_ret
        refine ⟨rfl, ?_⟩
        (repeat' (first | (with_reducible exact Below.refl _ _) | (with_reducible assumption) | (with_reducible exact Bw.out (by with_reducible assumption)) | (with_reducible refine bw_alloc ?_ _) | (with_reducible refine bw_step ?_ (by with_reducible assumption)) | (with_reducible refine Below.alloc ?_ ?_ _) | (with_reducible refine Below.drew ?_) | (with_reducible refine below_drewN ?_ _) | (with_reducible refine Below.setCell ?_ ?_ _) | (with_reducible refine below_step ?_ (by with_reducible assumption) ?_) | (with_reducible exact Nat.le_refl _) | omega | (simp; omega) | (simp; done)))
      · rw [show wrB (f, u) = false by simp [wrB, h1, h2, h3]]
        go_enter Try.func32, Try.ntmps32
        go_wp2_with fail
        go_ret
        refine ⟨rfl, ?_⟩
        (repeat' (first | (with_reducible exact Below.refl _ _) | (with_reducible assumption) | (with_reducible exact Bw.out (by with_reducible assumption)) | (with_reducible refine bw_alloc ?_ _) | (with_reducible refine bw_step ?_ (by with_reducible assumption)) | (with_reducible refine Below.alloc ?_ ?_ _) | (with_reducible refine Below.drew ?_) | (with_reducible refine below_drewN ?_ _) | (with_reducible refine Below.setCell ?_ ?_ _) | (with_reducible refine below_step ?_ (by with_reducible assumption) ?_) | (with_reducible exact Nat.le_refl _) | omega | (simp; omega) | (simp; done)))

def idxW : List SpV → Nat → Int
  | [], _ => -1
  | x :: r, k => if wrB x then (k : Int) else idxW r (k + 1)
theorem idxW_none : ∀ {l : List SpV} {k : Nat}, l.any wrB = false → idxW l k = -1
  | [], _, _ => rfl
  | x :: r, k, h => by
    simp only [List.any_cons, Bool.or_eq_false_iff] at h
    simp [idxW, h.1, idxW_none h.2]
theorem idxW_some : ∀ {l : List SpV} {k : Nat}, l.any wrB = true → 0 ≤ idxW l k
  | [], _, h => by simp at h
  | x :: r, k, h => by
    unfold idxW
    by_cases hx : wrB x = true
    · simp [hx]
    · simp only [List.any_cons, Bool.or_eq_true] at h
      simp only [if_neg hx]
      exact idxW_some (h.resolve_left hx)

set_option maxHeartbeats 1600000 in
theorem index_wrong (a : Option Addr) (n cap : Nat) (l : List SpV) (w : World) (hm : n ≤ 9223372036854775807) (hs : SlP w a n l) :
    Calls Try.prog 40 #[.slice a n cap, .func (.func 32) #[] #[]] w
      fun e w' => e = .returned (.int .i64 (idxW l 0)) ∧ Below w.heap.size w w' := by
  obtain ⟨R, hR⟩ : ∃ R, R = idxW l 0 := ⟨_, rfl⟩
  rw [← hR]
  have HR := Lib.hid hR
  have hl := hs.1
  have HS := Lib.hid hs
  clear hR hs
  go_enter Try.func40, Try.ntmps40
  go_wp2_with fail
  go_loopw [8] (fun i wr => ∃ k : Nat, k ≤ n ∧ i = .int .i64 k ∧ Hid (R = idxW (l.drop k) k) ∧ Bw w.heap.size w wr) (fun i _ => n - (intOf i).toNat)
  case atStart => exact ⟨0, Nat.zero_le _, rfl, HR, Below.refl _ _⟩
  case round =>
    obtain ⟨k, hk, rfl, hrk, hB⟩ := hrel
    have hB' := hB.out
    by_cases hlt : k < n
    · obtain ⟨f, u, b, off, hx, hd, _, rfl, hb, c0, c1⟩ := (HS.out.below hB').get hlt
      obtain ⟨p, hp⟩ : ∃ p, wrB (f, u) = p := ⟨_, rfl⟩
      have HP := Lib.hid hp
      clear hx hp
      go_wp2_with fail
      refine (check1_any f u _).mono ?_
      rintro e w1 ⟨rfl, hb1⟩
      rw [HP.out]
      have hB2 : Bw w.heap.size w w1 := bw_step hB' hb1
      cases p with
      | true =>
        go_wp2_with fail
        go_ret
        exact ⟨ret_int (by rw [hrk.out, hd.out]; simp [idxW, HP.out]), hB2.out⟩
      | false =>
        go_wp2_with fail
        go_roundw
        case rel => exact ⟨k + 1, by omega, by go_num, by show R = _; rw [hrk.out, hd.out]; simp [idxW, HP.out], hB2⟩
        case measure => simp [intOf]; omega
    · obtain rfl : k = n := by omega
      go_wp2_with fail
      go_ret
      exact ⟨ret_int (by rw [hrk.out, List.drop_of_length_le (by omega)]; rfl), hB'⟩

set_option maxHeartbeats 1600000 in
theorem contains_wrong (a : Option Addr) (n cap : Nat) (l : List SpV) (w : World) (hm : n ≤ 9223372036854775807) (hs : SlP w a n l) :
    Calls Try.prog 33 #[.slice a n cap, .func (.func 32) #[] #[]] w
      fun e w' => e = .returned (.bool (l.any wrB)) ∧ Below w.heap.size w w' := by
  cases hy : l.any wrB with
  | true =>
    have h0 := idxW_some (k := 0) hy
    have HS := Lib.hid hs
    clear hs hy
    go_enter Try.func33, Try.ntmps33
    go_wp2_with (go_at_call 40; refine (index_wrong _ _ _ l _ hm HS.out).mono ?_; rintro e w' ⟨rfl, hb⟩)
    go_ret
    exact ⟨ret_bool (by simp), hb⟩
  | false =>
    have h0 := Lib.hid (idxW_none (k := 0) hy)
    have HS := Lib.hid hs
    clear hs hy
    go_enter Try.func33, Try.ntmps33
    go_wp2_with (go_at_call 40; refine (index_wrong _ _ _ l _ hm HS.out).mono ?_; rintro e w' ⟨rfl, hb⟩; rw [h0.out])
    go_ret
    exact ⟨rfl, hb⟩

set_option maxHeartbeats 1600000 in
theorem ccheck_any (a : Option Addr) (n cap : Nat) (l : List SpV) (w : World) (hm : n ≤ 9223372036854775807) (hs : SlP w a n l) (E : Int) (hE : chkE l = E) :
    Calls Try.prog 21 #[.slice a n cap] w fun e w' => e = .returned (.int .i64 E) ∧ Below w.heap.size w w' := by
  have HS := Lib.hid hs
  have hl := hs.1
  unfold chkE at hE
  rw [hl] at hE
  clear hs
  by_cases h3 : 3000 < n
  · rw [if_pos h3] at hE
    subst hE
    have h3i : (3000 : Int) < (n : Int) := by omega
    go_enter Try.func21, Try.ntmps21
    go_wp2_with fail
    go_ret
    refine ⟨rfl, ?_⟩
    (repeat' (first | (with_reducible exact Below.refl _ _) | (with_reducible assumption) | (with_reducible exact Bw.out (by with_reducible assumption)) | (with_reducible refine bw_alloc ?_ _) | (with_reducible refine bw_step ?_ (by with_reducible assumption)) | (with_reducible refine Below.alloc ?_ ?_ _) | (with_reducible refine Below.drew ?_) | (with_reducible refine below_drewN ?_ _) | (with_reducible refine Below.setCell ?_ ?_ _) | (with_reducible refine below_step ?_ (by with_reducible assumption) ?_) | (with_reducible exact Nat.le_refl _) | omega | (simp; omega) | (simp; done)))
  · rw [if_neg h3] at hE
    have h3i : ¬ ((3000 : Int) < (n : Int)) := by omega
    cases hy : l.any wrB with
    | true =>
      rw [hy] at hE
      obtain rfl : (1 : Int) = E := hE
      have HY := Lib.hid hy
      clear hy
      go_enter Try.func21, Try.ntmps21
      go_wp2_with fail
      refine (contains_wrong a n cap l _ hm (HS.out.below (by (repeat' (first | (with_reducible exact Below.refl _ _) | (with_reducible assumption) | (with_reducible exact Bw.out (by with_reducible assumption)) | (with_reducible refine bw_alloc ?_ _) | (with_reducible refine bw_step ?_ (by with_reducible assumption)) | (with_reducible refine Below.alloc ?_ ?_ _) | (with_reducible refine Below.drew ?_) | (with_reducible refine below_drewN ?_ _) | (with_reducible refine Below.setCell ?_ ?_ _) | (with_reducible refine below_step ?_ (by with_reducible assumption) ?_) | (with_reducible exact Nat.le_refl _) | omega | (simp; omega) | (simp; done)))))).mono ?_
      rintro e w1 ⟨rfl, hb1⟩
      have HB1 : Below w.heap.size w w1 := by (repeat' (first | (with_reducible exact Below.refl _ _) | (with_reducible assumption) | (with_reducible exact Bw.out (by with_reducible assumption)) | (with_reducible refine bw_alloc ?_ _) | (with_reducible refine bw_step ?_ (by with_reducible assumption)) | (with_reducible refine Below.alloc ?_ ?_ _) | (with_reducible refine Below.drew ?_) | (with_reducible refine below_drewN ?_ _) | (with_reducible refine Below.setCell ?_ ?_ _) | (with_reducible refine below_step ?_ (by with_reducible assumption) ?_) | (with_reducible exact Nat.le_refl _) | omega | (simp; omega) | (simp; done)))
      rw [HY.out]
      go_wp2_with fail
      go_ret
      refine ⟨rfl, ?_⟩
      (repeat' (first | (with_reducible exact Below.refl _ _) | (with_reducible assumption) | (with_reducible exact Bw.out (by with_reducible assumption)) | (with_reducible refine bw_alloc ?_ _) | (with_reducible refine bw_step ?_ (by with_reducible assumption)) | (with_reducible refine Below.alloc ?_ ?_ _) | (with_reducible refine Below.drew ?_) | (with_reducible refine below_drewN ?_ _) | (with_reducible refine Below.setCell ?_ ?_ _) | (with_reducible refine below_step ?_ (by with_reducible assumption) ?_) | (with_reducible exact Nat.le_refl _) | omega | (simp; omega) | (simp; done)))
    | false =>
      rw [hy] at hE
      obtain rfl : (0 : Int) = E := hE
      have HY := Lib.hid hy
      clear hy
      go_enter Try.func21, Try.ntmps21
      go_wp2_with fail
      refine (contains_wrong a n cap l _ hm (HS.out.below (by (repeat' (first | (with_reducible exact Below.refl _ _) | (with_reducible assumption) | (with_reducible exact Bw.out (by with_reducible assumption)) | (with_reducible refine bw_alloc ?_ _) | (with_reducible refine bw_step ?_ (by with_reducible assumption)) | (with_reducible refine Below.alloc ?_ ?_ _) | (with_reducible refine Below.drew ?_) | (with_reducible refine below_drewN ?_ _) | (with_reducible refine Below.setCell ?_ ?_ _) | (with_reducible refine below_step ?_ (by with_reducible assumption) ?_) | (with_reducible exact Nat.le_refl _) | omega | (simp; omega) | (simp; done)))))).mono ?_
      rintro e w1 ⟨rfl, hb1⟩
      have HB1 : Below w.heap.size w w1 := by (repeat' (first | (with_reducible exact Below.refl _ _) | (with_reducible assumption) | (with_reducible exact Bw.out (by with_reducible assumption)) | (with_reducible refine bw_alloc ?_ _) | (with_reducible refine bw_step ?_ (by with_reducible assumption)) | (with_reducible refine Below.alloc ?_ ?_ _) | (with_reducible refine Below.drew ?_) | (with_reducible refine below_drewN ?_ _) | (with_reducible refine Below.setCell ?_ ?_ _) | (with_reducible refine below_step ?_ (by with_reducible assumption) ?_) | (with_reducible exact Nat.le_refl _) | omega | (simp; omega) | (simp; done)))
      rw [HY.out]
      go_wp2_with fail
      go_ret
      refine ⟨rfl, ?_⟩
      (repeat' (first | (with_reducible exact Below.refl _ _) | (with_reducible assumption) | (with_reducible exact Bw.out (by with_reducible assumption)) | (with_reducible refine bw_alloc ?_ _) | (with_reducible refine bw_step ?_ (by with_reducible assumption)) | (with_reducible refine Below.alloc ?_ ?_ _) | (with_reducible refine Below.drew ?_) | (with_reducible refine below_drewN ?_ _) | (with_reducible refine Below.setCell ?_ ?_ _) | (with_reducible refine below_step ?_ (by with_reducible assumption) ?_) | (with_reducible exact Nat.le_refl _) | omega | (simp; omega) | (simp; done)))

end Go.Proofs.Ytbafhmlmibjgpaa
