/-
  The walks of package share, second part: nights in memory; Valid.
-/
import Derived.Test.YtdijdfhlmnhcjaaShareA
namespace Go.Proofs.Ytdijdfhlmnhcjaa
set_option linter.unusedSimpArgs false
set_option linter.unusedVariables false
open Go.RowKit

/-- A night as it lies in memory: its numbers, the slice of its shares, and what that slice holds. -/
structure NightV where
  rooms : Int
  sold : Int
  at' : Option Addr
  n : Nat
  cap : Nat
  zs : List Int

/-- The night's own word: its slice holds its shares. -/
def NightV.In (x : NightV) (w : World) : Prop := x.n ≤ 9223372036854775807 ∧ SlI w x.at' x.n x.zs
theorem NightV.In.below {x : NightV} {w w1 : World} (h : x.In w) (hb : Below w.heap.size w w1) : x.In w1 := ⟨h.1, h.2.below hb⟩

/-- The slice of length n at address a holds the nights l. -/
def SlN (w : World) (a : Option Addr) (n : Nat) (l : List NightV) : Prop :=
  l.length = n ∧ ∀ i x, l[i]? = some x → x.In w ∧ ∃ b off, a = some ⟨b, off, none⟩ ∧
    w.cell? ⟨b, off + i * 3, none⟩ = some (.int .i64 x.rooms) ∧ w.cell? ⟨b, off + i * 3 + 1, none⟩ = some (.int .i64 x.sold) ∧ w.cell? ⟨b, off + i * 3 + 2, none⟩ = some (.slice x.at' x.n x.cap)

theorem SlN.nil (w : World) (a : Option Addr) : SlN w a 0 [] := ⟨rfl, fun i x h => by simp at h⟩
theorem SlN.below {w w1 : World} {a : Option Addr} {n : Nat} {l : List NightV} (h : SlN w a n l) (hb : Below w.heap.size w w1) : SlN w1 a n l := by
  refine ⟨h.1, fun i x hx => ?_⟩
  obtain ⟨hin, b, off, ha, h1, h2, h3⟩ := h.2 i x hx
  have hlt : b < w.heap.size := World.block_lt_of_cell? w _ h1
  exact ⟨hin.below hb, b, off, ha, (hb.cell (p := ⟨b, off + i * 3, none⟩) hlt).trans h1, (hb.cell (p := ⟨b, off + i * 3 + 1, none⟩) hlt).trans h2, (hb.cell (p := ⟨b, off + i * 3 + 2, none⟩) hlt).trans h3⟩
theorem SlN.get {w : World} {a : Option Addr} {n : Nat} {l : List NightV} (h : SlN w a n l) {i : Nat} (hi : i < n) :
    ∃ x b off, l[i]? = some x ∧ Hid (l.drop i = x :: l.drop (i + 1)) ∧ x.In w ∧ a = some ⟨b, off, none⟩ ∧ b < w.heap.size ∧
      w.cell? ⟨b, off + i * 3, none⟩ = some (.int .i64 x.rooms) ∧ w.cell? ⟨b, off + i * 3 + 1, none⟩ = some (.int .i64 x.sold) ∧ w.cell? ⟨b, off + i * 3 + 2, none⟩ = some (.slice x.at' x.n x.cap) := by
  have hl := h.1
  have hx : l[i]? = some l[i] := List.getElem?_eq_getElem (by omega)
  obtain ⟨hin, b, off, ha, h1, h2, h3⟩ := h.2 i _ hx
  exact ⟨l[i], b, off, hx, List.drop_eq_getElem_cons (by omega), hin, ha, World.block_lt_of_cell? w _ h1, h1, h2, h3⟩

def NightV.ok (x : NightV) : Bool := nightB x.rooms x.sold x.zs

set_option maxHeartbeats 400000 in
theorem valid1_any (x : NightV) (w : World) (h : x.In w) :
    Calls Try.prog 56 #[.agg #[.int .i64 x.rooms, .int .i64 x.sold, .slice x.at' x.n x.cap]] w
      fun e w' => e = .returned (.bool (!x.ok)) ∧ Below w.heap.size w w' := by
  have HS := Lib.hid (h.below ((Below.refl _ w).alloc (Nat.le_refl _) (.cells #[.int .i64 x.rooms, .int .i64 x.sold, .slice x.at' x.n x.cap] 46)))
  clear h
  go_enter Try.func56, Try.ntmps56
  go_wp2_with fail
  refine (right_any _ _ _ _ _ x.zs _ HS.out.1 HS.out.2).mono ?_
  rintro e w1 ⟨rfl, hb1⟩
  go_wp2_with fail
  go_ret
  refine ⟨rfl, ?_⟩
  (repeat' (first | (with_reducible exact Below.refl _ _) | (with_reducible assumption) | (with_reducible exact Bw.out (by with_reducible assumption)) | (with_reducible refine bw_alloc ?_ _) | (with_reducible refine bw_step ?_ (by with_reducible assumption)) | (with_reducible refine Below.alloc ?_ ?_ _) | (with_reducible refine Below.drew ?_) | (with_reducible refine below_drewN ?_ _) | (with_reducible refine Below.setCell ?_ ?_ _) | (with_reducible refine below_step ?_ (by with_reducible assumption) ?_) | (with_reducible exact Nat.le_refl _) | omega | (simp; omega) | (simp; done)))

/-- Where the first one lies for which p holds. -/
def idxN (p : NightV → Bool) : List NightV → Nat → Int
  | [], _ => -1
  | z :: r, k => if p z then (k : Int) else idxN p r (k + 1)
theorem idxN_none {p : NightV → Bool} : ∀ {l : List NightV} {k : Nat}, l.any p = false → idxN p l k = -1
  | [], _, _ => rfl
  | z :: r, k, h => by
    simp only [List.any_cons, Bool.or_eq_false_iff] at h
    simp [idxN, h.1, idxN_none h.2]
theorem idxN_some {p : NightV → Bool} : ∀ {l : List NightV} {k : Nat}, l.any p = true → 0 ≤ idxN p l k
  | [], _, h => by simp at h
  | z :: r, k, h => by
    by_cases hz : p z = true
    · simp [idxN, hz]
    · have h2 : r.any p = true := by simpa [hz] using h
      simp [idxN, hz]
      exact idxN_some h2

set_option maxHeartbeats 800000 in
theorem index_valid (a : Option Addr) (n cap : Nat) (l : List NightV) (w : World) (hm : n ≤ 9223372036854775807) (hs : SlN w a n l) :
    Calls Try.prog 49 #[.slice a n cap, .func (.func 56) #[] #[]] w
      fun e w' => e = .returned (.int .i64 (idxN (fun x => !x.ok) l 0)) ∧ Below w.heap.size w w' := by
  obtain ⟨R, hR⟩ : ∃ R, R = idxN (fun x => !x.ok) l 0 := ⟨_, rfl⟩
  rw [← hR]
  have HR := Lib.hid hR
  have hl := hs.1
  have HS := Lib.hid hs
  clear hR hs
  go_enter Try.func49, Try.ntmps49
  go_wp2_with fail
  go_loopw [8] (fun i wr => ∃ k : Nat, k ≤ n ∧ i = .int .i64 k ∧ Hid (R = idxN (fun x => !x.ok) (l.drop k) k) ∧ Bw w.heap.size w wr) (fun i _ => n - (intOf i).toNat)
  case atStart => exact ⟨0, Nat.zero_le _, rfl, HR, Below.refl _ _⟩
  case round =>
    obtain ⟨k, hk, rfl, hrk, hB⟩ := hrel
    have hB' := hB.out
    by_cases hlt : k < n
    · obtain ⟨x, b, off, hx, hd, hin, rfl, hb, c0, c1, c2⟩ := (HS.out.below hB').get hlt
      clear hx
      go_wp2_with fail
      refine (valid1_any x _ hin).mono ?_
      rintro e w1 ⟨rfl, hb1⟩
      have hB2 : Bw w.heap.size w w1 := bw_step hB' hb1
      cases hp : x.ok with
      | false =>
        go_wp2_with fail
        go_ret
        exact ⟨ret_int (by rw [hrk.out, hd.out]; simp [idxN, hp]), hB2.out⟩
      | true =>
        go_wp2_with fail
        go_roundw
        case rel => exact ⟨k + 1, by omega, by go_num, by show R = _; rw [hrk.out, hd.out]; simp [idxN, hp], hB2⟩
        case measure => simp [intOf]; omega
    · obtain rfl : k = n := by omega
      go_wp2_with fail
      go_ret
      exact ⟨ret_int (by rw [hrk.out, List.drop_of_length_le (by omega)]; rfl), hB'⟩

set_option maxHeartbeats 400000 in
theorem contains_valid (a : Option Addr) (n cap : Nat) (l : List NightV) (w : World) (hm : n ≤ 9223372036854775807) (hs : SlN w a n l) :
    Calls Try.prog 55 #[.slice a n cap, .func (.func 56) #[] #[]] w
      fun e w' => e = .returned (.bool (l.any fun x => !x.ok)) ∧ Below w.heap.size w w' := by
  cases hy : l.any fun x => !x.ok with
  | true =>
    have h0 := idxN_some (k := 0) hy
    have HS := Lib.hid hs
    clear hs hy
    go_enter Try.func55, Try.ntmps55
    go_wp2_with fail
    refine (index_valid _ _ _ l _ hm HS.out).mono ?_
    rintro e w1 ⟨rfl, hb1⟩
    go_wp2_with fail
    go_ret
    exact ⟨ret_bool (by simp), hb1⟩
  | false =>
    have h0 := Lib.hid (idxN_none (k := 0) hy)
    have HS := Lib.hid hs
    clear hs hy
    go_enter Try.func55, Try.ntmps55
    go_wp2_with fail
    refine (index_valid _ _ _ l _ hm HS.out).mono ?_
    rintro e w1 ⟨rfl, hb1⟩
    rw [h0.out]
    go_wp2_with fail
    go_ret
    exact ⟨rfl, hb1⟩

def nightsB (l : List NightV) : Bool := decide (l.length ≤ 366) && l.all NightV.ok
theorem nightsB_any (l : List NightV) : nightsB l = (decide (l.length ≤ 366) && !(l.any fun x => !x.ok)) := by
  unfold nightsB; congr 1
  induction l with
  | nil => rfl
  | cons x r ih => simp [ih]

set_option maxHeartbeats 400000 in
/-- Valid, for whatever nights. -/
theorem share_valid_any (a : Option Addr) (n cap : Nat) (l : List NightV) (w : World) (hm : n ≤ 9223372036854775807) (hs : SlN w a n l) :
    Calls Try.prog 35 #[.slice a n cap] w fun e w' => e = .returned (.bool (nightsB l)) ∧ Below w.heap.size w w' := by
  have hl := hs.1
  rw [nightsB_any]
  have HS := Lib.hid hs
  clear hs
  by_cases h : n ≤ 366
  · have e : decide (l.length ≤ 366) = true := by simp [hl, h]
    rw [e, Bool.true_and]
    clear e
    go_enter Try.func35, Try.ntmps35
    go_wp2_with fail
    refine (contains_valid _ _ _ l _ hm HS.out).mono ?_
    rintro e w1 ⟨rfl, hb1⟩
    go_wp2_with fail
    go_ret
    exact ⟨rfl, hb1⟩
  · have e : decide (l.length ≤ 366) = false := by simp [hl, h]
    rw [e, Bool.false_and]
    clear e
    go_enter Try.func35, Try.ntmps35
    go_wp2_with fail
    go_ret
    refine ⟨rfl, ?_⟩
    (repeat' (first | (with_reducible exact Below.refl _ _) | (with_reducible assumption) | (with_reducible exact Bw.out (by with_reducible assumption)) | (with_reducible refine bw_alloc ?_ _) | (with_reducible refine bw_step ?_ (by with_reducible assumption)) | (with_reducible refine Below.alloc ?_ ?_ _) | (with_reducible refine Below.drew ?_) | (with_reducible refine below_drewN ?_ _) | (with_reducible refine Below.setCell ?_ ?_ _) | (with_reducible refine below_step ?_ (by with_reducible assumption) ?_) | (with_reducible exact Nat.le_refl _) | omega | (simp; omega) | (simp; done)))

end Go.Proofs.Ytdijdfhlmnhcjaa
