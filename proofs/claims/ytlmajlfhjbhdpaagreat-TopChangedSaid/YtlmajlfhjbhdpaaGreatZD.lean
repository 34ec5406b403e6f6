/-
 slices.IndexFunc, slices.ContainsFunc at stays, rooms, spans: the first element of which the predicate holds.
-/
import Derived.Test.YtlmajlfhjbhdpaaGreatZC
namespace Go.Proofs.YtlmajlfhjbhdpaaGreat
set_option linter.unusedSimpArgs false
set_option linter.unusedVariables false
open Go.RowKit
/-- The index of the first element of which p holds, or -1. -/
def idxP {α : Type} (p : α → Bool) : List α → Nat → Int
 | [], _ => -1
 | x :: r, i => if p x then (i : Int) else idxP p r (i + 1)
theorem idxP_miss {α : Type} {p : α → Bool} : ∀ {l : List α} {i : Nat}, (∀ x ∈ l, p x = false) → idxP p l i = -1
 | [], _, _ => rfl
 | x :: r, i, h => by
  unfold idxP
  rw [h x (by simp), if_neg (by simp)]
  exact idxP_miss (fun y hy => h y (by simp [hy]))
theorem idxP_cases {α : Type} (p : α → Bool) : ∀ (l : List α) (i : Nat), (idxP p l i = -1 ∧ ∀ x ∈ l, p x = false) ∨ ∃ (j : Nat) (x : α), idxP p l i = ((i + j : Nat) : Int) ∧ l[j]? = some x ∧ p x = true
 | [], i => Or.inl ⟨rfl, fun x h => by simp at h⟩
 | x :: r, i => by
  unfold idxP
  by_cases hp : p x = true
  ·
   exact Or.inr ⟨0, x, by rw [if_pos hp]; rfl, rfl, hp⟩
  ·
   rw [if_neg hp]
   rcases idxP_cases p r (i + 1) with ⟨h1, h2⟩ | ⟨j, y, h1, h2, h3⟩
   ·
    refine Or.inl ⟨h1, fun z hz => ?_⟩
    rcases List.mem_cons.1 hz with rfl | hz
    ·
     simpa using hp
    ·
     exact h2 z hz
   ·
    exact Or.inr ⟨j + 1, y, by rw [h1]; omega, by simpa using h2, h3⟩
theorem idxP_step {α : Type} {p : α → Bool} {l : List α} {k : Nat} {x : α} (h : l[k]? = some x) : idxP p (l.drop k) k = if p x then (k : Int) else idxP p (l.drop (k + 1)) (k + 1) := by
 obtain ⟨hk, e⟩ := List.getElem?_eq_some_iff.1 h
 rw [List.drop_eq_getElem_cons hk, e]
 rfl
theorem idxP_any {α : Type} (p : α → Bool) (l : List α) : decide (0 ≤ idxP p l 0) = l.any p := by
 rcases idxP_cases p l 0 with ⟨h1, h2⟩ | ⟨j, x, h1, h2, h3⟩
 ·
  rw [h1, show l.any p = false from by rw [List.any_eq_false]; intro x hx; simpa using h2 x hx]
  rfl
 ·
  rw [h1, show l.any p = true from List.any_eq_true.2 ⟨x, List.mem_of_getElem? h2, h3⟩]
  simp
set_option maxRecDepth 100000 in
set_option maxHeartbeats 1600000 in
theorem idxT_any (a : Option Addr) (n cap : Nat) (l : List StayV) (w : World) (hm : n ≤ 9223372036854775807) (hs : SlG stE w a n l) (hl : l.length = n) (g : Nat) (lb : Array Value) (eg : ∀ args w, (callFunc g args).run Tryz.prog w = .ok (.enter g args) w) (p : StayV → Bool)
  (hp : ∀ W x, x ∈ l → Below w.heap.size w W → Calls Tryz.prog g (#[.agg (stE.c x).toArray] ++ lb) W fun e w' => e = .returned (.bool (p x)) ∧ Below W.heap.size W w') (R : Int) (hR : idxP p l 0 = R) :
  Calls Tryz.prog 48 #[.slice a n cap, .func (.func g) #[] lb] w fun e w' => e = .returned (.int .i64 R) ∧ Below w.heap.size w w' := by
 have HS := Lib.hid hs
 have HL := Lib.hid hl
 have HR := Lib.hid hR
 have HP := Lib.hid hp
 clear hs hR hp hl
 go_enter Tryz.func48, Tryz.ntmps48
 go_wp2_with fail
 go_loopw [5, 8] (fun _ i wr => ∃ k : Nat, k ≤ n ∧ i = .int .i64 k ∧ Hid (R = idxP p (l.drop k) k) ∧ Hid (Below w.heap.size w wr)) (fun _ i _ => n - (intOf i).toNat)
 case atStart => exact ⟨0, Nat.zero_le _, rfl, HR.out.symm, Below.refl _ _⟩
 case round =>
  obtain ⟨k, hk, rfl, hT, hB⟩ := hrel
  by_cases hkn : k < n
  ·
   have hsr := HS.out.step hB.out
   obtain ⟨s, b, off, hx, rfl, hlb, x0, x1, x2, x3, x4, x5, x6, x7, x8⟩ := slT_get hsr hkn
   clear hsr
   have HX := Lib.hid (idxP_step (p := p) hx.out)
   have hcall := HP.out wr s (List.mem_of_getElem? hx.out) hB.out
   have i1 : (0 : Int) ≤ (k : Int) := by omega
   have i2 : (k : Int) < (n : Int) := by omega
   replace hcall : Calls Tryz.prog g (#[.agg #[.int .i64 s.id, .int .i64 s.kd, .int .i64 s.fr, .int .i64 s.un, .int .i64 s.ps, .int .i64 s.rm, .int .i64 s.wt, .bool s.ac, .bool s.inn]] ++ lb) wr fun e w' => e = .returned (.bool (p s)) ∧ Below wr.heap.size wr w' := hcall
   obtain ⟨q, hq⟩ : ∃ q, p s = q := ⟨_, rfl⟩
   rw [hq] at hcall
   have HQ := Lib.hid hq
   clear hq
   cases q with
   | false =>
    have HT2 : Hid (R = idxP p (l.drop (k + 1)) (k + 1)) := by show _ = _; rw [hT.out, HX.out, HQ.out]; rfl
    go_wp2_with (go_at_fn g; refine hcall.mono ?_; rintro e w2 ⟨rfl, hb2⟩)
    have HB2 : Hid (Below w.heap.size w w2) := hB.out.trans (hb2.mono hB.out.size)
    go_roundw
    case rel => exact ⟨k + 1, by omega, by go_num, HT2, HB2⟩
    case measure => simp [intOf]; omega
   | true =>
    have hr : R = k := by rw [hT.out, HX.out, HQ.out]; rfl
    subst hr
    clear HR hT HX
    go_wp2_with (go_at_fn g; refine hcall.mono ?_; rintro e w2 ⟨rfl, hb2⟩)
    go_ret
    exact ⟨rfl, hB.out.trans (hb2.mono hB.out.size)⟩
  ·
   obtain rfl : k = n := by omega
   have hr : R = -1 := by
    rw [hT.out, List.drop_of_length_le (by rw [HL.out]; omega)]
    rfl
   subst hr
   go_wp2_with fail
   go_ret
   exact ⟨rfl, hB.out⟩
set_option maxRecDepth 100000 in
set_option maxHeartbeats 1600000 in
theorem idxM_any (a : Option Addr) (n cap : Nat) (l : List RoomV) (w : World) (hm : n ≤ 9223372036854775807) (hs : SlM w a n l) (hl : l.length = n) (g : Nat) (lb : Array Value) (eg : ∀ args w, (callFunc g args).run Tryz.prog w = .ok (.enter g args) w) (p : RoomV → Bool)
  (hp : ∀ W x, x ∈ l → Below w.heap.size w W → Calls Tryz.prog g (#[.agg (rmE.c x).toArray] ++ lb) W fun e w' => e = .returned (.bool (p x)) ∧ Below W.heap.size W w') (R : Int) (hR : idxP p l 0 = R) :
  Calls Tryz.prog 53 #[.slice a n cap, .func (.func g) #[] lb] w fun e w' => e = .returned (.int .i64 R) ∧ Below w.heap.size w w' := by
 have HS := Lib.hid hs
 have HL := Lib.hid hl
 have HR := Lib.hid hR
 have HP := Lib.hid hp
 clear hs hR hp hl
 go_enter Tryz.func53, Tryz.ntmps53
 go_wp2_with fail
 go_loopw [5, 8] (fun _ i wr => ∃ k : Nat, k ≤ n ∧ i = .int .i64 k ∧ Hid (R = idxP p (l.drop k) k) ∧ Hid (Below w.heap.size w wr)) (fun _ i _ => n - (intOf i).toNat)
 case atStart => exact ⟨0, Nat.zero_le _, rfl, HR.out.symm, Below.refl _ _⟩
 case round =>
  obtain ⟨k, hk, rfl, hT, hB⟩ := hrel
  by_cases hkn : k < n
  ·
   have hsr := HS.out.step hB.out
   obtain ⟨s, b, off, hx, _, rfl, hlb, x0, x1, x2, x3, x4, x5⟩ := slM_get hsr hkn
   clear hsr
   have HX := Lib.hid (idxP_step (p := p) hx.out)
   have hcall := HP.out wr s (List.mem_of_getElem? hx.out) hB.out
   have i1 : (0 : Int) ≤ (k : Int) := by omega
   have i2 : (k : Int) < (n : Int) := by omega
   replace hcall : Calls Tryz.prog g (#[.agg #[.int .i64 s.id, .int .i64 s.ho, .int .i64 s.kd, .int .i64 s.jn, .bool s.ac, .slice s.ba s.bl.length s.bc]] ++ lb) wr fun e w' => e = .returned (.bool (p s)) ∧ Below wr.heap.size wr w' := hcall
   obtain ⟨q, hq⟩ : ∃ q, p s = q := ⟨_, rfl⟩
   rw [hq] at hcall
   have HQ := Lib.hid hq
   clear hq
   cases q with
   | false =>
    have HT2 : Hid (R = idxP p (l.drop (k + 1)) (k + 1)) := by show _ = _; rw [hT.out, HX.out, HQ.out]; rfl
    go_wp2_with (go_at_fn g; refine hcall.mono ?_; rintro e w2 ⟨rfl, hb2⟩)
    have HB2 : Hid (Below w.heap.size w w2) := hB.out.trans (hb2.mono hB.out.size)
    go_roundw
    case rel => exact ⟨k + 1, by omega, by go_num, HT2, HB2⟩
    case measure => simp [intOf]; omega
   | true =>
    have hr : R = k := by rw [hT.out, HX.out, HQ.out]; rfl
    subst hr
    clear HR hT HX
    go_wp2_with (go_at_fn g; refine hcall.mono ?_; rintro e w2 ⟨rfl, hb2⟩)
    go_ret
    exact ⟨rfl, hB.out.trans (hb2.mono hB.out.size)⟩
  ·
   obtain rfl : k = n := by omega
   have hr : R = -1 := by
    rw [hT.out, List.drop_of_length_le (by rw [HL.out]; omega)]
    rfl
   subst hr
   go_wp2_with fail
   go_ret
   exact ⟨rfl, hB.out⟩
set_option maxRecDepth 100000 in
set_option maxHeartbeats 1600000 in
theorem idxH_any (a : Option Addr) (n cap : Nat) (l : List RoomV) (w : World) (hm : n ≤ 9223372036854775807) (hs : SlM w a n l) (hl : l.length = n) (g : Nat) (lb : Array Value) (eg : ∀ args w, (callFunc g args).run Tryz.prog w = .ok (.enter g args) w) (p : RoomV → Bool)
  (hp : ∀ W x, x ∈ l → Below w.heap.size w W → Calls Tryz.prog g (#[.agg (rmE.c x).toArray] ++ lb) W fun e w' => e = .returned (.bool (p x)) ∧ Below W.heap.size W w') (R : Int) (hR : idxP p l 0 = R) :
  Calls Tryz.prog 99 #[.slice a n cap, .func (.func g) #[] lb] w fun e w' => e = .returned (.int .i64 R) ∧ Below w.heap.size w w' := by
 have HS := Lib.hid hs
 have HL := Lib.hid hl
 have HR := Lib.hid hR
 have HP := Lib.hid hp
 clear hs hR hp hl
 go_enter Tryz.func99, Tryz.ntmps99
 go_wp2_with fail
 go_loopw [5, 8] (fun _ i wr => ∃ k : Nat, k ≤ n ∧ i = .int .i64 k ∧ Hid (R = idxP p (l.drop k) k) ∧ Hid (Below w.heap.size w wr)) (fun _ i _ => n - (intOf i).toNat)
 case atStart => exact ⟨0, Nat.zero_le _, rfl, HR.out.symm, Below.refl _ _⟩
 case round =>
  obtain ⟨k, hk, rfl, hT, hB⟩ := hrel
  by_cases hkn : k < n
  ·
   have hsr := HS.out.step hB.out
   obtain ⟨s, b, off, hx, _, rfl, hlb, x0, x1, x2, x3, x4, x5⟩ := slM_get hsr hkn
   clear hsr
   have HX := Lib.hid (idxP_step (p := p) hx.out)
   have hcall := HP.out wr s (List.mem_of_getElem? hx.out) hB.out
   have i1 : (0 : Int) ≤ (k : Int) := by omega
   have i2 : (k : Int) < (n : Int) := by omega
   replace hcall : Calls Tryz.prog g (#[.agg #[.int .i64 s.id, .int .i64 s.ho, .int .i64 s.kd, .int .i64 s.jn, .bool s.ac, .slice s.ba s.bl.length s.bc]] ++ lb) wr fun e w' => e = .returned (.bool (p s)) ∧ Below wr.heap.size wr w' := hcall
   obtain ⟨q, hq⟩ : ∃ q, p s = q := ⟨_, rfl⟩
   rw [hq] at hcall
   have HQ := Lib.hid hq
   clear hq
   cases q with
   | false =>
    have HT2 : Hid (R = idxP p (l.drop (k + 1)) (k + 1)) := by show _ = _; rw [hT.out, HX.out, HQ.out]; rfl
    go_wp2_with (go_at_fn g; refine hcall.mono ?_; rintro e w2 ⟨rfl, hb2⟩)
    have HB2 : Hid (Below w.heap.size w w2) := hB.out.trans (hb2.mono hB.out.size)
    go_roundw
    case rel => exact ⟨k + 1, by omega, by go_num, HT2, HB2⟩
    case measure => simp [intOf]; omega
   | true =>
    have hr : R = k := by rw [hT.out, HX.out, HQ.out]; rfl
    subst hr
    clear HR hT HX
    go_wp2_with (go_at_fn g; refine hcall.mono ?_; rintro e w2 ⟨rfl, hb2⟩)
    go_ret
    exact ⟨rfl, hB.out.trans (hb2.mono hB.out.size)⟩
  ·
   obtain rfl : k = n := by omega
   have hr : R = -1 := by
    rw [hT.out, List.drop_of_length_le (by rw [HL.out]; omega)]
    rfl
   subst hr
   go_wp2_with fail
   go_ret
   exact ⟨rfl, hB.out⟩
set_option maxRecDepth 100000 in
set_option maxHeartbeats 1600000 in
theorem idxS_any (a : Option Addr) (n cap : Nat) (l : List (Int × Int)) (w : World) (hm : n ≤ 9223372036854775807) (hs : SlG spE w a n l) (hl : l.length = n) (g : Nat) (lb : Array Value) (eg : ∀ args w, (callFunc g args).run Tryz.prog w = .ok (.enter g args) w) (p : (Int × Int) → Bool)
  (hp : ∀ W x, x ∈ l → Below w.heap.size w W → Calls Tryz.prog g (#[.agg (spE.c x).toArray] ++ lb) W fun e w' => e = .returned (.bool (p x)) ∧ Below W.heap.size W w') (R : Int) (hR : idxP p l 0 = R) :
  Calls Tryz.prog 75 #[.slice a n cap, .func (.func g) #[] lb] w fun e w' => e = .returned (.int .i64 R) ∧ Below w.heap.size w w' := by
 have HS := Lib.hid hs
 have HL := Lib.hid hl
 have HR := Lib.hid hR
 have HP := Lib.hid hp
 clear hs hR hp hl
 go_enter Tryz.func75, Tryz.ntmps75
 go_wp2_with fail
 go_loopw [5, 8] (fun _ i wr => ∃ k : Nat, k ≤ n ∧ i = .int .i64 k ∧ Hid (R = idxP p (l.drop k) k) ∧ Hid (Below w.heap.size w wr)) (fun _ i _ => n - (intOf i).toNat)
 case atStart => exact ⟨0, Nat.zero_le _, rfl, HR.out.symm, Below.refl _ _⟩
 case round =>
  obtain ⟨k, hk, rfl, hT, hB⟩ := hrel
  by_cases hkn : k < n
  ·
   have hsr := HS.out.step hB.out
   obtain ⟨f, u, b, off, hx, rfl, hlb, x0, x1⟩ := slS_get hsr hkn
   clear hsr
   have HX := Lib.hid (idxP_step (p := p) hx.out)
   have hcall := HP.out wr (f, u) (List.mem_of_getElem? hx.out) hB.out
   have i1 : (0 : Int) ≤ (k : Int) := by omega
   have i2 : (k : Int) < (n : Int) := by omega
   replace hcall : Calls Tryz.prog g (#[.agg #[.int .i64 f, .int .i64 u]] ++ lb) wr fun e w' => e = .returned (.bool (p (f, u))) ∧ Below wr.heap.size wr w' := hcall
   obtain ⟨q, hq⟩ : ∃ q, p (f, u) = q := ⟨_, rfl⟩
   rw [hq] at hcall
   have HQ := Lib.hid hq
   clear hq
   cases q with
   | false =>
    have HT2 : Hid (R = idxP p (l.drop (k + 1)) (k + 1)) := by show _ = _; rw [hT.out, HX.out, HQ.out]; rfl
    go_wp2_with (go_at_fn g; refine hcall.mono ?_; rintro e w2 ⟨rfl, hb2⟩)
    have HB2 : Hid (Below w.heap.size w w2) := hB.out.trans (hb2.mono hB.out.size)
    go_roundw
    case rel => exact ⟨k + 1, by omega, by go_num, HT2, HB2⟩
    case measure => simp [intOf]; omega
   | true =>
    have hr : R = k := by rw [hT.out, HX.out, HQ.out]; rfl
    subst hr
    clear HR hT HX
    go_wp2_with (go_at_fn g; refine hcall.mono ?_; rintro e w2 ⟨rfl, hb2⟩)
    go_ret
    exact ⟨rfl, hB.out.trans (hb2.mono hB.out.size)⟩
  ·
   obtain rfl : k = n := by omega
   have hr : R = -1 := by
    rw [hT.out, List.drop_of_length_le (by rw [HL.out]; omega)]
    rfl
   subst hr
   go_wp2_with fail
   go_ret
   exact ⟨rfl, hB.out⟩
end Go.Proofs.YtlmajlfhjbhdpaaGreat
