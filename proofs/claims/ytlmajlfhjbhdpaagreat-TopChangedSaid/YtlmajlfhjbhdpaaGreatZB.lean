/-
 Stays, rooms, blocked nights: in memory; which are well-formed.
-/
import Derived.Test.YtlmajlfhjbhdpaaGreatZA
namespace Go.Proofs.YtlmajlfhjbhdpaaGreat
set_option linter.unusedSimpArgs false
set_option linter.unusedVariables false
open Go.RowKit
def inZ (n lo hi : Int) : Bool := decide (lo ≤ n) && decide (n ≤ hi)
theorem inZ_iff {n lo hi : Int} : inZ n lo hi = true ↔ lo ≤ n ∧ n ≤ hi := by unfold inZ; simp
/-- Spans. -/
def spE : Enc (Int × Int) := ⟨2, fun x => [.int .i64 x.1, .int .i64 x.2], fun _ => rfl, fun x u hu => by simp only [List.mem_cons, List.not_mem_nil, or_false] at hu; rcases hu with rfl | rfl <;> rfl, by decide⟩
theorem slS_get {w : World} {a : Option Addr} {n : Nat} {l : List (Int × Int)} (h : SlG spE w a n l) {i : Nat} (hi : i < n) :
  ∃ (f u : Int) (b off : Nat), Hid (l[i]? = some (f, u)) ∧ a = some ⟨b, off, none⟩ ∧ b < w.heap.size ∧ w.cell? ⟨b, off + i * 2, none⟩ = some (.int .i64 f) ∧ w.cell? ⟨b, off + i * 2 + 1, none⟩ = some (.int .i64 u) := by
 obtain ⟨⟨f, u⟩, b, off, h1, h2, h3, g⟩ := h.get hi
 exact ⟨f, u, b, off, h1, h2, h3, g 0 _ rfl, g 1 _ rfl⟩
def spanB (s : Int × Int) : Bool := decide (0 ≤ s.1) && (decide (s.1 < s.2) && decide (s.2 ≤ 1000000000))
def spansB (last : Int) : List (Int × Int) → Bool
 | [] => true
 | s :: r => (spanB s && decide (last < s.1)) && spansB s.2 r
def validS (l : List (Int × Int)) : Bool := spansB (-1) l && decide (l.length ≤ 1000)
/-- Stays. -/
structure StayV where
 id : Int
 kd : Int
 fr : Int
 un : Int
 ps : Int
 rm : Int
 wt : Int
 ac : Bool
 inn : Bool
def stE : Enc StayV := ⟨9, fun x => [.int .i64 x.id, .int .i64 x.kd, .int .i64 x.fr, .int .i64 x.un, .int .i64 x.ps, .int .i64 x.rm, .int .i64 x.wt, .bool x.ac, .bool x.inn], fun _ => rfl, fun x u hu => by simp only [List.mem_cons, List.not_mem_nil, or_false] at hu; rcases hu with rfl | rfl | rfl | rfl | rfl | rfl | rfl | rfl | rfl <;> rfl, by decide⟩
theorem slT_get {w : World} {a : Option Addr} {n : Nat} {l : List StayV} (h : SlG stE w a n l) {i : Nat} (hi : i < n) :
  ∃ (s : StayV) (b off : Nat), Hid (l[i]? = some s) ∧ a = some ⟨b, off, none⟩ ∧ b < w.heap.size ∧ w.cell? ⟨b, off + i * 9, none⟩ = some (.int .i64 s.id) ∧ w.cell? ⟨b, off + i * 9 + 1, none⟩ = some (.int .i64 s.kd) ∧ w.cell? ⟨b, off + i * 9 + 2, none⟩ = some (.int .i64 s.fr) ∧ w.cell? ⟨b, off + i * 9 + 3, none⟩ = some (.int .i64 s.un) ∧ w.cell? ⟨b, off + i * 9 + 4, none⟩ = some (.int .i64 s.ps) ∧ w.cell? ⟨b, off + i * 9 + 5, none⟩ = some (.int .i64 s.rm) ∧ w.cell? ⟨b, off + i * 9 + 6, none⟩ = some (.int .i64 s.wt) ∧ w.cell? ⟨b, off + i * 9 + 7, none⟩ = some (.bool s.ac) ∧ w.cell? ⟨b, off + i * 9 + 8, none⟩ = some (.bool s.inn) := by
 obtain ⟨s, b, off, h1, h2, h3, g⟩ := h.get hi
 exact ⟨s, b, off, h1, h2, h3, g 0 _ rfl, g 1 _ rfl, g 2 _ rfl, g 3 _ rfl, g 4 _ rfl, g 5 _ rfl, g 6 _ rfl, g 7 _ rfl, g 8 _ rfl⟩
/-- A stay that goes together with none, and is well-formed. -/
def StayV.Good (s : StayV) : Prop := (0 ≤ s.fr ∧ s.fr < s.un ∧ s.un ≤ 366 ∧ s.un - s.fr ≤ 60) ∧ (1 ≤ s.id ∧ s.id ≤ 1000000) ∧ (1 ≤ s.kd ∧ s.kd ≤ 20) ∧ (1 ≤ s.ps ∧ s.ps ≤ 8) ∧ (0 ≤ s.rm ∧ s.rm ≤ 1000000) ∧ s.wt = 0 ∧ (s.inn = true → s.rm ≠ 0)
structure GoodL (l : List StayV) : Prop where
 each : ∀ s ∈ l, s.Good
 ids : (l.map StayV.id).Nodup
 few : l.length ≤ 3000
/-- Rooms. -/
structure RoomV where
 id : Int
 ho : Int
 kd : Int
 jn : Int
 ac : Bool
 ba : Option Addr
 bc : Nat
 bl : List (Int × Int)
def rmE : Enc RoomV := ⟨6, fun x => [.int .i64 x.id, .int .i64 x.ho, .int .i64 x.kd, .int .i64 x.jn, .bool x.ac, .slice x.ba x.bl.length x.bc], fun _ => rfl, fun x u hu => by simp only [List.mem_cons, List.not_mem_nil, or_false] at hu; rcases hu with rfl | rfl | rfl | rfl | rfl | rfl <;> rfl, by decide⟩
def RoomV.In (w : World) (r : RoomV) : Prop := SlG spE w r.ba r.bl.length r.bl ∧ r.bl.length ≤ r.bc ∧ r.bc ≤ maxLen
theorem RoomV.In.step {w w1 : World} {r : RoomV} (h : r.In w) (hb : Below w.heap.size w w1) : r.In w1 := ⟨h.1.step hb, h.2⟩
theorem RoomV.In.big {w : World} {r : RoomV} (h : r.In w) : r.bl.length ≤ 9223372036854775807 := by
 obtain ⟨_, h1, h2⟩ := h
 unfold maxLen at h2
 omega
/-- The slice holds the rooms l. -/
def SlM (w : World) (a : Option Addr) (n : Nat) (l : List RoomV) : Prop := SlG rmE w a n l ∧ ∀ r ∈ l, r.In w
theorem SlM.step {w w1 : World} {a : Option Addr} {n : Nat} {l : List RoomV} (h : SlM w a n l) (hb : Below w.heap.size w w1) : SlM w1 a n l := ⟨h.1.step hb, fun r hr => (h.2 r hr).step hb⟩
theorem slM_get {w : World} {a : Option Addr} {n : Nat} {l : List RoomV} (h : SlM w a n l) {i : Nat} (hi : i < n) :
  ∃ (r : RoomV) (b off : Nat), Hid (l[i]? = some r) ∧ Hid (r.In w) ∧ a = some ⟨b, off, none⟩ ∧ b < w.heap.size ∧ w.cell? ⟨b, off + i * 6, none⟩ = some (.int .i64 r.id) ∧ w.cell? ⟨b, off + i * 6 + 1, none⟩ = some (.int .i64 r.ho) ∧ w.cell? ⟨b, off + i * 6 + 2, none⟩ = some (.int .i64 r.kd) ∧ w.cell? ⟨b, off + i * 6 + 3, none⟩ = some (.int .i64 r.jn) ∧ w.cell? ⟨b, off + i * 6 + 4, none⟩ = some (.bool r.ac) ∧ w.cell? ⟨b, off + i * 6 + 5, none⟩ = some (.slice r.ba r.bl.length r.bc) := by
 obtain ⟨r, b, off, h1, h2, h3, g⟩ := h.1.get hi
 exact ⟨r, b, off, h1, h.2 r (List.mem_of_getElem? h1.out), h2, h3, g 0 _ rfl, g 1 _ rfl, g 2 _ rfl, g 3 _ rfl, g 4 _ rfl, g 5 _ rfl⟩
def lateB (s : Int × Int) : Bool := decide (366 < s.2)
def formedR (r : RoomV) : Bool := inZ r.id 1 1000000 && (inZ r.ho 1 20 && (inZ r.kd 1 20 && (inZ r.jn 0 1000000 && (decide (r.jn ≠ r.id) && (validS r.bl && !r.bl.any lateB)))))
def joinsB (l : List RoomV) (r : RoomV) : Bool := decide (r.jn = 0) || l.any (fun o => decide (o.id = r.jn) && (decide (o.jn = r.id) && decide (o.ho = r.ho)))
def validM (l : List RoomV) : Bool := decide (l.length ≤ 400) && ((l.all formedR && decide ((l.map RoomV.id).Nodup)) && l.all (joinsB l))
theorem joinsB_perm {l l' : List RoomV} (h : l.Perm l') (r : RoomV) : joinsB l r = joinsB l' r := by
 unfold joinsB
 congr 1
 rw [Bool.eq_iff_iff, List.any_eq_true, List.any_eq_true]
 exact ⟨fun ⟨x, hx, e⟩ => ⟨x, h.mem_iff.1 hx, e⟩, fun ⟨x, hx, e⟩ => ⟨x, h.mem_iff.2 hx, e⟩⟩
theorem all_perm {β : Type} {l l' : List β} (h : l.Perm l') (p : β → Bool) : l.all p = l'.all p := by
 rw [Bool.eq_iff_iff, List.all_eq_true, List.all_eq_true]
 exact ⟨fun H x hx => H x (h.mem_iff.2 hx), fun H x hx => H x (h.mem_iff.1 hx)⟩
theorem validM_perm {l l' : List RoomV} (h : l.Perm l') : validM l = validM l' := by
 unfold validM
 have e : joinsB l = joinsB l' := funext (joinsB_perm h)
 rw [h.length_eq, all_perm h, all_perm h, e, show decide ((l.map RoomV.id).Nodup) = decide ((l'.map RoomV.id).Nodup) from decide_eq_decide.2 (h.map _).nodup_iff]
theorem validM_in {l : List RoomV} (h : validM l = true) : l.length ≤ 400 ∧ (∀ r ∈ l, formedR r = true) ∧ (l.map RoomV.id).Nodup := by
 unfold validM at h
 simp only [Bool.and_eq_true, decide_eq_true_eq, List.all_eq_true] at h
 exact ⟨h.1, h.2.1.1, h.2.1.2⟩
theorem formedR_in {r : RoomV} (h : formedR r = true) : (1 ≤ r.id ∧ r.id ≤ 1000000) ∧ (0 ≤ r.jn ∧ r.jn ≤ 1000000) ∧ r.jn ≠ r.id ∧ validS r.bl = true := by
 unfold formedR at h
 simp only [Bool.and_eq_true, inZ_iff, decide_eq_true_eq] at h
 exact ⟨h.1, h.2.2.2.1, h.2.2.2.2.1, h.2.2.2.2.2.1⟩
end Go.Proofs.YtlmajlfhjbhdpaaGreat
