/-
 The rooms of a slice, one after the other: slices.Values, slices.AppendSeq, slices.Collect, slices.SortedFunc at rooms.
-/
import Derived.Test.YtlmajlfhjbhdpaaGreatZN
import Derived.Test.YtlmajlfhjbhdpaaGreatZG
namespace Go.Proofs.YtlmajlfhjbhdpaaGreat
set_option linter.unusedSimpArgs false
set_option linter.unusedVariables false
open Go.RowKit Go.Shelf
attribute [local go_sem] Oper.semAt_some
theorem rmI : InfoG rmE 42 (.agg #[.int .i64 0, .int .i64 0, .int .i64 0, .int .i64 0, .bool false, .slice none 0 0]) 64 := ⟨by kernel_rfl, by kernel_rfl⟩
abbrev encR (r : RoomV) : Array Value := #[.agg #[.int .i64 r.id, .int .i64 r.ho, .int .i64 r.kd, .int .i64 r.jn, .bool r.ac, .slice r.ba r.bl.length r.bc]]
theorem SlG.keepsO {α : Type} {E : Enc α} {own : World → Nat → Prop} {A B : World} {a : Option Addr} {n : Nat} {l : List α} (h : SlG E A a n l) (k : KeepsO own A B) (hn : ∀ b o, a = some ⟨b, o, none⟩ → ¬ own A b) : SlG E B a n l := by
 refine ⟨h.1, fun i x hx => ?_⟩
 obtain ⟨b, off, ha, hc⟩ := h.2 i x hx
 refine ⟨b, off, ha, fun j v hj => ?_⟩
 have hb := hn b off ha
 have hcj := hc j v hj
 cases hbk : A.heap[b]? with
 | none => simp [World.cell?, hbk] at hcj
 | some o =>
  cases o with
  | cells cs T fr =>
   have e := k.2.1 b cs T fr hbk hb
   rw [← hcj]; simp only [World.cell?]; rw [e]
  | _ => simp [World.cell?, hbk] at hcj
theorem take_snoc {α : Type} {l : List α} {k : Nat} {x : α} (h : l[k]? = some x) : l.take (k + 1) = l.take k ++ [x] := by
 obtain ⟨hk, e⟩ := List.getElem?_eq_some_iff.1 h
 rw [List.take_succ_eq_append_getElem hk, e]
set_option maxRecDepth 100000 in
set_option maxHeartbeats 6400000 in
theorem values_stops (own : World → Nat → Prop) (m : Nat) (hm : 1 ≤ m) (B1 : Nat) (a : Option Addr) (n cap : Nat) (l : List RoomV) (w : World) (hr : Row w B1 [.slice a n cap]) (hs : SlG rmE w a n l) (hn : n ≤ 1000)
  (hown : ∀ A g, (g = B1 ∨ ∃ off, a = some ⟨g, off, none⟩ ∧ 0 < n) → ¬ own A g) :
  SeqT 42 Fence.wide m Tryz.prog 79 #[.pointer (some ⟨B1, 0, none⟩)] encR (KeepsO own) (fun xs => xs = l) (fun pre => pre <+: l) 1000 w := fun y J Jx W hW hJ hY h0J => by
 have HL := Lib.hid hs.1
 have HS := Lib.hid (hs.step hW)
 have HY := Lib.hid hY
 have HJA := Lib.hid hJ
 have HO := Lib.hid hown
 have HR := Lib.hid (hr.step hW)
 have c1 := HR.out.cell 0 rfl
 clear hr hs hown hY hJ hW
 refine callsIn_of_wp Tryz.func79 rfl trivial ?_ rfl
 simp only [Tryz.ntmps79, List.size_toArray, List.length_cons, List.length_nil, Nat.reduceAdd, Nat.reduceSub, Array.replicate_succ, Array.replicate_zero, List.push_toArray, List.append_toArray, List.nil_append, List.cons_append]
 gi_wp2_with fail
 gi_loopw [4, 7] (fun _ i wr => ∃ k : Nat, k ≤ n ∧ i = .int .i64 k ∧ Hid (J (l.take k) wr) ∧ Hid (SlG rmE wr a n l) ∧ Hid (W.heap.size ≤ wr.heap.size)) (fun _ i _ => n - (intOf i).toNat)
 case atStart => exact ⟨0, Nat.zero_le _, rfl, by show J _ _; rw [List.take_zero]; exact h0J, HS.out, Nat.le_refl _⟩
 case round =>
  obtain ⟨k, hk, rfl, hJr, hSr, hsz⟩ := hrel
  have hsz' := hsz.out
  by_cases hkn : k < n
  ·
   obtain ⟨r, b, off, hx, rfl, hlb, x0, x1, x2, x3, x4, x5⟩ : ∃ (r : RoomV) (b off : Nat), Hid (l[k]? = some r) ∧ a = some ⟨b, off, none⟩ ∧ b < wr.heap.size ∧ wr.cell? ⟨b, off + k * 6, none⟩ = some (.int .i64 r.id) ∧ wr.cell? ⟨b, off + k * 6 + 1, none⟩ = some (.int .i64 r.ho) ∧ wr.cell? ⟨b, off + k * 6 + 2, none⟩ = some (.int .i64 r.kd) ∧ wr.cell? ⟨b, off + k * 6 + 3, none⟩ = some (.int .i64 r.jn) ∧ wr.cell? ⟨b, off + k * 6 + 4, none⟩ = some (.bool r.ac) ∧ wr.cell? ⟨b, off + k * 6 + 5, none⟩ = some (.slice r.ba r.bl.length r.bc) := by
    obtain ⟨r, b, off, h1, h2, h3, g⟩ := hSr.out.get hkn
    exact ⟨r, b, off, h1, h2, h3, g 0 _ rfl, g 1 _ rfl, g 2 _ rfl, g 3 _ rfl, g 4 _ rfl, g 5 _ rfl⟩
   have hts := take_snoc hx.out
   have HTS := Lib.hid hts
   have hpf : l.take k ++ [r] <+: l := by rw [← hts]; exact List.take_prefix _ _
   have HPF := Lib.hid hpf
   obtain ⟨w6, hw6⟩ : ∃ w6, wr.alloc (.cells #[.int .i64 r.id, .int .i64 r.ho, .int .i64 r.kd, .int .i64 r.jn, .bool r.ac, .slice r.ba r.bl.length r.bc] 42) = w6 := ⟨_, rfl⟩
   obtain ⟨bx, hbx⟩ : ∃ bx, wr.heap.size = bx := ⟨_, rfl⟩
   have hal : Below wr.heap.size wr w6 := by rw [← hw6]; exact (Below.refl _ _).alloc (Nat.le_refl _) _
   have R6 : Row w6 bx [.int .i64 r.id, .int .i64 r.ho, .int .i64 r.kd, .int .i64 r.jn, .bool r.ac, .slice r.ba r.bl.length r.bc] := by rw [← hw6, ← hbx]; exact Row.new' _ _ _ rfl
   have y0 := R6.cell 0 rfl
   have y1 := R6.cell 1 rfl
   have y2 := R6.cell 2 rfl
   have y3 := R6.cell 3 rfl
   have y4 := R6.cell 4 rfl
   have y5 := R6.cell 5 rfl
   have HJ6 := Lib.hid (HJA.out _ _ _ hJr.out (hal.mono (by omega)) (KeepT.of_below hal))
   have HS6 := Lib.hid (hSr.out.step hal)
   have hs6 := hal.size
   obtain ⟨fn, tmps, assign, body, hy, hR⟩ := HY.out (l.take k) r w6 HJ6.out hpf (by rw [List.length_take]; omega)
   dsimp only [encR] at hy
   have i1 : (0 : Int) ≤ (k : Int) := by omega
   have i2 : (k : Int) < (n : Int) := by omega
   clear hts hpf hal
   gi_wp2_with fail
   refine hR.mono ?_
   have n3 := HO.out w6 b (Or.inr ⟨off, rfl, by omega⟩)
   rintro e W3 (⟨rfl, hJ3, hk3⟩ | ⟨rfl, hJx3⟩)
   ·
    rw [← HTS.out] at hJ3
    have H3 := Lib.hid hJ3
    have H4 := Lib.hid (HS6.out.keepsO hk3 (fun b' o e => by cases e; exact n3))
    have H5 : Hid (W.heap.size ≤ W3.heap.size) := Nat.le_trans hsz' (Nat.le_trans hs6 hk3.1)
    clear hJ3 hk3 n3 hy hR y0 y1 y2 y3 y4 y5 R6
    gi_wp2_with fail
    go_roundw
    case rel => exact ⟨k + 1, by omega, by go_num, H3, H4, H5⟩
    case measure => simp [intOf]; omega
   ·
    have H3 := Lib.hid hJx3
    clear hJx3 n3
    gi_wp2_with fail
    refine bodyPost_ret (results_none rfl _ _ _) rfl ?_
    exact ⟨⟨_, rfl⟩, .inr ⟨_, HPF.out, H3.out⟩⟩
  ·
   obtain rfl : k = n := by omega
   gi_wp2_with fail
   go_end0
   refine ⟨⟨_, rfl⟩, .inl ⟨_, rfl, ?_⟩⟩
   have := hJr.out
   rwa [List.take_of_length_le (by rw [HL.out]; omega)] at this
end Go.Proofs.YtlmajlfhjbhdpaaGreat
