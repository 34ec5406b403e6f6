/-
 The walks of package span: ends; the order of ends.
-/
import Derived.Test.YtlmajlfhjbhdpaaGreatZC
import Derived.Shelf.SlSortCmp.WholeK
import Derived.Shelf.SlicesG.Cmp
import Derived.Shelf.Lay
import Derived.Ground.SlsfProg
import Derived.Ground.SlgcProg
namespace Go.Proofs.YtlmajlfhjbhdpaaGreat
set_option linter.unusedSimpArgs false
set_option linter.unusedVariables false
open Go.RowKit
/-- Three ints. -/
def trE : Enc (Int × Int × Int) := ⟨3, fun x => [.int .i64 x.1, .int .i64 x.2.1, .int .i64 x.2.2], fun _ => rfl, fun x u hu => by simp only [List.mem_cons, List.not_mem_nil, or_false] at hu; rcases hu with rfl | rfl | rfl <;> rfl, by decide⟩
theorem trI : InfoG trE 87 (.agg #[.int .i64 0, .int .i64 0, .int .i64 0]) 24 := ⟨by kernel_rfl, by kernel_rfl⟩
theorem slE_get {w : World} {a : Option Addr} {n : Nat} {l : List (Int × Int × Int)} (h : SlG trE w a n l) {i : Nat} (hi : i < n) :
  ∃ (x m d : Int) (b off : Nat), Hid (l[i]? = some (x, m, d)) ∧ a = some ⟨b, off, none⟩ ∧ b < w.heap.size ∧ w.cell? ⟨b, off + i * 3, none⟩ = some (.int .i64 x) ∧ w.cell? ⟨b, off + i * 3 + 1, none⟩ = some (.int .i64 m) ∧ w.cell? ⟨b, off + i * 3 + 2, none⟩ = some (.int .i64 d) := by
 obtain ⟨⟨x, m, d⟩, b, off, h1, h2, h3, g⟩ := h.get hi
 exact ⟨x, m, d, b, off, h1, h2, h3, g 0 _ rfl, g 1 _ rfl, g 2 _ rfl⟩
/-- The ends of spans, with a mark. -/
def endsL (m : Int) (l : List (Int × Int)) : List (Int × Int × Int) := l.flatMap (fun s => [(s.1, m, 1), (s.2, m, -1)])
theorem endsL_len (m : Int) : ∀ l : List (Int × Int), (endsL m l).length = 2 * l.length
 | [] => rfl
 | x :: r => by
  have := endsL_len m r
  unfold endsL at *
  rw [List.flatMap_cons, List.length_append, this, List.length_cons]
  simp
  omega
theorem endsL_take {m : Int} {l : List (Int × Int)} {k : Nat} {f u : Int} (h : l[k]? = some (f, u)) : endsL m (l.take (k + 1)) = endsL m (l.take k) ++ [(f, m, 1), (u, m, -1)] := by
 obtain ⟨hk, e⟩ := List.getElem?_eq_some_iff.1 h
 unfold endsL
 rw [List.take_succ_eq_append_getElem hk, e, List.flatMap_append]
 rfl
set_option maxRecDepth 100000 in
set_option maxHeartbeats 3200000 in
theorem ends_any (a : Option Addr) (n cap : Nat) (l : List (Int × Int)) (m : Int) (w : World) (hm : n ≤ 1000000) (hs : SlG spE w a n l) :
  Calls Tryz.prog 129 #[.slice a n cap, .int .i64 m] w fun e w' => ∃ ad cp, e = .returned (.slice ad (2 * n) cp) ∧ OwnG trE 87 w' w.heap.size (.slice ad (2 * n) cp) (endsL m l) ∧ Below w.heap.size w w' := by
 have HS := Lib.hid hs
 have HL := Lib.hid hs.1
 clear hs
 go_enter Tryz.func129, Tryz.ntmps129
 go_wp2_with fail
 go_loopw [5, 7, 10] (fun v _ i wr => ∃ (k : Nat) (ad : Option Addr) (cp : Nat), k ≤ n ∧ i = .int .i64 k ∧ v = .slice ad (2 * k) cp ∧ Hid (OwnG trE 87 wr w.heap.size (.slice ad (2 * k) cp) (endsL m (l.take k))) ∧ Hid (Below w.heap.size w wr)) (fun _ _ i _ => n - (intOf i).toNat)
 case atStart => exact ⟨0, none, 0, Nat.zero_le _, rfl, rfl, by show OwnG _ _ _ _ _ _; rw [List.take_zero]; exact OwnG.nil _ _ _ _, Below.refl _ _⟩
 case round =>
  obtain ⟨k, ad, cp, hk, rfl, rfl, hO, hB⟩ := hrel
  by_cases hlt : k < n
  ·
   obtain ⟨f, u, b, off, hx, rfl, hlb, x0, x1⟩ := slS_get (HS.out.step hB.out) hlt
   have HTK := Lib.hid (endsL_take (m := m) hx.out)
   have HLk : Hid ((endsL m (l.take k)).length = 2 * k) := by show _ = _; rw [endsL_len, List.length_take, HL.out]; omega
   have i1 : (0 : Int) ≤ (k : Int) := by omega
   have i2 : (k : Int) < (n : Int) := by omega
   have hsz := hB.out.size
   clear hx
   go_wp2_with (at_builtin; refine wpList_append_G trI rfl _ _ _ rfl Tryz.underlying177 w.heap.size (l := endsL m (l.take k)) rfl ((hO.out.alloc _).alloc _) (m := 2) (c := 2) (ys := [(f, m, 1), (u, m, -1)]) rfl (SlG.row (rest := []) (Row.new' _ [.int .i64 f, .int .i64 m, .int .i64 1, .int .i64 u, .int .i64 m, .int .i64 (-1)] _ (by simp)) rfl) (by rw [HLk.out]; omega) (by rw [HLk.out]; omega) (by simp; omega) ?_; intro v' w5 hown1 _ _ hbl1)
   have H7 := Lib.hid (hbl1 w (((hB.out).alloc (by omega) _).alloc (by simp; omega) _))
   rw [← HTK.out] at hown1
   obtain ⟨ad3, cp3, rfl, ho3, _⟩ := hown1.shape (n := 2 * (k + 1)) (by rw [endsL_len, List.length_take, HL.out]; omega)
   have H1 := Lib.hid ho3
   clear hown1 hbl1 ho3
   go_wp2_with fail
   go_roundw
   case rel => exact ⟨k + 1, ad3, cp3, by omega, by go_num, rfl, H1.out, H7.out⟩
   case measure => simp [intOf]; omega
  ·
   obtain rfl : k = n := by omega
   have HV : Hid (OwnG trE 87 wr w.heap.size (.slice ad (2 * k) cp) (endsL m l)) := by
    have := hO.out
    rwa [List.take_of_length_le (by rw [HL.out]; omega)] at this
   go_wp2_with fail
   go_ret
   exact ⟨_, _, rfl, HV.out, hB.out⟩
end Go.Proofs.YtlmajlfhjbhdpaaGreat
