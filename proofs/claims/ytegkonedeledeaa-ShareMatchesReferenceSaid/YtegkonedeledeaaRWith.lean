/-
  The walk of the reference's with: a night with one share changed, in new memory.
-/
import Derived.Test.YtegkonedeledeaaRTop
import Derived.Deep.RegionWith
namespace Go.Proofs.Ytegkonedeledeaa
set_option linter.unusedSimpArgs false
set_option linter.unusedVariables false
open Go.RowKit

/-- 'append' of a slice of ints (it is not empty) to a slice of the call's own. -/
theorem wpList_append_ints {w : World} {ops : Array Oper} {rest : List Oper} {o : Oper} {a : Act} {Q : Exit → Act → World → Prop} (hgd : o.guard = none) (s x : Operand) (t : TypeId)
    (ho : o.op = .call { callee := .builtin .append, args := #[s, x], argTypes := #[t, t] }) (ht : Try.prog.underlying t = some (.slice 3))
    (base : Nat) (v : Value) (zs : List Int) (hs : a.eval s = v) (hown : OwnV w base v zs) (ad : Addr) (m c : Nat) (ys : List Int) (hx : a.eval x = .slice (some ad) m c) (hsl : SlI w (some ad) m ys)
    (hn : zs.length + m ≤ 1000000000000) (hbase : base ≤ w.heap.size)
    (h : ∀ v' w', OwnV w' base v' (zs ++ ys) → (∀ w0, Below base w0 w → Below base w0 w') → w.heap.size ≤ w'.heap.size → wpList Try.prog ops Q rest (a.put o.dst v') w') : wpList Try.prog ops Q (o :: rest) a w := by
  obtain ⟨i0, hi, hz0, hz1, hz2⟩ := info_parts info_int
  refine wpList_append_own w hgd s x t ho base 3 i0 (.int .i64 0) 1 8 ht hi hz0 hz1 hz2 rfl (by decide) v zs.length _ hs hown ad m c (ys.map (Value.int .i64)) hx (by simp [hsl.1]) ?_ ?_ ?_ ?_ hbase ?_
  · intro j u hu; exact hsl.cells ad rfl j u hu
  · intro u hu; simp at hu; obtain ⟨z, _, rfl⟩ := hu; rfl
  · unfold maxLen; omega
  · omega
  · intro v' w' h1 h2 _
    refine h v' w' ?_ (fun w0 hb => ?_) h2.size
    · unfold OwnV; simpa [hsl.1] using h1
    · exact hb.grown h2 hbase (fun k hk => (World.ownsRow.lt hown k hk).1)

set_option maxRecDepth 100000 in
set_option maxHeartbeats 3200000 in
theorem with_any (rooms sold x : Int) (b off n cap ch : Nat) (zs : List Int) (w : World) (hm : n ≤ 1000000) (hs : SlI w (some ⟨b, off, none⟩) n zs) (hc : ch < n) :
    Calls Try.prog 55 #[.agg #[.int .i64 rooms, .int .i64 sold, .slice (some ⟨b, off, none⟩) n cap], .int .i64 ch, .int .i64 x] w
      fun e w' => ∃ g cc, e = .returned (.agg #[.int .i64 rooms, .int .i64 sold, .slice (some ⟨g, 0, none⟩) n cc]) ∧ w.heap.size + 1 < g ∧ OwnI w' g (zs.set ch x) ∧ n ≤ cc ∧ cc ≤ maxLen ∧ Below w.heap.size w w' := by
  have HL := Lib.hid hs.1
  have HS := Lib.hid hs
  have i1 : (0 : Int) ≤ (ch : Int) := by omega
  have i2 : (ch : Int) < (n : Int) := by omega
  clear hs
  go_enter Try.func55, Try.ntmps55
  go_upto_region 2 with fail
  generalize hW0 : (w.alloc (.cells #[.int .i64 rooms, .int .i64 sold, .slice (some ⟨b, off, none⟩) n cap] 25)).alloc (.cells #[.int .i64 0, .int .i64 0, .slice none 0 0] 25) = W0
  have R0 : Row W0 w.heap.size [.int .i64 rooms, .int .i64 sold, .slice (some ⟨b, off, none⟩) n cap] := by rw [← hW0]; (repeat' (first | (with_reducible assumption) | (with_reducible refine Row.new' _ _ _ (by first | rfl | (simp; done) | omega)) | (with_reducible refine Row.alloc ?_ _) | (with_reducible refine Row.drew ?_) | (with_reducible refine Row.drewN ?_ _) | (with_reducible refine Row.step ?_ (by with_reducible assumption))))
  have R1 : Row W0 (w.heap.size + 1) [.int .i64 0, .int .i64 0, .slice none 0 0] := by rw [← hW0]; (repeat' (first | (with_reducible assumption) | (with_reducible refine Row.new' _ _ _ (by first | rfl | (simp; done) | omega)) | (with_reducible refine Row.alloc ?_ _) | (with_reducible refine Row.drew ?_) | (with_reducible refine Row.drewN ?_ _) | (with_reducible refine Row.step ?_ (by with_reducible assumption))))
  have HB0 : Hid (Below w.heap.size w W0) := by show Below _ _ _; rw [← hW0]; (repeat' (first | (with_reducible exact Below.refl _ _) | (with_reducible assumption) | (with_reducible exact Bw.out (by with_reducible assumption)) | (with_reducible refine bw_alloc ?_ _) | (with_reducible refine bw_step ?_ (by with_reducible assumption)) | (with_reducible refine Below.alloc ?_ ?_ _) | (with_reducible refine Below.drew ?_) | (with_reducible refine below_drewN ?_ _) | (with_reducible refine Below.setCell ?_ ?_ _) | (with_reducible refine below_step ?_ (by with_reducible assumption) ?_) | (with_reducible exact Nat.le_refl _) | omega | (simp; omega) | (simp; done)))
  have hsz : W0.heap.size = w.heap.size + 2 := by rw [← hW0]; simp
  clear hW0
  have HS0 := Lib.hid (HS.out.below HB0.out)
  have c2 := R0.cell 2 rfl
  go_wp2_with (at_builtin; refine wpList_append_ints rfl _ _ _ rfl Try.underlying23 W0.heap.size _ [] rfl (OwnV.nil _ _) ⟨b, off, none⟩ n cap zs rfl HS0.out (by simp; omega) (Nat.le_refl _) ?_; intro v' w1 hown1 hbl1 hsz1)
  rw [List.nil_append] at hown1
  obtain ⟨g, cc, hv, hg, hO, hc1, hc2⟩ := hown1.own (by rw [HL.out]; omega)
  rw [HL.out] at hv hc1
  subst hv
  have hb01 := hbl1 W0 (Below.refl _ _)
  have Q0 := R0.of_block (hb01.block _ R0.lt)
  have Q1 := R1.of_block (hb01.block _ R1.lt)
  have HB1 : Hid (Below w.heap.size w w1) := HB0.out.trans (hb01.mono HB0.out.size)
  have HO := Lib.hid hO
  have cg := hO.cell (i := ch) (by rw [HL.out]; exact hc)
  have fg := hO.frozen ch
  have e0 := Q0.cell 0 rfl
  have e1 := Q0.cell 1 rfl
  have e2 := Q0.cell 2 rfl
  have ef := Q0.frozen 2
  have l0 := Q0.lt
  have z0 := Q1.cell 0 rfl
  have z1 := Q1.cell 1 rfl
  have z2 := Q1.cell 2 rfl
  have zf0 := Q1.frozen 0
  have zf1 := Q1.frozen 1
  have zf2 := Q1.frozen 2
  have l1 := Q1.lt
  have lg := hO.lt
  have hgw : w.heap.size + 1 < g := by omega
  have gn0 : g ≠ w.heap.size := by omega
  have gn1 : g ≠ w.heap.size + 1 := by omega
  clear hO hown1 hbl1 hb01 c2 R0 R1
  go_wp2_with fail
  have hh : (Sem.run Try.prog (Instr.indexAt 23 (.slice (some ⟨g, 0, none⟩) n cc) (.int .i64 ch)) w1) = .ok (.pointer (some ⟨g, ch, none⟩)) w1 := by
    simp [go_sem, i1, i2]
  rw [hh]
  go_wp2_with fail
  refine bodyPost_ret (v := .agg #[.int .i64 rooms, .int .i64 sold, .slice (some ⟨g, 0, none⟩) n cc]) (by simp [results, Try.results55, go_sem, z0, z1, z2, l1, e0, e1, e2, l0]) rfl ⟨g, cc, rfl, hgw, ?_, hc1, hc2, ?_⟩
  · have := HO.out.set (i := ch) (by rw [HL.out]; exact hc) x
    exact (((this.other (by simp; omega) _).other (by simp; omega) _).other (by simp; omega) _).other (by simp; omega) _
  · have := HB1.out
    (repeat' (first | (with_reducible exact Below.refl _ _) | (with_reducible assumption) | (with_reducible exact Bw.out (by with_reducible assumption)) | (with_reducible refine bw_alloc ?_ _) | (with_reducible refine bw_step ?_ (by with_reducible assumption)) | (with_reducible refine Below.alloc ?_ ?_ _) | (with_reducible refine Below.drew ?_) | (with_reducible refine below_drewN ?_ _) | (with_reducible refine Below.setCell ?_ ?_ _) | (with_reducible refine below_step ?_ (by with_reducible assumption) ?_) | (with_reducible exact Nat.le_refl _) | omega | (simp; omega) | (simp; done)))

end Go.Proofs.Ytegkonedeledeaa
