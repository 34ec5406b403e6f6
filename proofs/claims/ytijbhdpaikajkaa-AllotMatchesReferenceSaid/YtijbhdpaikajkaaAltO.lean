/-
  The walks of the reference's Bare and of law24's fewWishes.
-/
import Derived.Test.YtijbhdpaikajkaaMAltB
namespace Go.Proofs.Ytijbhdpaikajkaa
set_option linter.unusedSimpArgs false
set_option linter.unusedVariables false
open Go.RowKit Go.Shelf

attribute [local go_sem] Oper.semAt_some

/-- 'append' of one night as a step of a drawn region. -/
theorem step_app_night {ops : Array Oper} {o : Oper} {a : Act} {w : World} {K : Act → World → Prop} {Q : Exit → Act → World → Prop} {E : Prop}
    (hg : o.guard = none) (s x : Operand) (t : TypeId) (hop : o.op = Op.call { callee := Callee.builtin Builtin.append, args := #[s, x], argTypes := #[t, t] }) (ht : Try.prog.underlying t = some (.slice 24))
    (base : Nat) (v : Value) (l : List NightV) (hs : a.eval s = v) (hown : OwnN w base v l) (g c : Nat) (y : NightV) (hx : a.eval x = .slice (some ⟨g, 0, none⟩) 1 c)
    (hr : Row w g [.int .i64 y.rooms, .int .i64 y.sold, .slice y.at' y.n y.cap]) (hn : l.length ≤ 1000000000) (hbase : base ≤ w.heap.size)
    (hK : ∀ gg cap w', OwnN w' base (.slice (some ⟨gg, 0, none⟩) (l.length + 1) cap) (l ++ [y]) → w.grownBy w' v.ownBlock → (v.ownBlock = some gg ∨ gg = w.heap.size) → K (a.put o.dst (.slice (some ⟨gg, 0, none⟩) (l.length + 1) cap)) w') :
    if Region.wanted o (yielded ops a.tmps) = true then Oper.wp Try.prog o a w K Q else E := by
  obtain ⟨i0, hi, hz0, hz1, hz2⟩ := info_parts info_night
  refine step_append_lies w hg s x t hop base 24 i0 (.agg #[.int .i64 0, .int .i64 0, .slice none 0 0]) 3 40 ht hi hz0 hz1 hz2 rfl (by decide) v l.length _ hs hown ⟨g, 0, none⟩ 1 c (nightCells [y]) hx rfl ?_ (fun u hu => nightCells_one hu) (by omega) ?_ ?_ hbase _ rfl ?_
  · intro j u hj
    match j, hj with
    | 0, hj => simp [nightCells] at hj; subst hj; exact hr.cell 0 rfl
    | 1, hj => simp [nightCells] at hj; subst hj; exact hr.cell 1 rfl
    | 2, hj => simp [nightCells] at hj; subst hj; exact hr.cell 2 rfl
    | j + 3, hj => simp [nightCells] at hj
  · unfold maxLen; omega
  · omega
  · intro gg cap w' h1 h2 h3 _
    exact hK gg cap w' (by unfold OwnN; rw [nightCells_append, List.length_append]; exact h1) h2 h3

set_option maxRecDepth 100000 in
set_option maxHeartbeats 6400000 in
theorem rBare_any (a : Option Addr) (n cap : Nat) (l : List NightV) (w : World) (hn : n ≤ 1000000) (hs : SlN w a n l) :
    Calls Try.prog 27 #[.slice a n cap] w fun e w' => ∃ ad cp, e = .returned (.slice ad n cp) ∧ OwnN w' w.heap.size (.slice ad n cp) ((l.take n).map bareN) ∧ Below w.heap.size w w' := by
  have HL := Lib.hid hs.1
  have HS := Lib.hid hs
  clear hs
  go_enter Try.func27, Try.ntmps27
  go_wp2_with fail
  go_loopw [3, 4] (fun v i wr => ∃ (k : Nat) (ad : Option Addr) (cp : Nat), k ≤ n ∧ i = .int .i64 k ∧ v = .slice ad k cp ∧ Hid (OwnN wr w.heap.size (.slice ad k cp) ((l.take k).map bareN)) ∧ Hid (Below w.heap.size w wr)) (fun _ i _ => n - (intOf i).toNat)
  case atStart => exact ⟨0, none, 0, Nat.zero_le _, rfl, rfl, by show OwnN _ _ _ _; rw [List.take_zero]; exact OwnN.nil _ _, Below.refl _ _⟩
  case round =>
    obtain ⟨k, ad, cp, hk, rfl, rfl, hO, hB⟩ := hrel
    by_cases hlt : k < n
    · obtain ⟨x, b, off, hx, hd, hin, rfl, hb, c0, c1, c2⟩ := HS.out.get hlt
      have HX := Lib.hid hx
      have E0 : CellAt w b (off + k * 3) (.int .i64 x.rooms) := c0
      have E1 : CellAt w b (off + k * 3 + 1) (.int .i64 x.sold) := c1
      have C0 := E0.step hB.out
      have C1 := E1.step hB.out
      have HLk : Hid (((l.take k).map bareN).length = k) := by
        show _ = _
        rw [List.length_map, List.length_take, HL.out]; omega
      have i1 : (0 : Int) ≤ (k : Int) := by omega
      have i2 : (k : Int) < (n : Int) := by omega
      have hsz := hB.out.size
      clear hx hd hin c0 c1 c2 hb
      go_upto_region 5 with fail
      refine AnyJ.beginP (fun w' : World => w'.cell? ⟨b, off + k * 3, none⟩ = some (.int .i64 x.rooms) ∧ w'.cell? ⟨b, off + k * 3 + 1, none⟩ = some (.int .i64 x.sold)) (fun _ => true) (by kernel_rfl) ⟨C0.out, C1.out⟩ (fun hS => ?_)
      refine AnyJ.takeD (i := 0) (d := some 11) (v := ?_) rfl (by kernel_rfl) (by kernel_rfl) (by kernel_rfl) (by kernel_rfl) (by kernel_rfl) (fun _ _ _ h => h) (Or.inl ⟨by kernel_rfl, ?_⟩) hS ?_
      rotate_left
      · intro w' hS
        clear hS
        go_simp
        try with_reducible rfl
      refine AnyJ.takeD (i := 1) (d := some 12) (v := ?_) rfl (by kernel_rfl) (by kernel_rfl) (by kernel_rfl) (by kernel_rfl) (by kernel_rfl) (fun _ _ _ h => h) (Or.inl ⟨by kernel_rfl, ?_⟩) hS ?_
      rotate_left
      · intro w' hS
        clear hS
        go_simp
        try with_reducible rfl
      refine AnyJ.takeD (i := 2) (d := some 13) (v := ?_) rfl (by kernel_rfl) (by kernel_rfl) (by kernel_rfl) (by kernel_rfl) (by kernel_rfl) (fun _ _ _ h => h) (Or.inl ⟨by kernel_rfl, ?_⟩) hS ?_
      rotate_left
      · intro w' hS
        clear hS
        go_simp
        try with_reducible rfl
      refine AnyJ.takeD (i := 3) (d := some 14) (v := ?_) rfl (by kernel_rfl) (by kernel_rfl) (by kernel_rfl) (by kernel_rfl) (by kernel_rfl) (fun _ _ _ h => h) (Or.inl ⟨by kernel_rfl, ?_⟩) hS ?_
      rotate_left
      · intro w' hS
        obtain ⟨sF0, sF1⟩ := hS
        go_simp
        try with_reducible rfl
      refine AnyJ.takeD (i := 4) (d := some 15) (v := ?_) rfl (by kernel_rfl) (by kernel_rfl) (by kernel_rfl) (by kernel_rfl) (by kernel_rfl) (fun _ _ _ h => h) (Or.inl ⟨by kernel_rfl, ?_⟩) hS ?_
      rotate_left
      · intro w' hS
        obtain ⟨sF0, sF1⟩ := hS
        go_simp
        try with_reducible rfl
      refine AnyJ.takeD (i := 5) (d := some 16) (v := ?_) rfl (by kernel_rfl) (by kernel_rfl) (by kernel_rfl) (by kernel_rfl) (by kernel_rfl) (fun _ _ _ h => h) (Or.inl ⟨by kernel_rfl, ?_⟩) hS ?_
      rotate_left
      · intro w' hS
        obtain ⟨sF0, sF1⟩ := hS
        go_simp
        try with_reducible rfl
      refine AnyJ.takeD (i := 6) (d := some 17) (v := ?_) rfl (by kernel_rfl) (by kernel_rfl) (by kernel_rfl) (by kernel_rfl) (by kernel_rfl) (fun _ _ _ h => h) (Or.inl ⟨by kernel_rfl, ?_⟩) hS ?_
      rotate_left
      · intro w' hS
        clear hS
        go_simp
        try with_reducible rfl
      refine AnyJ.takeD (i := 7) (d := some 18) (v := ?_) rfl (by kernel_rfl) (by kernel_rfl) (by kernel_rfl) (by kernel_rfl) (by kernel_rfl) (fun _ _ _ h => h) (Or.inl ⟨by kernel_rfl, ?_⟩) hS ?_
      rotate_left
      · intro w' hS
        clear hS
        go_simp
        try with_reducible rfl
      refine AnyJ.takeD (i := 8) (d := some 19) (v := ?_) rfl (by kernel_rfl) (by kernel_rfl) (by kernel_rfl) (by kernel_rfl) (by kernel_rfl) (fun _ _ _ h => h) (Or.inl ⟨by kernel_rfl, ?_⟩) hS ?_
      rotate_left
      · intro w' hS
        obtain ⟨sF0, sF1⟩ := hS
        go_simp
        try with_reducible rfl
      refine AnyJ.takeD (i := 9) (d := some 20) (v := ?_) rfl (by kernel_rfl) (by kernel_rfl) (by kernel_rfl) (by kernel_rfl) (by kernel_rfl) (fun _ _ _ h => h) (Or.inl ⟨by kernel_rfl, ?_⟩) hS ?_
      rotate_left
      · intro w' hS
        obtain ⟨sF0, sF1⟩ := hS
        go_simp
        try with_reducible rfl
      refine AnyJ.takeD (i := 10) (d := some 21) (v := ?_) rfl (by kernel_rfl) (by kernel_rfl) (by kernel_rfl) (by kernel_rfl) (by kernel_rfl) (fun _ _ _ h => h) (Or.inl ⟨by kernel_rfl, ?_⟩) hS ?_
      rotate_left
      · intro w' hS
        obtain ⟨sF0, sF1⟩ := hS
        go_simp
        try with_reducible rfl
      refine AnyJ.takeD (i := 11) (d := some 22) (v := ?_) rfl (by kernel_rfl) (by kernel_rfl) (by kernel_rfl) (by kernel_rfl) (by kernel_rfl) (fun _ _ _ h => h) (Or.inl ⟨by kernel_rfl, ?_⟩) hS ?_
      rotate_left
      · intro w' hS
        clear hS
        go_simp
        try with_reducible rfl
      clear hS
      refine AnyJ.one (i := 12) (by kernel_rfl) rfl (fun Kz hKz => ?_)
      go_simp
      have hal : Below wr.heap.size wr ((wr.alloc (.cells #[.int .i64 x.rooms, .int .i64 x.sold, .slice none 0 0] 24)).drew) := by (repeat' (first | (with_reducible exact Below.refl _ _) | (with_reducible assumption) | (with_reducible exact Bw.out (by with_reducible assumption)) | (with_reducible refine bw_alloc ?_ _) | (with_reducible refine bw_step ?_ (by with_reducible assumption)) | (with_reducible refine Below.alloc ?_ ?_ _) | (with_reducible refine Below.drew ?_) | (with_reducible refine below_drewN ?_ _) | (with_reducible refine Below.setCell ?_ ?_ _) | (with_reducible refine below_step ?_ (by with_reducible assumption) ?_) | (with_reducible exact Nat.le_refl _) | omega | (simp; omega) | (simp; done)))
      have R3 : Row ((wr.alloc (.cells #[.int .i64 x.rooms, .int .i64 x.sold, .slice none 0 0] 24)).drew) wr.heap.size [.int .i64 x.rooms, .int .i64 x.sold, .slice none 0 0] := (Row.new' _ _ _ rfl).drew
      have hs3 : ((wr.alloc (.cells #[.int .i64 x.rooms, .int .i64 x.sold, .slice none 0 0] 24)).drew).heap.size = wr.heap.size + 1 := by simp
      generalize ((wr.alloc (.cells #[.int .i64 x.rooms, .int .i64 x.sold, .slice none 0 0] 24)).drew) = w3 at hal R3 hs3 ⊢
      have hO3 := hO.out.step hal
      have hB3 : Below w.heap.size w w3 := hB.out.trans (hal.mono hB.out.size)
      refine hKz _ _ (fun _ => ⟨(C0.step hal).out, (C1.step hal).out⟩) ?_
      clear hKz Kz
      refine AnyJ.one (i := 13) (by kernel_rfl) rfl (fun Kz hKz => ?_)
      refine step_app_night rfl (.tmp 11) (.tmp 23) 25 rfl Try.underlying25 w.heap.size _ ((l.take k).map bareN) (by simp [Act.eval, Act.put]) hO3 wr.heap.size 1 (bareN x) (by simp [Act.eval, Act.put]) R3 (by rw [HLk.out]; omega) (by omega) ?_
      intro gg cp2 w4 hown hgr hor
      rw [HLk.out] at hown ⊢
      have hO4 : Hid (OwnN w4 w.heap.size (.slice (some ⟨gg, 0, none⟩) (k + 1) cp2) ((l.take (k + 1)).map bareN)) := by
        show OwnN _ _ _ _
        rw [take_at HX.out, List.map_append]; exact hown
      have hB4 : Below w.heap.size w w4 := hB3.grown hgr hB3.size (fun g e => (hO3.lt g e).1)
      have hS4 : w4.cell? ⟨b, off + k * 3, none⟩ = some (.int .i64 x.rooms) ∧ w4.cell? ⟨b, off + k * 3 + 1, none⟩ = some (.int .i64 x.sold) := ⟨(E0.step hB4).out, (E1.step hB4).out⟩
      have HB4 := Lib.hid hB4
      refine hKz _ _ (fun _ => hS4) ?_
      clear hKz Kz hown hgr hor hO3 hB3 hal R3 hs3 C0 C1 E0 E1 hB4
      refine AnyJ.takeD (i := 14) (d := some 3) (v := .slice (some ⟨gg, 0, none⟩) (k + 1) cp2) rfl (by kernel_rfl) (by kernel_rfl) (by kernel_rfl) (by kernel_rfl) (by kernel_rfl) (fun _ _ _ h => h) (Or.inl ⟨by kernel_rfl, ?_⟩) hS4 ?_
      · intro w' hS
        clear hS
        go_simp
        try with_reducible rfl
      clear hS4
      refine AnyJ.done (by kernel_rfl) ?_ _
      try simp only [Act.put, List.setIfInBounds_toArray, List.set_cons_zero, List.set_cons_succ]
      go_wp2_with fail
      go_roundw
      case rel => exact ⟨k + 1, some ⟨gg, 0, none⟩, cp2, by omega, by go_num, rfl, hO4.out, HB4.out⟩
      case measure => simp [intOf]; omega
    · obtain rfl : n = k := by omega
      go_wp2_with fail
      go_ret
      exact ⟨ad, cp, rfl, hO.out, hB.out⟩

set_option maxRecDepth 100000 in
set_option maxHeartbeats 1600000 in
theorem few_any24 (b : Option Addr) (n cap : Nat) (ls : List ListV) (w : World) (hn : n ≤ 9223372036854775807) (ht : SlL w b n ls) (B : Bool) (hB : (ls.all (fun x => decide (x.n ≤ 40)) && decide (n ≤ 20)) = B) :
    Calls Try.prog 13 #[.slice b n cap] w fun e w' => e = .returned (.bool B) ∧ w = w' := by
  have HT := Lib.hid ht
  have HL := Lib.hid ht.1
  have HB := Lib.hid hB
  clear ht hB
  go_enter Try.func13, Try.ntmps13
  go_wp2_with fail
  go_loopw [7] (fun i wr => ∃ k : Nat, k ≤ n ∧ i = .int .i64 k ∧ Hid ((ls.take k).all (fun x => decide (x.n ≤ 40)) = true) ∧ Hid (w = wr)) (fun i _ => n - (intOf i).toNat)
  case atStart => exact ⟨0, Nat.zero_le _, rfl, by show _ = _; simp, by first | exact trivial | exact Lib.hid rfl⟩
  case round =>
    obtain ⟨k, hk, rfl, hA, hW⟩ := hrel
    have hW2 : w = wr := hW.out
    subst hW2
    by_cases hlt : k < n
    · obtain ⟨x, b1, off, hx, rfl, hb, KX, c0⟩ := HT.out.get hlt
      have i1 : (0 : Int) ≤ (k : Int) := by omega
      have i2 : (k : Int) < (n : Int) := by omega
      have hx41 := KX.len
      have HX := Lib.hid hx
      clear hx KX
      by_cases h40 : x.n ≤ 40
      · have HA2 : Hid ((ls.take (k + 1)).all (fun x => decide (x.n ≤ 40)) = true) := by
          show _ = _
          rw [take_at HX.out, List.all_append, hA.out]
          simp [h40]
        go_wp2_with fail
        go_roundw
        case rel => exact ⟨k + 1, by omega, by go_num, HA2.out, by first | exact trivial | exact hW⟩
        case measure => simp [intOf]; omega
      · have hr : B = false := by
          rw [← HB.out, Bool.and_eq_false_iff]
          left
          rw [List.all_eq_false]
          exact ⟨x, List.mem_of_getElem? HX.out, by simp; omega⟩
        subst hr
        go_wp2_with fail
        go_ret
        exact ⟨rfl, rfl⟩
    · obtain rfl : n = k := by omega
      have hr : B = decide ((n : Int) ≤ 20) := by
        rw [← HB.out]
        have h1 := hA.out
        rw [List.take_of_length_le (by rw [HL.out]; omega)] at h1
        rw [h1, Bool.true_and]
        simp; omega
      subst hr
      go_wp2_with fail
      all_goals
        go_ret
        exact ⟨by first | rfl | exact ret_bool (by first | rfl | (simp; done) | (simp; omega)), rfl⟩

end Go.Proofs.Ytijbhdpaikajkaa
