/-
  The reference's order: inserted one by one.
-/
import Derived.Test.YtbafhmlmibjgpaaColR
namespace Go.Proofs.Ytbafhmlmibjgpaa
set_option linter.unusedSimpArgs false
set_option linter.unusedVariables false
open Go.RowKit

theorem SlV.cells {w : World} {b : Addr} {m c : Nat} {ys : List Int} (h : SlV w (.slice (some b) m c) ys) : m = ys.length ∧ ∀ j u, (ys.map (Value.int .i64))[j]? = some u → w.cell? (b.add j) = some u := by
  obtain ⟨ad, cp, e, h1, _⟩ := h
  simp only [Value.slice.injEq] at e
  obtain ⟨rfl, rfl, rfl⟩ := e
  refine ⟨rfl, fun j u hu => ?_⟩
  have hj : j < ys.length := by
    have := (List.getElem?_eq_some_iff.1 hu).1
    simpa using this
  obtain ⟨b', off, e, hc⟩ := h1.2 j hj
  cases e
  rw [show (⟨b', off, none⟩ : Addr).add j = ⟨b', off + j, none⟩ by simp [Addr.add], hc]
  simp [hj] at hu
  simp [List.getD, hj, hu]
/-- 'append' of a slice of ints to a slice of the call's own. -/
theorem wpList_append_ints {w : World} {ops : Array Oper} {rest : List Oper} {o : Oper} {a : Act} {Q : Exit → Act → World → Prop} (hgd : o.guard = none) (s x : Operand) (t : TypeId)
    (hop : o.op = Op.call { callee := Callee.builtin Builtin.append, args := #[s, x], argTypes := #[t, t] }) (ht : Try.prog.underlying t = some (.slice 3))
    (base : Nat) (v : Value) (zs : List Int) (hs : a.eval s = v) (hown : OwnV w base v zs) (xv : Value) (ys : List Int) (hx : a.eval x = xv) (hsl : SlV w xv ys)
    (hn : zs.length + ys.length ≤ 1000000000) (hbase : base ≤ w.heap.size)
    (h : ∀ v' w', OwnV w' base v' (zs ++ ys) → (∀ w0, Below base w0 w → Below base w0 w') → w.heap.size ≤ w'.heap.size → wpList Try.prog ops Q rest (a.put o.dst v') w') : wpList Try.prog ops Q (o :: rest) a w := by
  obtain ⟨i0, hi, hz0, hz1, hz2⟩ := info_parts info_int
  refine wpList_plain hgd fun K hK => ?_
  have key : ∃ v' w', (Builtin.append_ #[t, t] o.type #[v, xv]).run Try.prog w = .ok v' w' ∧ OwnV w' base v' (zs ++ ys) ∧ (∀ w0, Below base w0 w → Below base w0 w') ∧ w.heap.size ≤ w'.heap.size := by
    obtain ⟨ad, c, rfl, hsl1, hsl2⟩ := id hsl
    cases ad with
    | none =>
      have hy : ys = [] := by
        cases ys with
        | nil => rfl
        | cons y r => obtain ⟨_, _, e, _⟩ := hsl1.2 0 (by simp); cases e
      subst hy
      refine ⟨v, w, ?_, by rw [List.append_nil]; exact hown, fun _ h => h, Nat.le_refl _⟩
      obtain ⟨ad2, cap2, rfl, ho2⟩ := hown.form2
      obtain ⟨hc1, _⟩ := ho2.sizes
      cases ad2 with
      | none => simp [Builtin.append_, run_underlying ht, sizeOf, typeInfo, hi, Builtin.lenOf, Builtin.firstCells, loadCells, loadCellsFrom, hc1]
      | some q => simp [Builtin.append_, run_underlying ht, sizeOf, typeInfo, hi, Builtin.lenOf, Builtin.firstCells, loadCells, loadCellsFrom, storeCells, hc1]
    | some b =>
      obtain ⟨_, hc⟩ := hsl.cells
      obtain ⟨v', w', hrun, r1, r2, _⟩ := run_append_own_at (P := Try.prog) w base t o.type 3 i0 (.int .i64 0) 1 8 ht hi hz0 hz1 hz2 rfl (by decide) v zs.length _ hown b ys.length c (ys.map (Value.int .i64)) (by simp)
        (fun j u hj => hc j u hj) (fun u hu => by simp at hu; obtain ⟨z, _, rfl⟩ := hu; rfl) (by unfold maxLen; omega) (by omega) hbase
      refine ⟨v', w', hrun, ?_, fun w0 hb => hb.grown r2 hbase (fun k hk => (World.ownsRow.lt hown k hk).1), r2.size⟩
      unfold OwnV
      rw [List.map_append, List.length_append]
      exact r1
  obtain ⟨v', w', hrun, h1, h2, h3⟩ := key
  unfold Oper.wp
  simp [execOp, hop, resolve, invoke, builtin, hs, hx, hrun, Result.andThen]
  exact hK _ _ (h v' w' h1 h2 h3)
/-- Parts of a slice. -/
theorem SlV.takeP {w : World} {ad : Option Addr} {i cp q : Nat} {zs : List Int} (h : SlV w (.slice ad i cp) zs) (hi : zs.length = i) (hq : q ≤ i) : SlV w (.slice ad q cp) (zs.take q) := by
  obtain ⟨ad', cap, e, h1, h2, h3⟩ := h
  simp only [Value.slice.injEq] at e
  obtain ⟨rfl, _, rfl⟩ := e
  have hl : (zs.take q).length = q := by rw [List.length_take]; omega
  refine ⟨ad, cp, by rw [hl], ⟨rfl, fun j hj => ?_⟩, by omega, h3⟩
  rw [hl] at hj
  obtain ⟨b, off, e2, hc⟩ := h1.2 j (by omega)
  refine ⟨b, off, e2, ?_⟩
  rw [hc]
  simp [List.getD, List.getElem?_take, hj]
theorem SlV.dropP {w : World} {ad ad2 : Option Addr} {i cp q : Nat} {zs : List Int} (h : SlV w (.slice ad i cp) zs) (hi : zs.length = i) (hq : q ≤ i) (ha : q < i → ad2 = ad.map (fun p => p.add q)) : SlV w (.slice ad2 (i - q) (cp - q)) (zs.drop q) := by
  obtain ⟨ad', cap, e, h1, h2, h3⟩ := h
  simp only [Value.slice.injEq] at e
  obtain ⟨rfl, _, rfl⟩ := e
  have hl : (zs.drop q).length = i - q := by rw [List.length_drop]; omega
  refine ⟨ad2, cp - q, by rw [hl], ⟨rfl, fun j hj => ?_⟩, by omega, by omega⟩
  rw [hl] at hj
  obtain ⟨b, off, e2, hc⟩ := h1.2 (q + j) (by omega)
  refine ⟨b, off + q, by rw [ha (by omega), e2]; simp [Addr.add], ?_⟩
  rw [show off + q + j = off + (q + j) by omega, hc]
  simp [List.getD, List.getElem?_drop]

/-- The first k indexes by rising beginning. -/
def ordK (l : List SpV) (k : Nat) : List Int := srtK (frP l) (upto k)
theorem ordK_perm (l : List SpV) (k : Nat) : (ordK l k).Perm (upto k) := srtK_perm _ _
theorem ordK_length (l : List SpV) (k : Nat) : (ordK l k).length = k := by rw [(ordK_perm l k).length_eq, upto_length]
theorem ordK_mem {l : List SpV} {k : Nat} {x : Int} : x ∈ ordK l k ↔ 0 ≤ x ∧ x < k := by rw [(ordK_perm l k).mem_iff, mem_upto]
theorem ordK_sorted (l : List SpV) (k : Nat) : (ordK l k).Pairwise (ltK (frP l)) := srtK_sorted (upto_nodup _)
theorem ordK_ins {l : List SpV} {k q : Nat} (hq : q ≤ k) (h1 : ∀ j, q ≤ j → j < k → frP l k < frP l ((ordK l k).getD j 0)) (h2 : 0 < q → frP l ((ordK l k).getD (q - 1) 0) ≤ frP l k) :
    (ordK l k).take q ++ [(k : Int)] ++ (ordK l k).drop q = ordK l (k + 1) := by
  obtain ⟨Z, hZ⟩ : ∃ Z, ordK l k = Z := ⟨_, rfl⟩
  have hl := ordK_length l k
  have hs := ordK_sorted l k
  have hp := ordK_perm l k
  have hm : ∀ x, x ∈ Z → x < (k : Int) := fun x hx => (ordK_mem.1 (by rw [hZ]; exact hx)).2
  rw [hZ] at h1 h2 hl hs hp ⊢
  have hspl : Z.take q ++ Z.drop q = Z := List.take_append_drop q Z
  refine srt_unique (key := frP l) ?_ ?_ (ordK_sorted l (k + 1))
  · refine List.Perm.trans ?_ (ordK_perm l (k + 1)).symm
    rw [upto_succ]
    have e1 : (Z.take q ++ [(k : Int)] ++ Z.drop q).Perm (Z.take q ++ Z.drop q ++ [(k : Int)]) := by
      rw [List.append_assoc, List.append_assoc]
      exact (List.perm_append_comm).append_left _
    rw [hspl] at e1
    exact e1.trans (hp.append_right _)
  · have hg : ∀ j, (hj : j < Z.length) → Z.getD j 0 = Z[j] := fun j hj => by simp [List.getD, hj]
    have hlow : ∀ x ∈ Z.take q, frP l x ≤ frP l k := fun x hx => by
      obtain ⟨j, hj, rfl⟩ := List.getElem_of_mem hx
      rw [List.length_take] at hj
      rw [List.getElem_take]
      have h3 := h2 (by omega)
      rw [hg _ (by omega)] at h3
      rcases Nat.lt_or_ge j (q - 1) with h | h
      · rw [List.pairwise_iff_getElem] at hs
        have := hs j (q - 1) (by omega) (by omega) h
        unfold ltK at this; omega
      · have : j = q - 1 := by omega
        subst this; exact h3
    have hhigh : ∀ x ∈ Z.drop q, frP l k < frP l x := fun x hx => by
      obtain ⟨j, hj, rfl⟩ := List.getElem_of_mem hx
      rw [List.length_drop] at hj
      rw [List.getElem_drop]
      have := h1 (q + j) (by omega) (by omega)
      rwa [hg _ (by omega)] at this
    rw [← hspl, List.pairwise_append] at hs
    obtain ⟨s1, s2, s3⟩ := hs
    rw [List.pairwise_append]
    refine ⟨?_, s2, fun x hx y hy => ?_⟩
    · rw [List.pairwise_append]
      refine ⟨s1, by simp, fun x hx y hy => ?_⟩
      simp only [List.mem_singleton] at hy
      subst hy
      have := hlow x hx
      have := hm x (List.mem_of_mem_take hx)
      unfold ltK; omega
    · rcases List.mem_append.1 hx with hx | hx
      · exact s3 x hx y hy
      · simp only [List.mem_singleton] at hx
        subst hx
        have := hhigh y hy
        unfold ltK; omega

set_option maxRecDepth 100000 in
set_option maxHeartbeats 3200000 in
theorem R_order_any (a : Option Addr) (n cap : Nat) (l : List SpV) (w : World) (hm : n ≤ 1000000) (hs : SlP w a n l) :
    Calls Try.prog 26 #[.slice a n cap] w fun e w' => ∃ ad cp, e = .returned (.slice ad n cp) ∧ OwnV w' w.heap.size (.slice ad n cp) (ordL l) ∧ Below w.heap.size w w' := by
  have HS := Lib.hid hs
  have HL := Lib.hid hs.1
  clear hs
  go_enter Try.func26, Try.ntmps26
  go_wp2_with fail
  go_loopw [3, 4] (fun u vi wr => ∃ (i : Nat) (ad : Option Addr) (cp : Nat), i ≤ n ∧ vi = .int .i64 i ∧ u = .slice ad i cp ∧ Hid (OwnV wr w.heap.size (.slice ad i cp) (ordK l i)) ∧ Hid (Below w.heap.size w wr)) (fun _ vi _ => n - (intOf vi).toNat)
  case atStart => exact ⟨0, none, 0, Nat.zero_le _, rfl, rfl, by show OwnV _ _ _ _; simpa [ordK, upto, srtK] using OwnV.nil w w.heap.size, Below.refl _ _⟩
  case round =>
    obtain ⟨i, ad, cp, hk, rfl, rfl, hO, hB⟩ := hrel
    by_cases hlt : i < n
    · obtain ⟨fi, ui, b, off, hx, _, _, rfl, hb, c0, c1⟩ := (HS.out.below hB.out).get hlt
      have HFI : Hid (frP l i = fi) := by show _ = _; unfold frP; rw [Int.toNat_natCast, hx.out]
      have i1 : (0 : Int) ≤ (i : Int) := by omega
      have i2 : (i : Int) < (n : Int) := by omega
      have hcp := hO.out.sizes.1
      have hcm := hO.out.sizes.2
      unfold maxLen at hcm
      have C0 : Hid (wr.cell? ⟨b, off + i * 2, none⟩ = some (.int .i64 fi)) := c0
      clear hx c0 c1
      go_wp2_with fail
      go_loopw [5] (fun vq wq => ∃ q : Nat, q ≤ i ∧ vq = .int .i64 q ∧ Hid (∀ j : Nat, q ≤ j → j < i → frP l i < frP l ((ordK l i).getD j 0)) ∧ Hid (∃ d, wq = wr.drewN d)) (fun vq _ => (intOf vq).toNat)
      case atStart => exact ⟨i, Nat.le_refl _, rfl, fun j h1 h2 => by omega, 0, rfl⟩
      case round =>
        obtain ⟨q, hq, rfl, HJ, hD⟩ := hrel
        obtain ⟨d, hD⟩ := hD.out
        subst hD
        have HKS : Hid (∀ w', Below wr.heap.size wr w' → w'.cell? ⟨b, off + i * 2, none⟩ = some (.int .i64 fi)) := fun w' hb' => (hb'.cell (p := ⟨b, off + i * 2, none⟩) hb).trans C0.out
        have hBd : Below wr.heap.size wr (wr.drewN d).drew := (below_drewN (Below.refl _ wr) d).drew
        rcases Nat.eq_zero_or_pos q with hq0 | hq0
        · have hn0 : ¬ (0 : Int) < (q : Int) := by omega
          have hn1 : ¬ 0 < q := by omega
          have HLE : Hid (0 < q → frP l ((ordK l i).getD (q - 1) 0) ≤ frP l i) := fun h => absurd h hn1
          clear hq0
          go_upto_region 6 with fail
          refine AnyJ.beginP (fun w' : World => w'.cell? ⟨b, off + i * 2, none⟩ = some (.int .i64 fi)) (fun _ => true) (by kernel_rfl) (HKS.out _ hBd) (fun hS => ?_)
          refine AnyJ.takeD (i := 0) (d := some 15) (v := ?_) rfl (by kernel_rfl) (by kernel_rfl) (by kernel_rfl) (by kernel_rfl) (by kernel_rfl) (fun _ _ _ h => h) (Or.inl ⟨by kernel_rfl, ?_⟩) hS ?_
          rotate_left
          · intro w' hS
            have sF0 := hS
            go_simp
            try with_reducible rfl
          refine AnyJ.takeD (i := 1) (d := some 16) (v := ?_) rfl (by kernel_rfl) (by kernel_rfl) (by kernel_rfl) (by kernel_rfl) (by kernel_rfl) (fun _ _ _ h => h) (Or.inl ⟨by kernel_rfl, ?_⟩) hS ?_
          rotate_left
          · intro w' hS
            have sF0 := hS
            go_simp
            try with_reducible rfl
          refine AnyJ.takeD (i := 2) (d := some 17) (v := ?_) rfl (by kernel_rfl) (by kernel_rfl) (by kernel_rfl) (by kernel_rfl) (by kernel_rfl) (fun _ _ _ h => h) (Or.inl ⟨by kernel_rfl, ?_⟩) hS ?_
          rotate_left
          · intro w' hS
            have sF0 := hS
            go_simp
            try with_reducible rfl
          refine AnyJ.takeD (i := 3) (d := some 18) (v := undef) rfl (by kernel_rfl) (by kernel_rfl) (by kernel_rfl) (by kernel_rfl) (by kernel_rfl) (fun _ _ _ h => h) (Or.inr ⟨by kernel_rfl, rfl⟩) hS ?_
          refine AnyJ.takeD (i := 4) (d := some 19) (v := undef) rfl (by kernel_rfl) (by kernel_rfl) (by kernel_rfl) (by kernel_rfl) (by kernel_rfl) (fun _ _ _ h => h) (Or.inr ⟨by kernel_rfl, rfl⟩) hS ?_
          refine AnyJ.takeD (i := 5) (d := some 20) (v := undef) rfl (by kernel_rfl) (by kernel_rfl) (by kernel_rfl) (by kernel_rfl) (by kernel_rfl) (fun _ _ _ h => h) (Or.inr ⟨by kernel_rfl, rfl⟩) hS ?_
          refine AnyJ.takeD (i := 6) (d := some 21) (v := undef) rfl (by kernel_rfl) (by kernel_rfl) (by kernel_rfl) (by kernel_rfl) (by kernel_rfl) (fun _ _ _ h => h) (Or.inr ⟨by kernel_rfl, rfl⟩) hS ?_
          refine AnyJ.takeD (i := 7) (d := some 22) (v := undef) rfl (by kernel_rfl) (by kernel_rfl) (by kernel_rfl) (by kernel_rfl) (by kernel_rfl) (fun _ _ _ h => h) (Or.inr ⟨by kernel_rfl, rfl⟩) hS ?_
          refine AnyJ.takeD (i := 8) (d := some 23) (v := undef) rfl (by kernel_rfl) (by kernel_rfl) (by kernel_rfl) (by kernel_rfl) (by kernel_rfl) (fun _ _ _ h => h) (Or.inr ⟨by kernel_rfl, rfl⟩) hS ?_
          refine AnyJ.takeD (i := 9) (d := some 24) (v := undef) rfl (by kernel_rfl) (by kernel_rfl) (by kernel_rfl) (by kernel_rfl) (by kernel_rfl) (fun _ _ _ h => h) (Or.inr ⟨by kernel_rfl, rfl⟩) hS ?_
          refine AnyJ.takeD (i := 10) (d := some 25) (v := undef) rfl (by kernel_rfl) (by kernel_rfl) (by kernel_rfl) (by kernel_rfl) (by kernel_rfl) (fun _ _ _ h => h) (Or.inr ⟨by kernel_rfl, rfl⟩) hS ?_
          refine AnyJ.takeD (i := 11) (d := some 26) (v := undef) rfl (by kernel_rfl) (by kernel_rfl) (by kernel_rfl) (by kernel_rfl) (by kernel_rfl) (fun _ _ _ h => h) (Or.inr ⟨by kernel_rfl, rfl⟩) hS ?_
          refine AnyJ.takeD (i := 12) (d := some 27) (v := undef) rfl (by kernel_rfl) (by kernel_rfl) (by kernel_rfl) (by kernel_rfl) (by kernel_rfl) (fun _ _ _ h => h) (Or.inr ⟨by kernel_rfl, rfl⟩) hS ?_
          refine AnyJ.takeD (i := 13) (d := some 28) (v := undef) rfl (by kernel_rfl) (by kernel_rfl) (by kernel_rfl) (by kernel_rfl) (by kernel_rfl) (fun _ _ _ h => h) (Or.inr ⟨by kernel_rfl, rfl⟩) hS ?_
          refine AnyJ.takeD (i := 14) (d := some 29) (v := undef) rfl (by kernel_rfl) (by kernel_rfl) (by kernel_rfl) (by kernel_rfl) (by kernel_rfl) (fun _ _ _ h => h) (Or.inr ⟨by kernel_rfl, rfl⟩) hS ?_
          refine AnyJ.takeD (i := 15) (d := some 30) (v := undef) rfl (by kernel_rfl) (by kernel_rfl) (by kernel_rfl) (by kernel_rfl) (by kernel_rfl) (fun _ _ _ h => h) (Or.inr ⟨by kernel_rfl, rfl⟩) hS ?_
          refine AnyJ.takeD (i := 16) (d := some 31) (v := undef) rfl (by kernel_rfl) (by kernel_rfl) (by kernel_rfl) (by kernel_rfl) (by kernel_rfl) (fun _ _ _ h => h) (Or.inr ⟨by kernel_rfl, rfl⟩) hS ?_
          refine AnyJ.takeD (i := 17) (d := some 32) (v := undef) rfl (by kernel_rfl) (by kernel_rfl) (by kernel_rfl) (by kernel_rfl) (by kernel_rfl) (fun _ _ _ h => h) (Or.inr ⟨by kernel_rfl, rfl⟩) hS ?_
          refine AnyJ.takeD (i := 18) (d := some 33) (v := ?_) rfl (by kernel_rfl) (by kernel_rfl) (by kernel_rfl) (by kernel_rfl) (by kernel_rfl) (fun _ _ _ h => h) (Or.inl ⟨by kernel_rfl, ?_⟩) hS ?_
          rotate_left
          · intro w' hS
            have sF0 := hS
            go_simp
            try with_reducible rfl
          refine AnyJ.done (by kernel_rfl) ?_ _
          try simp only [Act.put, List.setIfInBounds_toArray, List.set_cons_zero, List.set_cons_succ]
          clear hS
          have HI := Lib.hid (ordK_ins hq (fun j h1 h2 => HJ.out j h1 h2) HLE.out).symm
          clear HJ HKS
          generalize hwd : (wr.drewN d).drew = wd at hBd ⊢
          clear hwd
          have HT := Lib.hid ((hO.out.step hBd).sl.takeP (ordK_length l i) hq)
          have HLT : Hid (((ordK l i).take q).length = q) := by show _ = _; rw [List.length_take, ordK_length]; omega
          have HLD : Hid (((ordK l i).drop q).length = i - q) := by show _ = _; rw [List.length_drop, ordK_length]
          have HLN : Hid (([] ++ (ordK l i).take q ++ [(i : Int)]).length + ((ordK l i).drop q).length ≤ 1000000000) := by show _ ≤ _; rw [List.nil_append, List.length_append, HLT.out, HLD.out, List.length_singleton]; omega
          have hsz := hB.out.size
          have hsd := hBd.size
          have HBd := Lib.hid hBd
          clear hBd
          go_upto_region 10 with (at_builtin; refine wpList_append_ints rfl _ _ _ rfl Try.underlying24 wr.heap.size _ [] rfl (OwnV.nil _ _) _ _ rfl HT.out (by rw [HLT.out]; simp; omega) hsd ?_; intro v1 w1 ho1 hb1 hs1)
          have HO1 := Lib.hid ho1
          have HB1 := Lib.hid (hb1 _ HBd.out)
          clear ho1 hb1 HT
          go_upto_region 11 with (at_builtin; refine wpList_append_int rfl _ _ _ rfl Try.underlying24 wr.heap.size _ _ rfl (HO1.out.alloc _) w1.heap.size 1 (i : Int) rfl ((Row.new' w1 [_] _ rfl).cell 0 rfl) (by rw [List.nil_append, HLT.out]; omega) (by simp; omega) ?_; intro v2 w2 ho2 hb2 hs2)
          have HO2 := Lib.hid ho2
          have HB2 := Lib.hid (hb2 _ (HB1.out.alloc (by omega) _))
          have hs3 : wr.heap.size ≤ w2.heap.size := HB2.out.size
          have HD := Lib.hid (hO.out.step HB2.out).sl
          clear ho2 hb2 HO1 HB1 hs1 hs2
          go_upto_region 4 with (at_builtin; refine wpList_append_ints rfl _ _ _ rfl Try.underlying24 wr.heap.size _ _ rfl HO2.out _ ((ordK l i).drop q) rfl (by show SlV w2 (.slice _ _ _) _; refine HD.out.dropP (ordK_length l i) hq (fun h => ?_); first | rfl | exact if_neg (by omega)) HLN.out hs3 ?_; intro v3 w3 ho3 hb3 hs4)
          all_goals
            have hO3 : OwnV w3 wr.heap.size v3 (ordK l (i + 1)) := by rw [HI.out]; exact ho3
            obtain ⟨ad3, cp3, rfl, hO3⟩ := hO3.form2
            rw [ordK_length] at hO3
            try rw [ordK_length]
            have HO3 := Lib.hid (hO3.lowC hB.out.size)
            have HB3 := Lib.hid (hB.out.trans ((hb3 _ HB2.out).mono hB.out.size))
            clear ho3 hb3 hO3 HO2 HB2 HD HI
            go_wp2_with fail
            go_roundw
            case rel => exact ⟨i + 1, ad3, cp3, by omega, by go_num, rfl, HO3.out, HB3.out⟩
            case measure => simp [intOf]; try omega
        · obtain ⟨p, rfl⟩ : ∃ p, q = p + 1 := ⟨q - 1, by omega⟩
          have hpi : p < i := by omega
          obtain ⟨go, oo, z, hg, hgl, cz, hz, _, hmem⟩ := (hO.out.sli (ordK_length l i)).get hpi
          subst hg
          obtain ⟨hz0, hz1⟩ := ordK_mem.1 hmem.out
          obtain ⟨zn, rfl⟩ := Int.eq_ofNat_of_zero_le hz0
          have hzn : zn < n := by omega
          obtain ⟨fz, uz, b', off', hxz, _, _, hab, hbz, e0, e1⟩ := (HS.out.below hB.out).get hzn
          cases hab
          have HFZ : Hid (frP l zn = fz) := by show _ = _; unfold frP; rw [Int.toNat_natCast, hxz.out]
          have HZ := Lib.hid hz.out
          have p1 : (0 : Int) ≤ (p : Int) := by omega
          have p2 : (p : Int) < (i : Int) := by omega
          have p3 : (0 : Int) < (p : Int) + 1 := by omega
          have z1 : (0 : Int) ≤ (zn : Int) := by omega
          have z2 : (zn : Int) < (n : Int) := by omega
          have HW := Lib.hid (IntWalk.i64_in (p : Int) (by omega))
          have HK3 : Hid (∀ w', Below wr.heap.size wr w' → w'.cell? ⟨go, oo + p, none⟩ = some (.int .i64 zn) ∧ w'.cell? ⟨b, off + zn * 2, none⟩ = some (.int .i64 fz) ∧ w'.cell? ⟨b, off + i * 2, none⟩ = some (.int .i64 fi)) :=
            fun w' hb' => ⟨(hb'.cell (p := ⟨go, oo + p, none⟩) hgl).trans cz, (hb'.cell (p := ⟨b, off + zn * 2, none⟩) hbz).trans e0, HKS.out _ hb'⟩
          clear hz0 hz1 hxz cz e0 e1 hz hmem
          by_cases hcmp : fi < fz
          · go_upto_region 6 with fail
            have hW := HW.out
            refine AnyJ.beginP (fun w' : World => w'.cell? ⟨go, oo + p, none⟩ = some (.int .i64 zn) ∧ w'.cell? ⟨b, off + zn * 2, none⟩ = some (.int .i64 fz) ∧ w'.cell? ⟨b, off + i * 2, none⟩ = some (.int .i64 fi)) (fun _ => true) (by kernel_rfl) (HK3.out _ hBd) (fun hS => ?_)
            refine AnyJ.takeD (i := 0) (d := some 15) (v := ?_) rfl (by kernel_rfl) (by kernel_rfl) (by kernel_rfl) (by kernel_rfl) (by kernel_rfl) (fun _ _ _ h => h) (Or.inl ⟨by kernel_rfl, ?_⟩) hS ?_
            rotate_left
            · intro w' hS
              obtain ⟨sF0, sF1, sF2⟩ := hS
              go_simp
              try with_reducible rfl
            refine AnyJ.takeD (i := 1) (d := some 16) (v := ?_) rfl (by kernel_rfl) (by kernel_rfl) (by kernel_rfl) (by kernel_rfl) (by kernel_rfl) (fun _ _ _ h => h) (Or.inl ⟨by kernel_rfl, ?_⟩) hS ?_
            rotate_left
            · intro w' hS
              obtain ⟨sF0, sF1, sF2⟩ := hS
              go_simp
              try with_reducible rfl
            refine AnyJ.takeD (i := 2) (d := some 17) (v := ?_) rfl (by kernel_rfl) (by kernel_rfl) (by kernel_rfl) (by kernel_rfl) (by kernel_rfl) (fun _ _ _ h => h) (Or.inl ⟨by kernel_rfl, ?_⟩) hS ?_
            rotate_left
            · intro w' hS
              obtain ⟨sF0, sF1, sF2⟩ := hS
              go_simp
              try with_reducible rfl
            refine AnyJ.takeD (i := 3) (d := some 18) (v := ?_) rfl (by kernel_rfl) (by kernel_rfl) (by kernel_rfl) (by kernel_rfl) (by kernel_rfl) (fun _ _ _ h => h) (Or.inl ⟨by kernel_rfl, ?_⟩) hS ?_
            rotate_left
            · intro w' hS
              obtain ⟨sF0, sF1, sF2⟩ := hS
              go_simp
              try with_reducible rfl
            refine AnyJ.takeD (i := 4) (d := some 19) (v := ?_) rfl (by kernel_rfl) (by kernel_rfl) (by kernel_rfl) (by kernel_rfl) (by kernel_rfl) (fun _ _ _ h => h) (Or.inl ⟨by kernel_rfl, ?_⟩) hS ?_
            rotate_left
            · intro w' hS
              obtain ⟨sF0, sF1, sF2⟩ := hS
              go_simp
              try with_reducible rfl
            refine AnyJ.takeD (i := 5) (d := some 20) (v := ?_) rfl (by kernel_rfl) (by kernel_rfl) (by kernel_rfl) (by kernel_rfl) (by kernel_rfl) (fun _ _ _ h => h) (Or.inl ⟨by kernel_rfl, ?_⟩) hS ?_
            rotate_left
            · intro w' hS
              obtain ⟨sF0, sF1, sF2⟩ := hS
              go_simp
              try with_reducible rfl
            refine AnyJ.takeD (i := 6) (d := some 21) (v := ?_) rfl (by kernel_rfl) (by kernel_rfl) (by kernel_rfl) (by kernel_rfl) (by kernel_rfl) (fun _ _ _ h => h) (Or.inl ⟨by kernel_rfl, ?_⟩) hS ?_
            rotate_left
            · intro w' hS
              obtain ⟨sF0, sF1, sF2⟩ := hS
              go_simp
              try with_reducible rfl
            refine AnyJ.takeD (i := 7) (d := some 22) (v := ?_) rfl (by kernel_rfl) (by kernel_rfl) (by kernel_rfl) (by kernel_rfl) (by kernel_rfl) (fun _ _ _ h => h) (Or.inl ⟨by kernel_rfl, ?_⟩) hS ?_
            rotate_left
            · intro w' hS
              obtain ⟨sF0, sF1, sF2⟩ := hS
              go_simp
              try with_reducible rfl
            refine AnyJ.takeD (i := 8) (d := some 23) (v := ?_) rfl (by kernel_rfl) (by kernel_rfl) (by kernel_rfl) (by kernel_rfl) (by kernel_rfl) (fun _ _ _ h => h) (Or.inl ⟨by kernel_rfl, ?_⟩) hS ?_
            rotate_left
            · intro w' hS
              obtain ⟨sF0, sF1, sF2⟩ := hS
              go_simp
              try with_reducible rfl
            refine AnyJ.takeD (i := 9) (d := some 24) (v := ?_) rfl (by kernel_rfl) (by kernel_rfl) (by kernel_rfl) (by kernel_rfl) (by kernel_rfl) (fun _ _ _ h => h) (Or.inl ⟨by kernel_rfl, ?_⟩) hS ?_
            rotate_left
            · intro w' hS
              obtain ⟨sF0, sF1, sF2⟩ := hS
              go_simp
              try with_reducible rfl
            refine AnyJ.takeD (i := 10) (d := some 25) (v := ?_) rfl (by kernel_rfl) (by kernel_rfl) (by kernel_rfl) (by kernel_rfl) (by kernel_rfl) (fun _ _ _ h => h) (Or.inl ⟨by kernel_rfl, ?_⟩) hS ?_
            rotate_left
            · intro w' hS
              obtain ⟨sF0, sF1, sF2⟩ := hS
              go_simp
              try with_reducible rfl
            refine AnyJ.takeD (i := 11) (d := some 26) (v := ?_) rfl (by kernel_rfl) (by kernel_rfl) (by kernel_rfl) (by kernel_rfl) (by kernel_rfl) (fun _ _ _ h => h) (Or.inl ⟨by kernel_rfl, ?_⟩) hS ?_
            rotate_left
            · intro w' hS
              obtain ⟨sF0, sF1, sF2⟩ := hS
              go_simp
              try with_reducible rfl
            refine AnyJ.takeD (i := 12) (d := some 27) (v := ?_) rfl (by kernel_rfl) (by kernel_rfl) (by kernel_rfl) (by kernel_rfl) (by kernel_rfl) (fun _ _ _ h => h) (Or.inl ⟨by kernel_rfl, ?_⟩) hS ?_
            rotate_left
            · intro w' hS
              obtain ⟨sF0, sF1, sF2⟩ := hS
              go_simp
              try with_reducible rfl
            refine AnyJ.takeD (i := 13) (d := some 28) (v := ?_) rfl (by kernel_rfl) (by kernel_rfl) (by kernel_rfl) (by kernel_rfl) (by kernel_rfl) (fun _ _ _ h => h) (Or.inl ⟨by kernel_rfl, ?_⟩) hS ?_
            rotate_left
            · intro w' hS
              obtain ⟨sF0, sF1, sF2⟩ := hS
              go_simp
              try with_reducible rfl
            refine AnyJ.takeD (i := 14) (d := some 29) (v := ?_) rfl (by kernel_rfl) (by kernel_rfl) (by kernel_rfl) (by kernel_rfl) (by kernel_rfl) (fun _ _ _ h => h) (Or.inl ⟨by kernel_rfl, ?_⟩) hS ?_
            rotate_left
            · intro w' hS
              obtain ⟨sF0, sF1, sF2⟩ := hS
              go_simp
              try with_reducible rfl
            refine AnyJ.takeD (i := 15) (d := some 30) (v := ?_) rfl (by kernel_rfl) (by kernel_rfl) (by kernel_rfl) (by kernel_rfl) (by kernel_rfl) (fun _ _ _ h => h) (Or.inl ⟨by kernel_rfl, ?_⟩) hS ?_
            rotate_left
            · intro w' hS
              obtain ⟨sF0, sF1, sF2⟩ := hS
              go_simp
              try with_reducible rfl
            refine AnyJ.takeD (i := 16) (d := some 31) (v := ?_) rfl (by kernel_rfl) (by kernel_rfl) (by kernel_rfl) (by kernel_rfl) (by kernel_rfl) (fun _ _ _ h => h) (Or.inl ⟨by kernel_rfl, ?_⟩) hS ?_
            rotate_left
            · intro w' hS
              obtain ⟨sF0, sF1, sF2⟩ := hS
              go_simp
              try with_reducible rfl
            refine AnyJ.takeD (i := 17) (d := some 32) (v := ?_) rfl (by kernel_rfl) (by kernel_rfl) (by kernel_rfl) (by kernel_rfl) (by kernel_rfl) (fun _ _ _ h => h) (Or.inl ⟨by kernel_rfl, ?_⟩) hS ?_
            rotate_left
            · intro w' hS
              obtain ⟨sF0, sF1, sF2⟩ := hS
              go_simp
              try with_reducible rfl
            refine AnyJ.takeD (i := 18) (d := some 33) (v := ?_) rfl (by kernel_rfl) (by kernel_rfl) (by kernel_rfl) (by kernel_rfl) (by kernel_rfl) (fun _ _ _ h => h) (Or.inl ⟨by kernel_rfl, ?_⟩) hS ?_
            rotate_left
            · intro w' hS
              obtain ⟨sF0, sF1, sF2⟩ := hS
              go_simp
              try with_reducible rfl
            refine AnyJ.done (by kernel_rfl) ?_ _
            try simp only [Act.put, List.setIfInBounds_toArray, List.set_cons_zero, List.set_cons_succ]
            clear hS
            clear hW
            go_wp2_with fail
            go_roundw
            case rel =>
              refine ⟨p, by omega, by go_num, fun j h1 h2 => ?_, _, rfl⟩
              by_cases hj : j = p
              · subst hj; rw [HZ.out, HFZ.out, HFI.out]; exact hcmp
              · exact HJ.out j (by omega) h2
            case measure => simp [intOf]; try omega
          · have hcmp2 : fz ≤ fi := by omega
            have HLE : Hid (0 < p + 1 → frP l ((ordK l i).getD (p + 1 - 1) 0) ≤ frP l i) := fun _ => by
              rw [Nat.add_sub_cancel, HZ.out, HFZ.out, HFI.out]; exact hcmp2
            go_upto_region 6 with fail
            have hW := HW.out
            refine AnyJ.beginP (fun w' : World => w'.cell? ⟨go, oo + p, none⟩ = some (.int .i64 zn) ∧ w'.cell? ⟨b, off + zn * 2, none⟩ = some (.int .i64 fz) ∧ w'.cell? ⟨b, off + i * 2, none⟩ = some (.int .i64 fi)) (fun _ => true) (by kernel_rfl) (HK3.out _ hBd) (fun hS => ?_)
            refine AnyJ.takeD (i := 0) (d := some 15) (v := ?_) rfl (by kernel_rfl) (by kernel_rfl) (by kernel_rfl) (by kernel_rfl) (by kernel_rfl) (fun _ _ _ h => h) (Or.inl ⟨by kernel_rfl, ?_⟩) hS ?_
            rotate_left
            · intro w' hS
              obtain ⟨sF0, sF1, sF2⟩ := hS
              go_simp
              try with_reducible rfl
            refine AnyJ.takeD (i := 1) (d := some 16) (v := ?_) rfl (by kernel_rfl) (by kernel_rfl) (by kernel_rfl) (by kernel_rfl) (by kernel_rfl) (fun _ _ _ h => h) (Or.inl ⟨by kernel_rfl, ?_⟩) hS ?_
            rotate_left
            · intro w' hS
              obtain ⟨sF0, sF1, sF2⟩ := hS
              go_simp
              try with_reducible rfl
            refine AnyJ.takeD (i := 2) (d := some 17) (v := ?_) rfl (by kernel_rfl) (by kernel_rfl) (by kernel_rfl) (by kernel_rfl) (by kernel_rfl) (fun _ _ _ h => h) (Or.inl ⟨by kernel_rfl, ?_⟩) hS ?_
            rotate_left
            · intro w' hS
              obtain ⟨sF0, sF1, sF2⟩ := hS
              go_simp
              try with_reducible rfl
            refine AnyJ.takeD (i := 3) (d := some 18) (v := ?_) rfl (by kernel_rfl) (by kernel_rfl) (by kernel_rfl) (by kernel_rfl) (by kernel_rfl) (fun _ _ _ h => h) (Or.inl ⟨by kernel_rfl, ?_⟩) hS ?_
            rotate_left
            · intro w' hS
              obtain ⟨sF0, sF1, sF2⟩ := hS
              go_simp
              try with_reducible rfl
            refine AnyJ.takeD (i := 4) (d := some 19) (v := ?_) rfl (by kernel_rfl) (by kernel_rfl) (by kernel_rfl) (by kernel_rfl) (by kernel_rfl) (fun _ _ _ h => h) (Or.inl ⟨by kernel_rfl, ?_⟩) hS ?_
            rotate_left
            · intro w' hS
              obtain ⟨sF0, sF1, sF2⟩ := hS
              go_simp
              try with_reducible rfl
            refine AnyJ.takeD (i := 5) (d := some 20) (v := ?_) rfl (by kernel_rfl) (by kernel_rfl) (by kernel_rfl) (by kernel_rfl) (by kernel_rfl) (fun _ _ _ h => h) (Or.inl ⟨by kernel_rfl, ?_⟩) hS ?_
            rotate_left
            · intro w' hS
              obtain ⟨sF0, sF1, sF2⟩ := hS
              go_simp
              try with_reducible rfl
            refine AnyJ.takeD (i := 6) (d := some 21) (v := ?_) rfl (by kernel_rfl) (by kernel_rfl) (by kernel_rfl) (by kernel_rfl) (by kernel_rfl) (fun _ _ _ h => h) (Or.inl ⟨by kernel_rfl, ?_⟩) hS ?_
            rotate_left
            · intro w' hS
              obtain ⟨sF0, sF1, sF2⟩ := hS
              go_simp
              try with_reducible rfl
            refine AnyJ.takeD (i := 7) (d := some 22) (v := ?_) rfl (by kernel_rfl) (by kernel_rfl) (by kernel_rfl) (by kernel_rfl) (by kernel_rfl) (fun _ _ _ h => h) (Or.inl ⟨by kernel_rfl, ?_⟩) hS ?_
            rotate_left
            · intro w' hS
              obtain ⟨sF0, sF1, sF2⟩ := hS
              go_simp
              try with_reducible rfl
            refine AnyJ.takeD (i := 8) (d := some 23) (v := ?_) rfl (by kernel_rfl) (by kernel_rfl) (by kernel_rfl) (by kernel_rfl) (by kernel_rfl) (fun _ _ _ h => h) (Or.inl ⟨by kernel_rfl, ?_⟩) hS ?_
            rotate_left
            · intro w' hS
              obtain ⟨sF0, sF1, sF2⟩ := hS
              go_simp
              try with_reducible rfl
            refine AnyJ.takeD (i := 9) (d := some 24) (v := ?_) rfl (by kernel_rfl) (by kernel_rfl) (by kernel_rfl) (by kernel_rfl) (by kernel_rfl) (fun _ _ _ h => h) (Or.inl ⟨by kernel_rfl, ?_⟩) hS ?_
            rotate_left
            · intro w' hS
              obtain ⟨sF0, sF1, sF2⟩ := hS
              go_simp
              try with_reducible rfl
            refine AnyJ.takeD (i := 10) (d := some 25) (v := ?_) rfl (by kernel_rfl) (by kernel_rfl) (by kernel_rfl) (by kernel_rfl) (by kernel_rfl) (fun _ _ _ h => h) (Or.inl ⟨by kernel_rfl, ?_⟩) hS ?_
            rotate_left
            · intro w' hS
              obtain ⟨sF0, sF1, sF2⟩ := hS
              go_simp
              try with_reducible rfl
            refine AnyJ.takeD (i := 11) (d := some 26) (v := ?_) rfl (by kernel_rfl) (by kernel_rfl) (by kernel_rfl) (by kernel_rfl) (by kernel_rfl) (fun _ _ _ h => h) (Or.inl ⟨by kernel_rfl, ?_⟩) hS ?_
            rotate_left
            · intro w' hS
              obtain ⟨sF0, sF1, sF2⟩ := hS
              go_simp
              try with_reducible rfl
            refine AnyJ.takeD (i := 12) (d := some 27) (v := ?_) rfl (by kernel_rfl) (by kernel_rfl) (by kernel_rfl) (by kernel_rfl) (by kernel_rfl) (fun _ _ _ h => h) (Or.inl ⟨by kernel_rfl, ?_⟩) hS ?_
            rotate_left
            · intro w' hS
              obtain ⟨sF0, sF1, sF2⟩ := hS
              go_simp
              try with_reducible rfl
            refine AnyJ.takeD (i := 13) (d := some 28) (v := ?_) rfl (by kernel_rfl) (by kernel_rfl) (by kernel_rfl) (by kernel_rfl) (by kernel_rfl) (fun _ _ _ h => h) (Or.inl ⟨by kernel_rfl, ?_⟩) hS ?_
            rotate_left
            · intro w' hS
              obtain ⟨sF0, sF1, sF2⟩ := hS
              go_simp
              try with_reducible rfl
            refine AnyJ.takeD (i := 14) (d := some 29) (v := ?_) rfl (by kernel_rfl) (by kernel_rfl) (by kernel_rfl) (by kernel_rfl) (by kernel_rfl) (fun _ _ _ h => h) (Or.inl ⟨by kernel_rfl, ?_⟩) hS ?_
            rotate_left
            · intro w' hS
              obtain ⟨sF0, sF1, sF2⟩ := hS
              go_simp
              try with_reducible rfl
            refine AnyJ.takeD (i := 15) (d := some 30) (v := ?_) rfl (by kernel_rfl) (by kernel_rfl) (by kernel_rfl) (by kernel_rfl) (by kernel_rfl) (fun _ _ _ h => h) (Or.inl ⟨by kernel_rfl, ?_⟩) hS ?_
            rotate_left
            · intro w' hS
              obtain ⟨sF0, sF1, sF2⟩ := hS
              go_simp
              try with_reducible rfl
            refine AnyJ.takeD (i := 16) (d := some 31) (v := ?_) rfl (by kernel_rfl) (by kernel_rfl) (by kernel_rfl) (by kernel_rfl) (by kernel_rfl) (fun _ _ _ h => h) (Or.inl ⟨by kernel_rfl, ?_⟩) hS ?_
            rotate_left
            · intro w' hS
              obtain ⟨sF0, sF1, sF2⟩ := hS
              go_simp
              try with_reducible rfl
            refine AnyJ.takeD (i := 17) (d := some 32) (v := ?_) rfl (by kernel_rfl) (by kernel_rfl) (by kernel_rfl) (by kernel_rfl) (by kernel_rfl) (fun _ _ _ h => h) (Or.inl ⟨by kernel_rfl, ?_⟩) hS ?_
            rotate_left
            · intro w' hS
              obtain ⟨sF0, sF1, sF2⟩ := hS
              go_simp
              try with_reducible rfl
            refine AnyJ.takeD (i := 18) (d := some 33) (v := ?_) rfl (by kernel_rfl) (by kernel_rfl) (by kernel_rfl) (by kernel_rfl) (by kernel_rfl) (fun _ _ _ h => h) (Or.inl ⟨by kernel_rfl, ?_⟩) hS ?_
            rotate_left
            · intro w' hS
              obtain ⟨sF0, sF1, sF2⟩ := hS
              go_simp
              try with_reducible rfl
            refine AnyJ.done (by kernel_rfl) ?_ _
            try simp only [Act.put, List.setIfInBounds_toArray, List.set_cons_zero, List.set_cons_succ]
            clear hS
            clear hW
            have HI := Lib.hid (ordK_ins hq (fun j h1 h2 => HJ.out j h1 h2) HLE.out).symm
            clear HJ HKS
            generalize hwd : (wr.drewN d).drew = wd at hBd ⊢
            clear hwd
            have HT := Lib.hid ((hO.out.step hBd).sl.takeP (ordK_length l i) hq)
            have HLT : Hid (((ordK l i).take (p + 1)).length = (p + 1)) := by show _ = _; rw [List.length_take, ordK_length]; omega
            have HLD : Hid (((ordK l i).drop (p + 1)).length = i - (p + 1)) := by show _ = _; rw [List.length_drop, ordK_length]
            have HLN : Hid (([] ++ (ordK l i).take (p + 1) ++ [(i : Int)]).length + ((ordK l i).drop (p + 1)).length ≤ 1000000000) := by show _ ≤ _; rw [List.nil_append, List.length_append, HLT.out, HLD.out, List.length_singleton]; omega
            have hsz := hB.out.size
            have hsd := hBd.size
            have HBd := Lib.hid hBd
            clear hBd
            go_upto_region 10 with (at_builtin; refine wpList_append_ints rfl _ _ _ rfl Try.underlying24 wr.heap.size _ [] rfl (OwnV.nil _ _) _ _ rfl HT.out (by rw [HLT.out]; simp; omega) hsd ?_; intro v1 w1 ho1 hb1 hs1)
            have HO1 := Lib.hid ho1
            have HB1 := Lib.hid (hb1 _ HBd.out)
            clear ho1 hb1 HT
            go_upto_region 11 with (at_builtin; refine wpList_append_int rfl _ _ _ rfl Try.underlying24 wr.heap.size _ _ rfl (HO1.out.alloc _) w1.heap.size 1 (i : Int) rfl ((Row.new' w1 [_] _ rfl).cell 0 rfl) (by rw [List.nil_append, HLT.out]; omega) (by simp; omega) ?_; intro v2 w2 ho2 hb2 hs2)
            have HO2 := Lib.hid ho2
            have HB2 := Lib.hid (hb2 _ (HB1.out.alloc (by omega) _))
            have hs3 : wr.heap.size ≤ w2.heap.size := HB2.out.size
            have HD := Lib.hid (hO.out.step HB2.out).sl
            clear ho2 hb2 HO1 HB1 hs1 hs2
            go_upto_region 4 with (at_builtin; refine wpList_append_ints rfl _ _ _ rfl Try.underlying24 wr.heap.size _ _ rfl HO2.out _ ((ordK l i).drop (p + 1)) rfl (by show SlV w2 (.slice _ _ _) _; refine HD.out.dropP (ordK_length l i) hq (fun h => ?_); first | rfl | exact if_neg (by omega)) HLN.out hs3 ?_; intro v3 w3 ho3 hb3 hs4)
            all_goals
              have hO3 : OwnV w3 wr.heap.size v3 (ordK l (i + 1)) := by rw [HI.out]; exact ho3
              obtain ⟨ad3, cp3, rfl, hO3⟩ := hO3.form2
              rw [ordK_length] at hO3
              try rw [ordK_length]
              have HO3 := Lib.hid (hO3.lowC hB.out.size)
              have HB3 := Lib.hid (hB.out.trans ((hb3 _ HB2.out).mono hB.out.size))
              clear ho3 hb3 hO3 HO2 HB2 HD HI
              go_wp2_with fail
              go_roundw
              case rel => exact ⟨i + 1, ad3, cp3, by omega, by go_num, rfl, HO3.out, HB3.out⟩
              case measure => simp [intOf]; try omega
    · obtain rfl : n = i := by omega
      have HV : Hid (OwnV wr w.heap.size (.slice ad n cp) (ordL l)) := by
        have := hO.out
        unfold ordK at this
        show OwnV _ _ _ _
        unfold ordL
        rw [HL.out]; exact this
      go_wp2_with fail
      go_ret
      exact ⟨_, _, rfl, HV.out, hB.out⟩

end Go.Proofs.Ytbafhmlmibjgpaa
