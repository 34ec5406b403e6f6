/-
 The walk of hall.reach.
-/
import Derived.Test.YtlmajlfhjbhdpaaGreatYF
namespace Go.Proofs.YtlmajlfhjbhdpaaGreat
set_option linter.unusedSimpArgs false
set_option linter.unusedVariables false
open Go.RowKit Go.Shelf
theorem wpList_append_Q {ops : Array Oper} {rest : List Oper} {o : Oper} {a : Act} {Q : Exit → Act → World → Prop} {w : World} (hgd : o.guard = none) (s x : Operand) (t : TypeId) (ho : o.op = .call { callee := .builtin .append, args := #[s, x], argTypes := #[t, t] }) (ht : Tryz.prog.underlying t = some (.slice 3))
  (base : Nat) {v : Value} {zs : List Nat} (hs : a.eval s = v) (hq : QI w base v zs) {gx c z : Nat} (hx : a.eval x = .slice (some ⟨gx, 0, none⟩) 1 c) (hcx : w.cell? ⟨gx, 0, none⟩ = some (.int .i64 (z : Int))) (hn : zs.length + 1 ≤ 1000000) (hbase : base ≤ w.heap.size)
  (h : ∀ v' w', QI w' base v' (zs ++ [z]) → Below base w w' → wpList Tryz.prog ops Q rest (a.put o.dst v') w') : wpList Tryz.prog ops Q (o :: rest) a w := by
 refine wpList_plain hgd fun K hK => ?_
 obtain ⟨v', w', hrun, h1, h2⟩ := run_append_Q t ht o.type base hq (c := c) hcx hn hbase
 unfold Oper.wp execOp
 simp only [ho, resolve, invoke, builtin, Sem.run_bind, Sem.run_pure, Result.andThen_ok, List.map_toArray, List.map_cons, List.map_nil, hs, hx, hrun]
 exact hK _ _ (h v' w' h1 h2)
def qLen (v : Value) : Nat := match v with
 | .slice _ n _ => n
 | _ => 0
set_option maxRecDepth 100000 in
set_option maxHeartbeats 12800000 in
theorem reach_any (sa : Option Addr) (sn sc : Nat) (NS : List StayV) (ra : Option Addr) (m rc : Nat) (NR : List RoomV) (fb : Nat) (F : List (Int × Int)) (nb ob stay : Nat) (O : OwnO) (w : World) (hm : m ≤ 1000) (hsn : sn ≤ 100000) (hst : stay < sn) (hN : NightIn w nb sa sn sc NS ra m rc NR fb F) (hM : OMap w ob O) (hO : ∀ k j, O k = some j → j < sn) :
  Calls Tryz.prog 124 #[.pointer (some ⟨nb, 0, none⟩), .map (some ob), .int .i64 (stay : Int)] w fun e w' => ∃ rb tb R T, e = .returned (.tuple #[.map (some rb), .map (some tb)]) ∧ w.heap.size ≤ rb ∧ w.heap.size ≤ tb ∧ IMap w' rb (bl R) ∧ IMap w' tb (bl T) ∧ RI (fitsF F) m sn O stay stay m R T [] ∧ Below w.heap.size w w' := by
 have HN := Lib.hid hN
 have HM := Lib.hid hM
 have HO := Lib.hid hO
 have HLO := Lib.hid hN.lo
 have hob := hM.lt
 have hmk := @run_makeMap Tryz.prog
 obtain ⟨rb, hrb⟩ : ∃ rb, w.heap.size = rb := ⟨_, rfl⟩
 have HB0 : Hid (Below w.heap.size w (w.alloc (.map #[] 0))) := by show Below _ _ _; (repeat' (first | (with_reducible first | exact Below.refl _ _ | assumption | exact Bw.out (by assumption) | refine bw_alloc ?_ _ | refine bw_step ?_ (by assumption) | refine Below.alloc ?_ ?_ _ | refine Below.drew ?_ | refine below_drewN ?_ _ | refine Below.setCell ?_ ?_ _ | refine below_step ?_ (by assumption) ?_ | exact Nat.le_refl _) | omega | (simp; omega) | (simp; done)))
 have hs0 : (w.alloc (.map #[] 0)).heap.size = rb + 1 := by simp [hrb]
 have hm0 := imap_made w
 rw [hrb] at hm0
 have HM0 := Lib.hid hm0
 clear hN hM hO hm0
 go_enter Tryz.func124, Tryz.ntmps124
 go_wp2_with (first
  | (refine wpList_update_imap _ rfl _ _ _ 171 (.inr rfl) 3 4 Tryz.underlying171 Tryz.underlying3 rb [] rfl HM0.out (stay : Int) (.bool true) rfl rfl ?_; intro w1 hm1 hg1))
 obtain ⟨tb, htb⟩ : ∃ tb, w1.heap.size = tb := ⟨_, rfl⟩
 obtain ⟨base, hbase⟩ : ∃ base, tb + 1 = base := ⟨_, rfl⟩
 have hs1 := hg1.size
 have hrt : rb < tb := by omega
 obtain ⟨w2, hw2⟩ : ∃ w2, (w1.alloc (.map #[] 0)).alloc (.cells #[.int .i64 (stay : Int)] 3) = w2 := ⟨_, rfl⟩
 have hs2 : w2.heap.size = base + 1 := by rw [← hw2]; simp; omega
 have HB2 : Hid (Below w.heap.size w w2) := by
  show Below _ _ _
  rw [← hw2]
  have h := HB0.out.grown hg1 HB0.out.size (fun k e => by cases e; omega)
  exact (h.alloc h.size _).alloc (by have := h.size; simp; omega) _
 have HR2 : Hid (IMap w2 rb (bl [stay])) := by show IMap _ _ _; rw [← hw2]; exact (IMap.alloc (IMap.alloc hm1 _) _)
 have HT2 : Hid (IMap w2 tb (bl [])) := by
  show IMap _ _ _
  rw [← hw2]
  have h := imap_made w1
  rw [htb] at h
  exact h.alloc _
 have HQ2 : Hid (QI w2 base (.slice (some ⟨base, 0, none⟩) 1 1) [stay]) := by
  refine ⟨base, 0, 1, 1, #[.int .i64 (stay : Int)], rfl, rfl, Nat.le_refl _, by unfold maxLen; omega, Nat.le_refl _, ?_, by simp, fun i z hz => ?_⟩
  ·
   rw [← hw2]
   show ((w1.alloc (.map #[] 0)).heap.push _)[base]? = _
   have e : base = (w1.alloc (.map #[] 0)).heap.size := by simp; omega
   rw [e]
   exact Array.getElem?_push_size
  ·
   cases i with
   | zero => simp at hz; subst hz; rfl
   | succ i => simp at hz
 try simp only [htb, hbase, hw2]
 clear hw2 htb hg1 hm1 HM0 HB0 hs0 hs1
 go_loopw [8] (fun v8 wr => ∃ (i : Nat) (R T Q : List Nat), Hid (QI wr base v8 Q) ∧ Hid (IMap wr rb (bl R)) ∧ Hid (IMap wr tb (bl T)) ∧ Hid (RI (fitsF F) m sn O stay i m R T Q) ∧ Hid (Ch (fun x => x = rb ∨ x = tb ∨ base ≤ x) w2 wr) ∧ Hid (Q.length + 2 * (m - T.length) ≤ 2 * m + 1)) (fun v8 wr => qLen v8 + 2 * (m - mapLen wr tb))
 case atStart => exact ⟨stay, [stay], [], [stay], HQ2.out, HR2.out, HT2.out, RI.start hst, Ch.refl _ _, by show _ ≤ _; simp; omega⟩
 case round =>
  obtain ⟨i0, R, T, Q, hQ, hR, hT, hI, hC, hL⟩ := hrel
  have hL' := hL.out
  have hcz := hC.out.size
  have HNr := Lib.hid ((HN.out.step HB2.out).ch (B := rb) (hrb ▸ HLO.out) hC.out (fun x hx => by omega))
  cases Q with
  | nil =>
   obtain ⟨g, off, cap, rfl, _, _, _⟩ := hQ.out.shape (n := 0) rfl
   have HBr : Hid (Below w.heap.size w wr) := hC.out.below HB2.out (fun x hx => by omega) HB2.out.size
   go_wp2_with fail
   go_ret2
   have := HBr.out
   rw [hrb] at this ⊢
   exact ⟨rb, tb, R, T, rfl, Nat.le_refl _, by omega, hR.out, hT.out, { hI.out with pend := hI.out.st, all := fun j hj hq k hk hf => Or.inl (hI.out.shut j hj k hk hf) }, this⟩
  | cons x Q =>
   obtain ⟨g, off, cap, rfl, hc1, hc2, hgl⟩ := hQ.out.shape (n := Q.length + 1) rfl
   obtain ⟨N, hN⟩ : ∃ N, Q.length = N := ⟨_, rfl⟩
   have x0 := hQ.out.cell (i := 0) (z := x) rfl
   have hQt := hQ.out.tail
   have HP := Lib.hid hI.out.pop
   have HNL := Lib.hid hN
   have hml := mapLen_bl hT.out
   have HML := Lib.hid hml
   rw [List.length_cons] at hL'
   rw [hN] at hQt hL' hc1 ⊢
   rw [Nat.add_zero] at x0
   have i1 : (0 : Int) < ((N + 1 : Nat) : Int) := by omega
   have n1 := HNr.out.row.cell 1 rfl
   by_cases hcc : cap = 1
   ·
    subst hcc
    rw [if_pos rfl] at hQt
    have hQv : QI wr base (.slice (some ⟨g, off, none⟩) 0 0) Q := by
     have e : N = 0 := by omega
     subst e
     exact hQt
    clear hQ hml hN
    have HQV := Lib.hid hQv
    clear hQv hQt
    go_wp2_with fail
    go_loopw [8, 32] (fun v8 ix wx => ∃ (k : Nat) (R1 T1 Q1 : List Nat), k ≤ m ∧ ix = .int .i64 k ∧ Hid (QI wx base v8 Q1) ∧ Hid (IMap wx rb (bl R1)) ∧ Hid (IMap wx tb (bl T1)) ∧ Hid (RI (fitsF F) m sn O stay x k R1 T1 Q1) ∧ Hid (Ch (fun x => x = rb ∨ x = tb ∨ base ≤ x) w2 wx) ∧ Hid (Q1.length + 2 * (m - T1.length) + 1 ≤ N + 1 + 2 * (m - T.length))) (fun _ ix _ => m - (intOf ix).toNat)
    case atStart => exact ⟨0, R, T, Q, Nat.zero_le _, rfl, HQV.out, hR.out, hT.out, HP.out, hC.out, by show _ ≤ _; rw [HNL.out]; omega⟩
    case round =>
     obtain ⟨k, R1, T1, Q1, hk, rfl, hQ1, hR1, hT1, hI1, hC1, hL1⟩ := hrel
     have hcz1 := hC1.out.size
     have HN1 := Lib.hid ((HN.out.step HB2.out).ch (B := rb) (hrb ▸ HLO.out) hC1.out (fun x hx => by omega))
     have HL1 := hL1.out
     by_cases hkm : k < m
     ·
      have n0 := HN1.out.row.cell 2 rfl
      have hlt := run_lookup_bl hT1.out k
      have hlf := run_lookup_pmap Tryz.underlying63 HN1.out.fits ((x : Int), (k : Int))
      obtain ⟨p2, hp2⟩ : ∃ p, fitsF F x k = p := ⟨_, rfl⟩
      have hp2' : decide (((x : Int), (k : Int)) ∈ F) = p2 := hp2
      rw [hp2'] at hlf
      simp only [pkey] at hlf
      have HP2 := Lib.hid hp2
      clear hp2 hp2'
      by_cases hkT : k ∈ T1
      ·
       rw [decide_eq_true hkT] at hlt
       have HI2 := Lib.hid (hI1.out.skip (Or.inl hkT))
       clear hkT
       go_wp2_with fail
       go_roundw
       case rel => exact ⟨k + 1, R1, T1, Q1, by omega, by go_num, hQ1.out, hR1.out, hT1.out, HI2.out, hC1.out, hL1.out⟩
       case measure => simp [intOf]; omega
      ·
       rw [decide_eq_false hkT] at hlt
       have HKT := Lib.hid hkT
       clear hkT
       cases p2 with
       | false =>
        have HI2 := Lib.hid (hI1.out.skip (Or.inr HP2.out))
        go_wp2_with fail
        go_roundw
        case rel => exact ⟨k + 1, R1, T1, Q1, by omega, by go_num, hQ1.out, hR1.out, hT1.out, HI2.out, hC1.out, hL1.out⟩
        case measure => simp [intOf]; omega
       | true =>
        have HTL : Hid (T1.length < m) := by
         have h1 := (hI1.out.take hkm HKT.out HP2.out)
         show _ < _
         by_cases hno : ∀ j, O k = some j → j ∈ R1
         ·
          have := (h1 hno).few
          rw [List.length_append, List.length_singleton] at this
          omega
         ·
          obtain ⟨j, hj⟩ := Classical.not_forall.1 hno
          obtain ⟨hj1, hj2⟩ := Classical.not_imp.1 hj
          have := (hI1.out.takeNew hkm HKT.out HP2.out hj1 hj2 (HO.out k j hj1)).few
          rw [List.length_append, List.length_singleton] at this
          omega
        have htl := HTL.out
        have tok1 : True := trivial
        cases hok : O k with
        | none =>
         have HOK := Lib.hid hok
         have HI2 := Lib.hid (hI1.out.take hkm HKT.out HP2.out (fun j h => by rw [hok] at h; cases h))
         clear hok
         go_wp2_with (
          have _t := tok1
          refine wpList_update_imap _ rfl _ _ _ 171 (.inl rfl) 3 4 Tryz.underlying171 Tryz.underlying3 tb (bl T1) rfl hT1.out (k : Int) (.bool true) rfl rfl ?_
          intro w5 hm5 hg5
          have HT5 : Hid (IMap w5 tb (bl (T1 ++ [k]))) := by show IMap _ _ _; rw [← upd_bl HKT.out]; exact hm5
          have HC5 : Hid (Ch (fun x => x = rb ∨ x = tb ∨ base ≤ x) w2 w5) := hC1.out.trans (Ch.of_grown hg5 (fun q e => by cases e; exact Or.inr (Or.inl rfl)))
          have HR5 := Lib.hid (hR1.out.of_block (hg5.block rb hR1.out.lt (fun e => by cases e; omega)))
          have HQ5 := Lib.hid (hQ1.out.grown hg5 (by omega))
          have HM5 := Lib.hid ((HM.out.step HB2.out).of_block (HC5.out.2.2.2.2 ob (by omega) (by omega)))
          have hlo := run_lookup_omap HM5.out k
          rw [HOK.out] at hlo
          simp only [Option.getD_none, Option.getD_some, Option.isSome_none, Option.isSome_some] at hlo
          clear tok1 hm5 hg5 hlt hlf n0)
         go_roundw
         case rel => exact ⟨k + 1, R1, T1 ++ [k], Q1, by omega, by go_num, HQ5.out, HR5.out, HT5.out, HI2.out, HC5.out, by show _ ≤ _; rw [List.length_append]; simp; omega⟩
         case measure => simp [intOf]; omega
        | some j =>
         have HOK := Lib.hid hok
         have hjn := HO.out k j hok
         clear hok
         by_cases hjR : j ∈ R1
         ·
          have HI2 := Lib.hid (hI1.out.take hkm HKT.out HP2.out (fun j' h => by rw [HOK.out] at h; cases h; exact hjR))
          have HJR := Lib.hid hjR
          clear hjR
          go_wp2_with (
           have _t := tok1
           refine wpList_update_imap _ rfl _ _ _ 171 (.inl rfl) 3 4 Tryz.underlying171 Tryz.underlying3 tb (bl T1) rfl hT1.out (k : Int) (.bool true) rfl rfl ?_
           intro w5 hm5 hg5
           have HT5 : Hid (IMap w5 tb (bl (T1 ++ [k]))) := by show IMap _ _ _; rw [← upd_bl HKT.out]; exact hm5
           have HC5 : Hid (Ch (fun x => x = rb ∨ x = tb ∨ base ≤ x) w2 w5) := hC1.out.trans (Ch.of_grown hg5 (fun q e => by cases e; exact Or.inr (Or.inl rfl)))
           have HR5 := Lib.hid (hR1.out.of_block (hg5.block rb hR1.out.lt (fun e => by cases e; omega)))
           have HQ5 := Lib.hid (hQ1.out.grown hg5 (by omega))
           have HM5 := Lib.hid ((HM.out.step HB2.out).of_block (HC5.out.2.2.2.2 ob (by omega) (by omega)))
           have hlo := run_lookup_omap HM5.out k
           rw [HOK.out] at hlo
           simp only [Option.getD_none, Option.getD_some, Option.isSome_none, Option.isSome_some] at hlo
           have hlr := run_lookup_bl HR5.out j
           rw [decide_eq_true HJR.out] at hlr
           clear tok1 hm5 hg5 hlt hlf n0)
          go_roundw
          case rel => exact ⟨k + 1, R1, T1 ++ [k], Q1, by omega, by go_num, HQ5.out, HR5.out, HT5.out, HI2.out, HC5.out, by show _ ≤ _; rw [List.length_append]; simp; omega⟩
          case measure => simp [intOf]; omega
         ·
          have HI2 := Lib.hid (hI1.out.takeNew hkm HKT.out HP2.out HOK.out hjR hjn)
          have HJR := Lib.hid hjR
          clear hjR
          go_wp2_with (first
           | (have _t := tok1
              refine wpList_update_imap _ rfl _ _ _ 171 (.inl rfl) 3 4 Tryz.underlying171 Tryz.underlying3 tb (bl T1) rfl hT1.out (k : Int) (.bool true) rfl rfl ?_
              intro w5 hm5 hg5
              have HT5 : Hid (IMap w5 tb (bl (T1 ++ [k]))) := by show IMap _ _ _; rw [← upd_bl HKT.out]; exact hm5
              have HC5 : Hid (Ch (fun x => x = rb ∨ x = tb ∨ base ≤ x) w2 w5) := hC1.out.trans (Ch.of_grown hg5 (fun q e => by cases e; exact Or.inr (Or.inl rfl)))
              have HR5 := Lib.hid (hR1.out.of_block (hg5.block rb hR1.out.lt (fun e => by cases e; omega)))
              have HQ5 := Lib.hid (hQ1.out.grown hg5 (by omega))
              have HM5 := Lib.hid ((HM.out.step HB2.out).of_block (HC5.out.2.2.2.2 ob (by omega) (by omega)))
              have hlo := run_lookup_omap HM5.out k
              rw [HOK.out] at hlo
              simp only [Option.getD_none, Option.getD_some, Option.isSome_none, Option.isSome_some] at hlo
              have hlr := run_lookup_bl HR5.out j
              rw [decide_eq_false HJR.out] at hlr
              have tok2 : True := trivial
              clear tok1 hm5 hg5 hlt hlf n0)
           | (have _t := tok2
              refine wpList_update_imap _ rfl _ _ _ 171 (.inl rfl) 3 4 Tryz.underlying171 Tryz.underlying3 rb (bl R1) rfl HR5.out (j : Int) (.bool true) rfl rfl ?_
              intro w6 hm6 hg6
              have HR6 : Hid (IMap w6 rb (bl (R1 ++ [j]))) := by show IMap _ _ _; rw [← upd_bl HJR.out]; exact hm6
              have HC6 : Hid (Ch (fun x => x = rb ∨ x = tb ∨ base ≤ x) w2 w6) := HC5.out.trans (Ch.of_grown hg6 (fun q e => by cases e; exact Or.inl rfl))
              have HT6 := Lib.hid (HT5.out.of_block (hg6.block tb HT5.out.lt (fun e => by cases e; omega)))
              have HQ6 := Lib.hid (HQ5.out.grown hg6 (by omega))
              have hs6 := HC6.out.size
              have tok3 : True := trivial
              clear tok2 hm6 hg6 hlo hlr)
           | (have _t := tok3
              at_builtin
              refine wpList_append_Q rfl _ _ _ rfl Tryz.underlying44 base rfl (HQ6.out.step ((Below.refl _ _).alloc (Nat.le_refl _) _)) (c := 1) (z := j) rfl ((Row.new' _ [.int .i64 (j : Int)] _ rfl).cell 0 rfl) (by omega) (by simp; omega) ?_
              intro v7 w7 hq7 hb7
              have HQ7 := Lib.hid hq7
              have hal6 : Below w6.heap.size w6 (w6.alloc (.cells #[.int .i64 (j : Int)] 3)) := (Below.refl _ _).alloc (Nat.le_refl _) _
              have HR7 := Lib.hid ((HR6.out.alloc (.cells #[.int .i64 (j : Int)] 3)).of_block (hb7.block rb (by omega)))
              have HT7 := Lib.hid ((HT6.out.alloc (.cells #[.int .i64 (j : Int)] 3)).of_block (hb7.block tb (by omega)))
              have HC7 : Hid (Ch (fun x => x = rb ∨ x = tb ∨ base ≤ x) w2 w7) := (HC6.out.trans (Ch.ofB hal6)).trans ⟨hb7.os, hb7.tape, hb7.output, hb7.size, fun q hq hn => hb7.block q (by omega)⟩
              clear tok3 hq7 hb7 hal6))
          go_roundw
          case rel => exact ⟨k + 1, R1 ++ [j], T1 ++ [k], Q1 ++ [j], by omega, by go_num, HQ7.out, HR7.out, HT7.out, HI2.out, HC7.out, by show _ ≤ _; rw [List.length_append, List.length_append]; simp; omega⟩
          case measure => simp [intOf]; omega
     ·
      obtain rfl : k = m := by omega
      have hml2 := mapLen_bl hT1.out
      have HML2 := Lib.hid hml2
      obtain ⟨g2, off2, cap2, rfl, _, _, _⟩ := hQ1.out.shape rfl
      clear hml2
      go_wp2_with fail
      exact ⟨⟨x, R1, T1, Q1, hQ1.out, hR1.out, hT1.out, hI1.out, hC1.out, by show _ ≤ _; omega⟩, by rw [HML2.out, HML.out]; simp only [qLen]; omega⟩
   ·
    rw [if_neg hcc] at hQt
    have hQv : QI wr base (.slice (some ⟨g, off + 1, none⟩) N (cap - 1)) Q := hQt
    clear hQ hml hN
    have HQV := Lib.hid hQv
    clear hQv hQt
    go_wp2_with fail
    go_loopw [8, 32] (fun v8 ix wx => ∃ (k : Nat) (R1 T1 Q1 : List Nat), k ≤ m ∧ ix = .int .i64 k ∧ Hid (QI wx base v8 Q1) ∧ Hid (IMap wx rb (bl R1)) ∧ Hid (IMap wx tb (bl T1)) ∧ Hid (RI (fitsF F) m sn O stay x k R1 T1 Q1) ∧ Hid (Ch (fun x => x = rb ∨ x = tb ∨ base ≤ x) w2 wx) ∧ Hid (Q1.length + 2 * (m - T1.length) + 1 ≤ N + 1 + 2 * (m - T.length))) (fun _ ix _ => m - (intOf ix).toNat)
    case atStart => exact ⟨0, R, T, Q, Nat.zero_le _, rfl, HQV.out, hR.out, hT.out, HP.out, hC.out, by show _ ≤ _; rw [HNL.out]; omega⟩
    case round =>
     obtain ⟨k, R1, T1, Q1, hk, rfl, hQ1, hR1, hT1, hI1, hC1, hL1⟩ := hrel
     have hcz1 := hC1.out.size
     have HN1 := Lib.hid ((HN.out.step HB2.out).ch (B := rb) (hrb ▸ HLO.out) hC1.out (fun x hx => by omega))
     have HL1 := hL1.out
     by_cases hkm : k < m
     ·
      have n0 := HN1.out.row.cell 2 rfl
      have hlt := run_lookup_bl hT1.out k
      have hlf := run_lookup_pmap Tryz.underlying63 HN1.out.fits ((x : Int), (k : Int))
      obtain ⟨p2, hp2⟩ : ∃ p, fitsF F x k = p := ⟨_, rfl⟩
      have hp2' : decide (((x : Int), (k : Int)) ∈ F) = p2 := hp2
      rw [hp2'] at hlf
      simp only [pkey] at hlf
      have HP2 := Lib.hid hp2
      clear hp2 hp2'
      by_cases hkT : k ∈ T1
      ·
       rw [decide_eq_true hkT] at hlt
       have HI2 := Lib.hid (hI1.out.skip (Or.inl hkT))
       clear hkT
       go_wp2_with fail
       go_roundw
       case rel => exact ⟨k + 1, R1, T1, Q1, by omega, by go_num, hQ1.out, hR1.out, hT1.out, HI2.out, hC1.out, hL1.out⟩
       case measure => simp [intOf]; omega
      ·
       rw [decide_eq_false hkT] at hlt
       have HKT := Lib.hid hkT
       clear hkT
       cases p2 with
       | false =>
        have HI2 := Lib.hid (hI1.out.skip (Or.inr HP2.out))
        go_wp2_with fail
        go_roundw
        case rel => exact ⟨k + 1, R1, T1, Q1, by omega, by go_num, hQ1.out, hR1.out, hT1.out, HI2.out, hC1.out, hL1.out⟩
        case measure => simp [intOf]; omega
       | true =>
        have HTL : Hid (T1.length < m) := by
         have h1 := (hI1.out.take hkm HKT.out HP2.out)
         show _ < _
         by_cases hno : ∀ j, O k = some j → j ∈ R1
         ·
          have := (h1 hno).few
          rw [List.length_append, List.length_singleton] at this
          omega
         ·
          obtain ⟨j, hj⟩ := Classical.not_forall.1 hno
          obtain ⟨hj1, hj2⟩ := Classical.not_imp.1 hj
          have := (hI1.out.takeNew hkm HKT.out HP2.out hj1 hj2 (HO.out k j hj1)).few
          rw [List.length_append, List.length_singleton] at this
          omega
        have htl := HTL.out
        have tok1 : True := trivial
        cases hok : O k with
        | none =>
         have HOK := Lib.hid hok
         have HI2 := Lib.hid (hI1.out.take hkm HKT.out HP2.out (fun j h => by rw [hok] at h; cases h))
         clear hok
         go_wp2_with (
          have _t := tok1
          refine wpList_update_imap _ rfl _ _ _ 171 (.inl rfl) 3 4 Tryz.underlying171 Tryz.underlying3 tb (bl T1) rfl hT1.out (k : Int) (.bool true) rfl rfl ?_
          intro w5 hm5 hg5
          have HT5 : Hid (IMap w5 tb (bl (T1 ++ [k]))) := by show IMap _ _ _; rw [← upd_bl HKT.out]; exact hm5
          have HC5 : Hid (Ch (fun x => x = rb ∨ x = tb ∨ base ≤ x) w2 w5) := hC1.out.trans (Ch.of_grown hg5 (fun q e => by cases e; exact Or.inr (Or.inl rfl)))
          have HR5 := Lib.hid (hR1.out.of_block (hg5.block rb hR1.out.lt (fun e => by cases e; omega)))
          have HQ5 := Lib.hid (hQ1.out.grown hg5 (by omega))
          have HM5 := Lib.hid ((HM.out.step HB2.out).of_block (HC5.out.2.2.2.2 ob (by omega) (by omega)))
          have hlo := run_lookup_omap HM5.out k
          rw [HOK.out] at hlo
          simp only [Option.getD_none, Option.getD_some, Option.isSome_none, Option.isSome_some] at hlo
          clear tok1 hm5 hg5 hlt hlf n0)
         go_roundw
         case rel => exact ⟨k + 1, R1, T1 ++ [k], Q1, by omega, by go_num, HQ5.out, HR5.out, HT5.out, HI2.out, HC5.out, by show _ ≤ _; rw [List.length_append]; simp; omega⟩
         case measure => simp [intOf]; omega
        | some j =>
         have HOK := Lib.hid hok
         have hjn := HO.out k j hok
         clear hok
         by_cases hjR : j ∈ R1
         ·
          have HI2 := Lib.hid (hI1.out.take hkm HKT.out HP2.out (fun j' h => by rw [HOK.out] at h; cases h; exact hjR))
          have HJR := Lib.hid hjR
          clear hjR
          go_wp2_with (
           have _t := tok1
           refine wpList_update_imap _ rfl _ _ _ 171 (.inl rfl) 3 4 Tryz.underlying171 Tryz.underlying3 tb (bl T1) rfl hT1.out (k : Int) (.bool true) rfl rfl ?_
           intro w5 hm5 hg5
           have HT5 : Hid (IMap w5 tb (bl (T1 ++ [k]))) := by show IMap _ _ _; rw [← upd_bl HKT.out]; exact hm5
           have HC5 : Hid (Ch (fun x => x = rb ∨ x = tb ∨ base ≤ x) w2 w5) := hC1.out.trans (Ch.of_grown hg5 (fun q e => by cases e; exact Or.inr (Or.inl rfl)))
           have HR5 := Lib.hid (hR1.out.of_block (hg5.block rb hR1.out.lt (fun e => by cases e; omega)))
           have HQ5 := Lib.hid (hQ1.out.grown hg5 (by omega))
           have HM5 := Lib.hid ((HM.out.step HB2.out).of_block (HC5.out.2.2.2.2 ob (by omega) (by omega)))
           have hlo := run_lookup_omap HM5.out k
           rw [HOK.out] at hlo
           simp only [Option.getD_none, Option.getD_some, Option.isSome_none, Option.isSome_some] at hlo
           have hlr := run_lookup_bl HR5.out j
           rw [decide_eq_true HJR.out] at hlr
           clear tok1 hm5 hg5 hlt hlf n0)
          go_roundw
          case rel => exact ⟨k + 1, R1, T1 ++ [k], Q1, by omega, by go_num, HQ5.out, HR5.out, HT5.out, HI2.out, HC5.out, by show _ ≤ _; rw [List.length_append]; simp; omega⟩
          case measure => simp [intOf]; omega
         ·
          have HI2 := Lib.hid (hI1.out.takeNew hkm HKT.out HP2.out HOK.out hjR hjn)
          have HJR := Lib.hid hjR
          clear hjR
          go_wp2_with (first
           | (have _t := tok1
              refine wpList_update_imap _ rfl _ _ _ 171 (.inl rfl) 3 4 Tryz.underlying171 Tryz.underlying3 tb (bl T1) rfl hT1.out (k : Int) (.bool true) rfl rfl ?_
              intro w5 hm5 hg5
              have HT5 : Hid (IMap w5 tb (bl (T1 ++ [k]))) := by show IMap _ _ _; rw [← upd_bl HKT.out]; exact hm5
              have HC5 : Hid (Ch (fun x => x = rb ∨ x = tb ∨ base ≤ x) w2 w5) := hC1.out.trans (Ch.of_grown hg5 (fun q e => by cases e; exact Or.inr (Or.inl rfl)))
              have HR5 := Lib.hid (hR1.out.of_block (hg5.block rb hR1.out.lt (fun e => by cases e; omega)))
              have HQ5 := Lib.hid (hQ1.out.grown hg5 (by omega))
              have HM5 := Lib.hid ((HM.out.step HB2.out).of_block (HC5.out.2.2.2.2 ob (by omega) (by omega)))
              have hlo := run_lookup_omap HM5.out k
              rw [HOK.out] at hlo
              simp only [Option.getD_none, Option.getD_some, Option.isSome_none, Option.isSome_some] at hlo
              have hlr := run_lookup_bl HR5.out j
              rw [decide_eq_false HJR.out] at hlr
              have tok2 : True := trivial
              clear tok1 hm5 hg5 hlt hlf n0)
           | (have _t := tok2
              refine wpList_update_imap _ rfl _ _ _ 171 (.inl rfl) 3 4 Tryz.underlying171 Tryz.underlying3 rb (bl R1) rfl HR5.out (j : Int) (.bool true) rfl rfl ?_
              intro w6 hm6 hg6
              have HR6 : Hid (IMap w6 rb (bl (R1 ++ [j]))) := by show IMap _ _ _; rw [← upd_bl HJR.out]; exact hm6
              have HC6 : Hid (Ch (fun x => x = rb ∨ x = tb ∨ base ≤ x) w2 w6) := HC5.out.trans (Ch.of_grown hg6 (fun q e => by cases e; exact Or.inl rfl))
              have HT6 := Lib.hid (HT5.out.of_block (hg6.block tb HT5.out.lt (fun e => by cases e; omega)))
              have HQ6 := Lib.hid (HQ5.out.grown hg6 (by omega))
              have hs6 := HC6.out.size
              have tok3 : True := trivial
              clear tok2 hm6 hg6 hlo hlr)
           | (have _t := tok3
              at_builtin
              refine wpList_append_Q rfl _ _ _ rfl Tryz.underlying44 base rfl (HQ6.out.step ((Below.refl _ _).alloc (Nat.le_refl _) _)) (c := 1) (z := j) rfl ((Row.new' _ [.int .i64 (j : Int)] _ rfl).cell 0 rfl) (by omega) (by simp; omega) ?_
              intro v7 w7 hq7 hb7
              have HQ7 := Lib.hid hq7
              have hal6 : Below w6.heap.size w6 (w6.alloc (.cells #[.int .i64 (j : Int)] 3)) := (Below.refl _ _).alloc (Nat.le_refl _) _
              have HR7 := Lib.hid ((HR6.out.alloc (.cells #[.int .i64 (j : Int)] 3)).of_block (hb7.block rb (by omega)))
              have HT7 := Lib.hid ((HT6.out.alloc (.cells #[.int .i64 (j : Int)] 3)).of_block (hb7.block tb (by omega)))
              have HC7 : Hid (Ch (fun x => x = rb ∨ x = tb ∨ base ≤ x) w2 w7) := (HC6.out.trans (Ch.ofB hal6)).trans ⟨hb7.os, hb7.tape, hb7.output, hb7.size, fun q hq hn => hb7.block q (by omega)⟩
              clear tok3 hq7 hb7 hal6))
          go_roundw
          case rel => exact ⟨k + 1, R1 ++ [j], T1 ++ [k], Q1 ++ [j], by omega, by go_num, HQ7.out, HR7.out, HT7.out, HI2.out, HC7.out, by show _ ≤ _; rw [List.length_append, List.length_append]; simp; omega⟩
          case measure => simp [intOf]; omega
     ·
      obtain rfl : k = m := by omega
      have hml2 := mapLen_bl hT1.out
      have HML2 := Lib.hid hml2
      obtain ⟨g2, off2, cap2, rfl, _, _, _⟩ := hQ1.out.shape rfl
      clear hml2
      go_wp2_with fail
      exact ⟨⟨x, R1, T1, Q1, hQ1.out, hR1.out, hT1.out, hI1.out, hC1.out, by show _ ≤ _; omega⟩, by rw [HML2.out, HML.out]; simp only [qLen]; omega⟩
end Go.Proofs.YtlmajlfhjbhdpaaGreat
