/-
  Package scene, seventh part: the iterator over a scene's sales.
-/
import Derived.Test.YtdijdfhlmnhcjaaScnD
import Derived.Test.YtdijdfhlmnhcjaaRngC
import Derived.Test.YtdijdfhlmnhcjaaCh
import Derived.BigQuiet
import Derived.Sort.CutIn
namespace Go.Proofs.Ytdijdfhlmnhcjaa
set_option linter.unusedSimpArgs false
set_option linter.unusedVariables false
open Go.RowKit Go.MapKept

attribute [local go_sem] Oper.semAt_some

abbrev encS (x : SaleV) : Array Value := #[saleVal x]
def oneS (kd nt id ch : Int) (ct : Bool) : SaleV := ⟨id, ch, id, ct, kd, nt, nt + 1, 1⟩
def manyS (kd nt id ch : Int) (ct : Bool) (m : Nat) : List SaleV := (List.range m).map (fun (j : Nat) => oneS kd nt (id + (j : Int) + 1) ch ct)
theorem manyS_succ (kd nt id ch : Int) (ct : Bool) (m : Nat) : manyS kd nt id ch ct (m + 1) = manyS kd nt id ch ct m ++ [oneS kd nt (id + (m : Int) + 1) ch ct] := by
  unfold manyS
  rw [List.range_succ, List.map_append]
  rfl
theorem manyS_length (kd nt id ch : Int) (ct : Bool) (m : Nat) : (manyS kd nt id ch ct m).length = m := by simp [manyS]
theorem manyS_prefix (kd nt id ch : Int) (ct : Bool) {j m : Nat} (h : j ≤ m) : manyS kd nt id ch ct j <+: manyS kd nt id ch ct m := by
  obtain ⟨d, rfl⟩ : ∃ d, m = j + d := ⟨m - j, by omega⟩
  induction d with
  | zero => exact List.prefix_refl _
  | succ d ih =>
    rw [show j + (d + 1) = (j + d) + 1 by omega, manyS_succ]
    exact (ih (by omega)).trans (List.prefix_append _ _)

section
variable {own : World → Nat → Prop}
/-- What the iterator holds. -/
def ItS (own : World → Nat → Prop) (W : World) (bi bk bp by' : Nat) (y : Nat) (id kd : Int) (ps : List Value) : Prop :=
  Row W bi [.int .i64 id] ∧ Row W bk [.int .i64 kd] ∧ Row W bp ps ∧ Row W by' [.func (.yield y) #[] #[]] ∧ ¬ own W bi ∧ ¬ own W bk ∧ ¬ own W bp ∧ ¬ own W by'
theorem ItS.step {A C : World} {bi bk bp by' y : Nat} {id kd : Int} {ps : List Value} (h : ItS own A bi bk bp by' y id kd ps) (hb : Below A.heap.size A C) (ho : ∀ k, own C k → own A k) : ItS own C bi bk bp by' y id kd ps := by
  obtain ⟨h1, h2, h3, h4, h5, h6, h7, h8⟩ := h
  exact ⟨h1.step hb, h2.step hb, h3.step hb, h4.step hb, fun e => h5 (ho _ e), fun e => h6 (ho _ e), fun e => h7 (ho _ e), fun e => h8 (ho _ e)⟩
theorem ItS.keeps {A C : World} {bi bk bp by' y : Nat} {id kd : Int} {ps : List Value} (h : ItS own A bi bk bp by' y id kd ps) (hk : KeepsO own A C) : ItS own C bi bk bp by' y id kd ps := by
  obtain ⟨h1, h2, h3, h4, h5, h6, h7, h8⟩ := h
  exact ⟨h1.keepsO hk h5, h2.keepsO hk h6, h3.keepsO hk h7, h4.keepsO hk h8, fun e => h5 (hk.2.2 _ h1.lt e), fun e => h6 (hk.2.2 _ h2.lt e), fun e => h7 (hk.2.2 _ h3.lt e), fun e => h8 (hk.2.2 _ h4.lt e)⟩
theorem ItS.put {A : World} {bi bk bp by' y : Nat} {id id2 kd : Int} {ps : List Value} (h : ItS own A bi bk bp by' y id kd ps) (hk : bk ≠ bi) (hp : bp ≠ bi) (hy : by' ≠ bi) (ho : ∀ k, own (A.setCell ⟨bi, 0, none⟩ (.int .i64 id2)) k → own A k) : ItS own (A.setCell ⟨bi, 0, none⟩ (.int .i64 id2)) bi bk bp by' y id2 kd ps := by
  obtain ⟨h1, h2, h3, h4, h5, h6, h7, h8⟩ := h
  refine ⟨?_, h2.other (a := ⟨bi, 0, none⟩) hk _, h3.other (a := ⟨bi, 0, none⟩) hp _, h4.other (a := ⟨bi, 0, none⟩) hy _, fun e => h5 (ho _ e), fun e => h6 (ho _ e), fun e => h7 (ho _ e), fun e => h8 (ho _ e)⟩
  obtain ⟨T, hT⟩ := h1
  exact ⟨T, by simp [World.setCell, Array.getElem?_modify, hT]⟩
end

set_option maxRecDepth 100000 in
set_option maxHeartbeats 6400000 in
theorem some_in (own : World → Nat → Prop) (Prot : Nat → Prop) (m : Nat) (hm : 1 ≤ m) (B0 y : Nat) (J Jx : List SaleV → World → Prop) (T : List SaleV) (hJ : AbideO own B0 J) (hO : OwnsJ own Prot B0 J)
    (hY : ∀ m pre x W1, J pre W1 → (pre ++ [x]) <+: T → pre.length < T.length → YieldAt Fence.wide m Try.prog y (encS x) W1 fun e W' => (e = .returned (.bool true) ∧ J (pre ++ [x]) W' ∧ KeepsO own W1 W') ∨ (e = .returned (.bool false) ∧ Jx (pre ++ [x]) W'))
    (pre0 : List SaleV) (kd nt wd id ch : Int) (ct : Bool) (k : Nat) (ac : Option Addr) (nc cc : Nat) (as' : Option Addr) (ns cs : Nat) (rm sd : Int) (sa : Option Addr) (sn sc : Nat) (hpre : pre0 ++ manyS kd nt id ch ct k <+: T)
    (X : World → Prop) (hX1 : ∀ s A C, J s A → X A → Below B0 A C → X C) (hX2 : ∀ A C, X A → KeepsO own A C → X C)
    (hid : 0 ≤ id) (hidk : id + (k : Int) ≤ 1000000) (hnt0 : 0 ≤ nt) (hnt1 : nt ≤ 1000)
    (bi bk bp by' : Nat) (hbi : B0 ≤ bi) (hbk : bk ≠ bi) (hbp : bp ≠ bi) (hby : by' ≠ bi) (W : World) (hW : B0 ≤ W.heap.size)
    (hI : ItS own W bi bk bp by' y id kd [.int .i64 nt, .int .i64 wd, .slice ac nc cc, .slice as' ns cs, .int .i64 rm, .int .i64 sd, .slice sa sn sc]) (h0 : J pre0 W) (hx0 : X W) :
    CallsIn Fence.wide m Try.prog 54 #[.int .i64 (k : Int), .int .i64 ch, .bool ct, .pointer (some ⟨bi, 0, none⟩), .pointer (some ⟨bk, 0, none⟩), .pointer (some ⟨bp, 0, none⟩), .pointer (some ⟨by', 0, none⟩)] W fun e W' =>
      (e = .returned (.bool true) ∧ J (pre0 ++ manyS kd nt id ch ct k) W' ∧ ItS own W' bi bk bp by' y (id + (k : Int)) kd [.int .i64 nt, .int .i64 wd, .slice ac nc cc, .slice as' ns cs, .int .i64 rm, .int .i64 sd, .slice sa sn sc] ∧ X W' ∧ W.heap.size ≤ W'.heap.size) ∨
      (e = .returned (.bool false) ∧ ∃ pre, pre <+: T ∧ Jx pre W') := by
  have HJ := Lib.hid hJ
  have HO := Lib.hid hO
  have HY := Lib.hid hY
  have HP := Lib.hid hpre
  have HI := Lib.hid hI
  have H0 := Lib.hid h0
  have HX1 := Lib.hid hX1
  have HX2 := Lib.hid hX2
  have HX0 := Lib.hid hx0
  clear hJ hO hY hpre hI h0 hX1 hX2 hx0
  refine callsIn_of_wp Try.func54 rfl trivial ?_ rfl
  simp only [Try.ntmps54, List.size_toArray, List.length_cons, List.length_nil, Nat.reduceAdd, Nat.reduceSub, Array.replicate_succ, Array.replicate_zero, List.push_toArray, List.append_toArray, List.nil_append, List.cons_append]
  gi_wp2_with fail
  gi_loopw [13] (fun vi wr => ∃ j : Nat, j ≤ k ∧ vi = .int .i64 j ∧ Hid (J (pre0 ++ manyS kd nt id ch ct j) wr) ∧ Hid (ItS own wr bi bk bp by' y (id + (j : Int)) kd [.int .i64 nt, .int .i64 wd, .slice ac nc cc, .slice as' ns cs, .int .i64 rm, .int .i64 sd, .slice sa sn sc]) ∧ Hid (X wr) ∧ Hid (W.heap.size ≤ wr.heap.size)) (fun vi _ => k - (intOf vi).toNat)
  case atStart => exact ⟨0, Nat.zero_le _, rfl, by show J _ _; simpa [manyS] using H0.out, by show ItS _ _ _ _ _ _ _ _ _ _; simpa using HI.out, HX0.out, Nat.le_refl _⟩
  case round =>
    obtain ⟨j, hj, rfl, hJr, hIr, hXr, hsz⟩ := hrel
    by_cases hlt : j < k
    · have hbi0 := hIr.out.1.cell 0 rfl
      have fbi0 := hIr.out.1.frozen 0
      have lbi := hIr.out.1.lt
      have hJ1 : J (pre0 ++ manyS kd nt id ch ct j) (wr.setCell ⟨bi, 0, none⟩ (.int .i64 (id + (j : Int) + 1))) := HJ.out _ _ _ hJr.out (Below.setCell (Below.refl _ wr) (show B0 ≤ (⟨bi, 0, none⟩ : Addr).block from hbi) _) (fun q ho => Below.heap_setCell _ _ _ _ (fun e => hIr.out.2.2.2.2.1 (by subst e; exact ho)))
      have hI1 := hIr.out.put (id2 := id + (j : Int) + 1) hbk hbp hby (fun q => (HO.out _ _ hJr.out).2 _ q (Below.setCell (Below.refl _ wr) (show B0 ≤ (⟨bi, 0, none⟩ : Addr).block from hbi) _))
      have hX1r : X (wr.setCell ⟨bi, 0, none⟩ (.int .i64 (id + (j : Int) + 1))) := HX1.out _ _ _ hJr.out hXr.out (Below.setCell (Below.refl _ wr) (show B0 ≤ (⟨bi, 0, none⟩ : Addr).block from hbi) _)
      have hs1 : (wr.setCell ⟨bi, 0, none⟩ (.int .i64 (id + (j : Int) + 1))).heap.size = wr.heap.size := by simp [World.setCell]
      gi_upto_region 4 with fail
      obtain ⟨w1, hw1⟩ : ∃ X, wr.setCell ⟨bi, 0, none⟩ (.int .i64 (id + (j : Int) + 1)) = X := ⟨_, rfl⟩
      rw [hw1] at hJ1 hI1 hs1 hX1r
      try rw [hw1]
      have HJ1 := Lib.hid hJ1
      have HX1r := Lib.hid hX1r
      have HI1 := Lib.hid hI1
      have hz1 : W.heap.size ≤ w1.heap.size := by rw [hs1]; exact hsz.out
      clear hw1 hJ1 hI1 hs1 hX1r hbi0 fbi0 lbi hJr hIr hXr
      have qk := HI1.out.2.1.cell 0 rfl
      have qp := HI1.out.2.2.1.cell 0 rfl
      gi_upto_region 5 with fail
      have R2 : Row (w1.alloc (.cells #[.int .i64 kd, .int .i64 nt, .int .i64 (nt + 1), .int .i64 1] 42)) w1.heap.size [.int .i64 kd, .int .i64 nt, .int .i64 (nt + 1), .int .i64 1] := Row.new' _ _ _ rfl
      have hal : Below w1.heap.size w1 (w1.alloc (.cells #[.int .i64 kd, .int .i64 nt, .int .i64 (nt + 1), .int .i64 1] 42)) := by (repeat' (first | (with_reducible exact Below.refl _ _) | (with_reducible assumption) | (with_reducible exact Bw.out (by with_reducible assumption)) | (with_reducible refine bw_alloc ?_ _) | (with_reducible refine bw_step ?_ (by with_reducible assumption)) | (with_reducible refine Below.alloc ?_ ?_ _) | (with_reducible refine Below.drew ?_) | (with_reducible refine below_drewN ?_ _) | (with_reducible refine Below.setCell ?_ ?_ _) | (with_reducible refine below_step ?_ (by with_reducible assumption) ?_) | (with_reducible exact Nat.le_refl _) | omega | (simp; omega) | (simp; done)))
      obtain ⟨w2, hw2⟩ : ∃ X, w1.alloc (.cells #[.int .i64 kd, .int .i64 nt, .int .i64 (nt + 1), .int .i64 1] 42) = X := ⟨_, rfl⟩
      rw [hw2] at R2 hal
      try rw [hw2]
      have HJ2 := Lib.hid (HJ.out _ _ _ HJ1.out (hal.mono (by omega)) (fun q ho => hal.block q (HO.out.lt HJ1.out ho)))
      have HI2 := Lib.hid (HI1.out.step hal (fun q => (HO.out _ _ HJ1.out).2 _ q (hal.mono (by omega))))
      have HXX2 := Lib.hid (HX1.out _ _ _ HJ1.out HX1r.out (hal.mono (by omega)))
      have hz2 : W.heap.size ≤ w2.heap.size := Nat.le_trans hz1 hal.size
      obtain ⟨ga, hga⟩ : ∃ g, w1.heap.size = g := ⟨_, rfl⟩
      rw [hga] at R2
      try rw [hga]
      clear hw2 hal hga HJ1 HI1 HX1r qk qp
      have q0 := R2.cell 0 rfl
      have q1 := R2.cell 1 rfl
      have q2 := R2.cell 2 rfl
      have q3 := R2.cell 3 rfl
      have qi := HI2.out.1.cell 0 rfl
      have qy := HI2.out.2.2.2.1.cell 0 rfl
      have hpf : (pre0 ++ manyS kd nt id ch ct j) ++ [oneS kd nt (id + (j : Int) + 1) ch ct] <+: T := by
        have h1 := manyS_prefix kd nt id ch ct (show j + 1 ≤ k by omega)
        rw [manyS_succ] at h1
        have h2 := (List.prefix_append_right_inj pre0).2 h1
        rw [← List.append_assoc] at h2
        exact h2.trans HP.out
      have hpl : (pre0 ++ manyS kd nt id ch ct j).length < T.length := by
        have := hpf.length_le
        rw [List.length_append, List.length_singleton] at this
        omega
      gi_wp2_with fail
      obtain ⟨fn, tmps, assign, body, hy, hR⟩ := HY.out (m - 1) _ (oneS kd nt (id + (j : Int) + 1) ch ct) w2 HJ2.out hpf hpl
      dsimp only [encS, saleVal, oneS] at hy
      rw [hy, Oper.uponIn_round]
      refine ⟨fun _ => hm, hR.mono ?_⟩
      rintro e W3 (⟨rfl, hJ3, hk3⟩ | ⟨rfl, hJx3⟩)
      · have HI3 := Lib.hid (HI2.out.keeps hk3)
        have HJ3 := Lib.hid hJ3
        have HX3 := Lib.hid (HX2.out _ _ HXX2.out hk3)
        have hz3 : Hid (W.heap.size ≤ W3.heap.size) := Nat.le_trans hz2 hk3.1
        clear hJ3 hk3 hy hR hpf hpl q0 q1 q2 q3 qi qy R2
        gi_wp2_with fail
        refine ⟨⟨j + 1, by omega, by go_num, ?_, ?_, HX3.out, hz3.out⟩, ?_⟩
        · show J _ _; rw [manyS_succ, ← List.append_assoc]; exact HJ3.out
        · show ItS _ _ _ _ _ _ _ _ _ _
          rw [show id + ((j + 1 : Nat) : Int) = id + (j : Int) + 1 by omega]; exact HI3.out
        · simp [intOf]; omega
      · have HP3 := Lib.hid hpf
        have HX3 := Lib.hid hJx3
        clear hJx3 hy hR hpf hpl q0 q1 q2 q3 qi qy R2
        gi_wp2_with fail
        go_ret
        exact .inr ⟨rfl, _, HP3.out, HX3.out⟩
    · obtain rfl : k = j := by omega
      gi_wp2_with fail
      go_ret
      exact .inl ⟨rfl, hJr.out, hIr.out, hXr.out, hsz.out⟩

end Go.Proofs.Ytdijdfhlmnhcjaa
