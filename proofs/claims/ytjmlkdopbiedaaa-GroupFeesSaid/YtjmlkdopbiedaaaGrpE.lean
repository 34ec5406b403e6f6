/-
  The iterator over the cuts of a block up to a day: its contract.
-/
import Derived.Test.YtjmlkdopbiedaaaGrpC
import Derived.Test.YtjmlkdopbiedaaaCh
namespace Go.Proofs.Ytjmlkdopbiedaaa
set_option linter.unusedSimpArgs false
set_option linter.unusedVariables false
open Go.RowKit Go.Shelf

attribute [local go_sem] Oper.semAt_some

/-- What is kept at a cut: a part. -/
abbrev KeepV := { p : Int × Int // partB p.1 p.2 = true }
abbrev encK (p : KeepV) : Array Value := #[.agg #[.int .i64 p.1.1, .int .i64 p.1.2]]
theorem part01 : partB 0 1 = true := partB_iff.2 ⟨⟨by omega, by omega, by omega, by omega, by decide +kernel⟩, by omega, by omega⟩
def keepP (x : CutV) : KeepV := if h : partB x.2.1 x.2.2 = true then ⟨x.2, h⟩ else ⟨(0, 1), part01⟩
theorem keepP_eq {x : CutV} (h : partB x.2.1 x.2.2 = true) : keepP x = ⟨x.2, h⟩ := dif_pos h
/-- What is kept at the cuts up to a day, as far as the days go. -/
def keepsG (day : Int) : List CutV → List KeepV
  | [] => []
  | x :: r => if x.1 ≤ day then keepP x :: keepsG day r else []
theorem keepsG_cons (day : Int) (x : CutV) (r : List CutV) : keepsG day (x :: r) = if x.1 ≤ day then keepP x :: keepsG day r else [] := rfl
/-- What is left of n rooms. -/
def capAll (n : Int) (l : List KeepV) : Int := l.foldl (fun n p => rnd 2 (n * p.1.1) p.1.2) n
theorem capAll_snoc (n : Int) (l : List KeepV) (p : KeepV) : capAll n (l ++ [p]) = rnd 2 (capAll n l * p.1.1) p.1.2 := by
  unfold capAll; rw [List.foldl_append]; rfl
theorem capAll_in : ∀ (l : List KeepV) (n : Int), 0 ≤ n → 0 ≤ capAll n l ∧ capAll n l ≤ n
  | [], n, h => ⟨h, Int.le_refl _⟩
  | p :: r, n, h => by
    obtain ⟨_, h1, h2, h3, _⟩ := partB_in p.2
    have hx := rnd_part 2 h3 h h1 h2
    have ih := capAll_in r (rnd 2 (n * p.1.1) p.1.2) hx.1
    show 0 ≤ capAll (rnd 2 (n * p.1.1) p.1.2) r ∧ capAll (rnd 2 (n * p.1.1) p.1.2) r ≤ n
    omega
theorem capAll_limG (day : Int) : ∀ (l : List CutV) (n : Int), PartsOk l → capAll n (keepsG day l) = limG day n l
  | [], _, _ => rfl
  | x :: r, n, h => by
    rw [keepsG_cons]
    unfold limG
    split
    · rw [keepP_eq (h x (by simp))]
      exact capAll_limG day r _ h.tail
    · rfl

theorem below_grown {w w' : World} (h : Below w.heap.size w w') : w.grownBy w' none := ⟨h.os, h.tape, h.output, h.size, fun i hi _ => h.block i hi⟩
theorem KeepsO.of_below {own : World → Nat → Prop} {A B : World} (h : Below A.heap.size A B) (ho : ∀ k, own B k → own A k) : KeepsO own A B :=
  ⟨h.size, fun k cs T fr hk _ => h.block k (Array.getElem?_eq_some_iff.1 hk).1, fun k _ hk => ho k hk⟩
theorem Sl3.keepsO {own : World → Nat → Prop} {A B : World} {a : Option Addr} {n : Nat} {l : List CutV} (h : Sl3 A a n l) (k : KeepsO own A B) (hn : ∀ b o, a = some ⟨b, o, none⟩ → 0 < n → ¬ own A b) : Sl3 B a n l := by
  refine ⟨h.1, fun i x hx => ?_⟩
  obtain ⟨b, off, ha, h1, h2, h3⟩ := h.2 i x hx
  have hlt : i < l.length := (List.getElem?_eq_some_iff.1 hx).1
  have hl := h.1
  have hno := hn b off ha (by omega)
  have e : ∀ o v, A.cell? ⟨b, o, none⟩ = some v → B.cell? ⟨b, o, none⟩ = some v := fun o v hc => by
    cases hb : A.heap[b]? with
    | none => simp [World.cell?, hb] at hc
    | some ob =>
      cases ob with
      | cells cs T fr =>
        have e := k.2.1 b cs T fr hb hno
        rw [← hc]; simp only [World.cell?]; rw [e]
      | _ => simp [World.cell?, hb] at hc
  exact ⟨b, off, ha, e _ _ h1, e _ _ h2, e _ _ h3⟩

set_option maxRecDepth 100000 in
set_option maxHeartbeats 6400000 in
theorem until_stops (own : World → Nat → Prop) (m : Nat) (hm : 1 ≤ m) (P Q : Nat) (day : Int) (B : Blk) (ca : Option Addr) (cn cc : Nat) (pa : Option Addr) (pm pc : Nat) (w : World) (hr : Row w P [.int .i64 B.id, .int .i64 B.kind, .int .i64 B.rooms, .int .i64 B.fr, .int .i64 B.un, .slice ca cn cc, .int .i64 B.pn, .int .i64 B.pd, .int .i64 B.fee, .slice pa pm pc])
    (hq : Row w Q [.int .i64 day]) (K : Sl3 w ca cn B.cuts) (hparts : PartsOk B.cuts) (hcn : cn ≤ 9223372036854775807)
    (hmono : ∀ A C k, own C k → own A k) (hown : ∀ k, own w k → k < w.heap.size ∧ k ≠ P ∧ k ≠ Q ∧ ∀ b o, ca = some ⟨b, o, none⟩ → 0 < cn → k ≠ b) :
    SeqStopsK Fence.wide m Try.prog 46 #[.pointer (some ⟨P, 0, none⟩), .pointer (some ⟨Q, 0, none⟩)] encK (KeepsO own) (fun xs => xs = keepsG day B.cuts) (fun pre => pre <+: keepsG day B.cuts) (keepsG day B.cuts).length w := fun l J Jx W hW hJ hJx hY h0 => by
  have HLC : Hid (B.cuts.length = cn) := K.1
  have HPA := Lib.hid hparts
  have hHS := hW.size
  have hrW : Row W P [.int .i64 B.id, .int .i64 B.kind, .int .i64 B.rooms, .int .i64 B.fr, .int .i64 B.un, .slice ca cn cc, .int .i64 B.pn, .int .i64 B.pd, .int .i64 B.fee, .slice pa pm pc] := hr.of_block (hW.block P hr.lt)
  have hqW : Row W Q [.int .i64 day] := hq.of_block (hW.block Q hq.lt)
  have KW : Sl3 W ca cn B.cuts := K.below hW
  have HNO : Hid (∀ k, own W k → k < W.heap.size ∧ k ≠ P ∧ k ≠ Q ∧ ∀ b o, ca = some ⟨b, o, none⟩ → 0 < cn → k ≠ b) := fun k hk => by
    have := hown k (hmono w W k hk)
    exact ⟨by omega, this.2⟩
  have HMono := Lib.hid hmono
  have HY := Lib.hid hY
  have HJA := Lib.hid hJ
  have HR1 := Lib.hid hrW
  have HQ1 := Lib.hid hqW
  have HKW := Lib.hid KW
  have c5 := hrW.cell 5 rfl
  have lP := hrW.lt
  clear hparts hmono hown hY hJ hJx hr hq K hrW hqW KW
  refine callsIn_of_wp Try.func46 rfl trivial ?_ rfl
  simp only [Try.ntmps46, List.size_toArray, List.length_cons, List.length_nil, Nat.reduceAdd, Nat.reduceSub, Array.replicate_succ, Array.replicate_zero, List.push_toArray, List.append_toArray, List.nil_append, List.cons_append]
  gi_wp2_with fail
  gi_loopw [10] (fun i wr => ∃ (k : Nat) (pre : List KeepV), k ≤ cn ∧ i = .int .i64 k ∧ Hid (pre.length = k) ∧ Hid (keepsG day B.cuts = pre ++ keepsG day (B.cuts.drop k)) ∧ Hid (J pre wr) ∧ Hid (KeepsO own W wr)) (fun i _ => cn - (intOf i).toNat)
  case atStart => exact ⟨0, [], Nat.zero_le _, rfl, by show _ = _; rfl, by show _ = _; simp, h0, ⟨Nat.le_refl _, fun _ _ _ _ _ _ => rfl, fun _ _ h => h⟩⟩
  case round =>
    obtain ⟨k, pre, hk, rfl, hpl, hks, hJs, hnx⟩ := hrel
    by_cases hlt : k < cn
    · obtain ⟨d, kn, kd, b, off, _, gd, gx, hca, hbl, cd, ckn, ckd⟩ := (HKW.out.keepsO hnx.out (fun b o e h0 ho => (HNO.out b ho).2.2.2 b o e h0 rfl)).get hlt
      subst hca
      have hpk : partB kn kd = true := HPA.out _ (List.mem_of_getElem? gx.out)
      have HPK := Lib.hid hpk
      have HRk := HR1.out.keepsO hnx.out (fun ho => (HNO.out P ho).2.1 rfl)
      have HQk := HQ1.out.keepsO hnx.out (fun ho => (HNO.out Q ho).2.2.1 rfl)
      have cq := HQk.cell 0 rfl
      have lQ := HQk.lt
      have i1 : (0 : Int) ≤ (k : Int) := by omega
      have i2 : (k : Int) < (cn : Int) := by omega
      -- behind the iterator's own variable
      have hba : ∀ o : Obj, Below wr.heap.size wr (wr.alloc o) := fun o => (Below.refl _ _).alloc (Nat.le_refl _) _
      by_cases hday : d ≤ day
      · have hd : decide (day < d) = false := by simp; omega
        have HKD : Hid (keepsG day (B.cuts.drop k) = ⟨(kn, kd), HPK.out⟩ :: keepsG day (B.cuts.drop (k + 1))) := by
          show _ = _; rw [gd.out, keepsG_cons, if_pos hday, keepP_eq HPK.out]
        clear hday hpk
        have hJ2 : Hid (J pre (wr.alloc (.cells #[.int .i64 d, .int .i64 kn, .int .i64 kd] 44))) := HJA.out _ _ _ none hJs.out (below_grown (hba _)) (fun r e => by cases e)
        have hK2 : Hid (KeepsO own W (wr.alloc (.cells #[.int .i64 d, .int .i64 kn, .int .i64 kd] 44))) := hnx.out.trans (KeepsO.of_below (hba _) (fun k hk => HMono.out _ _ k hk))
        obtain ⟨fn, tmps, assign, body, hy, hR⟩ := HY.out pre ⟨(kn, kd), HPK.out⟩ _ hJ2.out (by rw [hks.out, HKD.out]; simp)
        dsimp only [encK] at hy
        gi_wp2_with fail
        refine hR.mono ?_
        rintro e W3 (⟨rfl, hJ3, hk3⟩ | ⟨rfl, hJx3⟩)
        · have H3 := Lib.hid hJ3
          have H4 := Lib.hid (hK2.out.trans hk3)
          clear hJ3 hk3
          gi_wp2_with fail
          go_roundw
          case rel => exact ⟨k + 1, pre ++ [⟨(kn, kd), HPK.out⟩], by omega, by go_num, by show _ = _; simp [hpl.out], by show _ = _; rw [hks.out, HKD.out]; simp, H3, H4⟩
          case measure => simp [intOf]; omega
        · have H3 := Lib.hid hJx3
          clear hJx3
          gi_wp2_with fail
          refine bodyPost_ret (results_none rfl _ _ _) rfl ?_
          exact ⟨⟨_, rfl⟩, .inr ⟨_, ⟨keepsG day (B.cuts.drop (k + 1)), by rw [hks.out, HKD.out]; simp⟩, H3.out⟩⟩
      · have hd : decide (day < d) = true := by simp; omega
        have HKD : Hid (keepsG day (B.cuts.drop k) = []) := by
          show _ = _; rw [gd.out, keepsG_cons, if_neg hday]
        clear hday hpk
        have hJ2 : Hid (J pre (wr.alloc (.cells #[.int .i64 d, .int .i64 kn, .int .i64 kd] 44))) := HJA.out _ _ _ none hJs.out (below_grown (hba _)) (fun r e => by cases e)
        gi_wp2_with fail
        refine ⟨fun _ h => (by cases h), ?_⟩
        gi_wp2_with fail
        refine bodyPost_ret (results_none rfl _ _ _) rfl ?_
        exact ⟨⟨_, rfl⟩, .inl ⟨_, by rw [hks.out, HKD.out]; simp, hJ2.out⟩⟩
    · obtain rfl : k = cn := by omega
      gi_wp2_with fail
      go_end0
      refine ⟨⟨_, rfl⟩, .inl ⟨_, ?_, hJs.out⟩⟩
      rw [hks.out, List.drop_of_length_le (by rw [HLC.out]; omega)]
      simp [keepsG]

end Go.Proofs.Ytjmlkdopbiedaaa
