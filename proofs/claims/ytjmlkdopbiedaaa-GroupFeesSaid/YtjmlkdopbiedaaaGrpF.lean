/-
  The walks of package group: until, limit, has, picked.
-/
import Derived.Test.YtjmlkdopbiedaaaGrpE
namespace Go.Proofs.Ytjmlkdopbiedaaa
set_option linter.unusedSimpArgs false
set_option linter.unusedVariables false
open Go.RowKit Go.Shelf

attribute [local go_sem] Oper.semAt_some

theorem until_any (B : Blk) (day : Int) (ca : Option Addr) (cn cc : Nat) (pa : Option Addr) (pm pc : Nat) (w : World) :
    Calls Try.prog 38 #[.agg #[.int .i64 B.id, .int .i64 B.kind, .int .i64 B.rooms, .int .i64 B.fr, .int .i64 B.un, .slice ca cn cc, .int .i64 B.pn, .int .i64 B.pd, .int .i64 B.fee, .slice pa pm pc], .int .i64 day] w
      fun e w' => ∃ P Q : Nat, e = .returned (.func (.func 46) #[] #[.pointer (some ⟨P, 0, none⟩), .pointer (some ⟨Q, 0, none⟩)]) ∧ w.heap.size ≤ P ∧ w.heap.size ≤ Q ∧
        Row w' P [.int .i64 B.id, .int .i64 B.kind, .int .i64 B.rooms, .int .i64 B.fr, .int .i64 B.un, .slice ca cn cc, .int .i64 B.pn, .int .i64 B.pd, .int .i64 B.fee, .slice pa pm pc] ∧ Row w' Q [.int .i64 day] ∧ Below w.heap.size w w' := by
  go_enter Try.func38, Try.ntmps38
  go_wp2_with fail
  go_ret
  exact ⟨w.heap.size, w.heap.size + 1, rfl, Nat.le_refl _, by omega, by (repeat' (first | (with_reducible assumption) | (with_reducible refine Row.new' _ _ _ (by first | rfl | (simp; done) | omega)) | (with_reducible refine Row.alloc ?_ _) | (with_reducible refine Row.drew ?_) | (with_reducible refine Row.drewN ?_ _) | (with_reducible refine Row.step ?_ (by with_reducible assumption)))), by (repeat' (first | (with_reducible assumption) | (with_reducible refine Row.new' _ _ _ (by first | rfl | (simp; done) | omega)) | (with_reducible refine Row.alloc ?_ _) | (with_reducible refine Row.drew ?_) | (with_reducible refine Row.drewN ?_ _) | (with_reducible refine Row.step ?_ (by with_reducible assumption)))), by (repeat' (first | (with_reducible exact Below.refl _ _) | (with_reducible assumption) | (with_reducible exact Bw.out (by with_reducible assumption)) | (with_reducible refine bw_alloc ?_ _) | (with_reducible refine bw_step ?_ (by with_reducible assumption)) | (with_reducible refine Below.alloc ?_ ?_ _) | (with_reducible refine Below.drew ?_) | (with_reducible refine below_drewN ?_ _) | (with_reducible refine Below.setCell ?_ ?_ _) | (with_reducible refine below_step ?_ (by with_reducible assumption) ?_) | (with_reducible exact Nat.le_refl _) | omega | (simp; omega) | (simp; done)))⟩

/-- What holds between two rounds: the number of rooms that are left. -/
def InvL (w : World) (Bn base : Nat) (rooms : Int) (pre : List KeepV) (wr : World) : Prop :=
  Row wr Bn [.int .i64 (capAll rooms pre)] ∧ Below w.heap.size w wr ∧ base ≤ wr.heap.size
theorem invL_own {w : World} {Bn base : Nat} {rooms : Int} (hw : w.heap.size ≤ base) : OwnFrom base (InvL w Bn base rooms) := by
  intro pre A B row hs hg hr
  obtain ⟨h1, h2, h3⟩ := hs
  exact ⟨h1.kept hg (fun r e => (hr r e).2), h2.grown hg h2.size (fun k e => Nat.le_trans hw (hr k e).1), Nat.le_trans h3 hg.size⟩

theorem part_ok {n a b : Int} (hp : partB a b = true) (h0 : 0 ≤ n) (h1 : n ≤ 1000000000) : ptVal n a b 2 = rnd 2 (n * a) b ∧ ptErr n a b 2 = 0 := by
  obtain ⟨hv, p1, p2, p3, _⟩ := partB_in hp
  have := rnd_part 2 p3 h0 p1 p2
  exact pt_ok ⟨hv, ⟨by omega, by omega⟩, by omega, h1⟩ ⟨by omega, by omega⟩
theorem Part_ok (n a b : Int) (w : World) (hp : partB a b = true) (h0 : 0 ≤ n) (h1 : n ≤ 1000000000) :
    Calls Try.prog 36 #[.int .i64 n, .agg #[.int .i64 a, .int .i64 b], .int .i64 2] w fun e w' =>
      e = .returned (.tuple #[.int .i64 (rnd 2 (n * a) b), .int .i64 0]) ∧ Below w.heap.size w w' := by
  have h := Part2_any n a b w
  rw [(part_ok hp h0 h1).1, (part_ok hp h0 h1).2] at h
  exact h

set_option maxRecDepth 100000 in
set_option maxHeartbeats 6400000 in
theorem limit_any (B : Blk) (day : Int) (ca : Option Addr) (cn cc : Nat) (pa : Option Addr) (pm pc : Nat) (w : World) (hin : BlkIn w B ca cn cc pa pm pc) (hr0 : 0 ≤ B.rooms) (hr1 : B.rooms ≤ 400) (hparts : PartsOk B.cuts) (R : Int) (hR : limG day B.rooms B.cuts = R) :
    Calls Try.prog 27 #[.agg #[.int .i64 B.id, .int .i64 B.kind, .int .i64 B.rooms, .int .i64 B.fr, .int .i64 B.un, .slice ca cn cc, .int .i64 B.pn, .int .i64 B.pd, .int .i64 B.fee, .slice pa pm pc], .int .i64 day] w fun e w' => e = .returned (.int .i64 R) ∧ Below w.heap.size w w' := by
  have HR : Hid (capAll B.rooms (keepsG day B.cuts) = R) := by show _ = _; rw [capAll_limG day _ _ hparts]; exact hR
  have HC := Lib.hid hin.cuts
  have HPA := Lib.hid hparts
  obtain ⟨hc1, hc2⟩ := hin.ccap
  clear hin hR hparts
  refine calls_of_wp_marks Try.func27 rfl ?_
  simp only [Try.ntmps27, List.size_toArray, List.length_cons, List.length_nil, Nat.reduceAdd, Nat.reduceSub, Array.replicate_succ, Array.replicate_zero, List.push_toArray, List.append_toArray, List.nil_append, List.cons_append]
  go_wp2_with fail
  refine (until_any B day ca cn cc pa pm pc _).mono ?_
  rintro e w1 ⟨P, Q, rfl, hP, hQ, RP, RQ, hb1⟩
  have R_c_1 : Row w1 (w.heap.size) [.int .i64 B.id, .int .i64 B.kind, .int .i64 B.rooms, .int .i64 B.fr, .int .i64 B.un, .slice ca cn cc, .int .i64 B.pn, .int .i64 B.pd, .int .i64 B.fee, .slice pa pm pc] := by (repeat' (first | (with_reducible assumption) | (with_reducible refine Row.new' _ _ _ (by first | rfl | (simp; done) | omega)) | (with_reducible refine Row.alloc ?_ _) | (with_reducible refine Row.drew ?_) | (with_reducible refine Row.drewN ?_ _) | (with_reducible refine Row.step ?_ (by with_reducible assumption)) | (with_reducible refine Row.set2' ?_ _ _; first | exact ⟨_, _, by with_reducible assumption⟩ | exact ⟨_, _, Row.alloc (by with_reducible assumption) _⟩ | exact ⟨_, _, Row.alloc (Row.alloc (by with_reducible assumption) _) _⟩) | (with_reducible refine Row.other ?_ (by first | omega | (simp; done) | (simp; omega)) _)))
  have c_c_0_1 := R_c_1.cell 0 rfl
  have c_c_1_1 := R_c_1.cell 1 rfl
  have c_c_2_1 := R_c_1.cell 2 rfl
  have c_c_3_1 := R_c_1.cell 3 rfl
  have c_c_4_1 := R_c_1.cell 4 rfl
  have c_c_5_1 := R_c_1.cell 5 rfl
  have c_c_6_1 := R_c_1.cell 6 rfl
  have c_c_7_1 := R_c_1.cell 7 rfl
  have c_c_8_1 := R_c_1.cell 8 rfl
  have c_c_9_1 := R_c_1.cell 9 rfl
  have l_c_1 := R_c_1.lt
  have R_n_1 : Row w1 (w.heap.size + 1) [.int .i64 (B.rooms)] := by (repeat' (first | (with_reducible assumption) | (with_reducible refine Row.new' _ _ _ (by first | rfl | (simp; done) | omega)) | (with_reducible refine Row.alloc ?_ _) | (with_reducible refine Row.drew ?_) | (with_reducible refine Row.drewN ?_ _) | (with_reducible refine Row.step ?_ (by with_reducible assumption)) | (with_reducible refine Row.set2' ?_ _ _; first | exact ⟨_, _, by with_reducible assumption⟩ | exact ⟨_, _, Row.alloc (by with_reducible assumption) _⟩ | exact ⟨_, _, Row.alloc (Row.alloc (by with_reducible assumption) _) _⟩) | (with_reducible refine Row.other ?_ (by first | omega | (simp; done) | (simp; omega)) _)))
  have c_n_0_1 := R_n_1.cell 0 rfl
  have z_n_0_1 := R_n_1.frozen 0
  have l_n_1 := R_n_1.lt
  have HB1 : Below w.heap.size w w1 := by (repeat' (first | (with_reducible exact Below.refl _ _) | (with_reducible assumption) | (with_reducible exact Bw.out (by with_reducible assumption)) | (with_reducible refine bw_alloc ?_ _) | (with_reducible refine bw_step ?_ (by with_reducible assumption)) | (with_reducible refine Below.alloc ?_ ?_ _) | (with_reducible refine Below.drew ?_) | (with_reducible refine below_drewN ?_ _) | (with_reducible refine Below.setCell ?_ ?_ _) | (with_reducible refine below_step ?_ (by with_reducible assumption) ?_) | (with_reducible exact Nat.le_refl _) | omega | (simp; omega) | (simp; done)))
  have hP2 : w.heap.size + 1 < P := by simp at hP; omega
  have hQ2 : w.heap.size + 1 < Q := by simp at hQ; omega
  have KC : Hid (Sl3 w1 ca cn B.cuts) := HC.out.below HB1
  have HZ : Hid (∀ b o, ca = some ⟨b, o, none⟩ → 0 < cn → b < w.heap.size) := fun b o e h0 => by
    obtain ⟨_, _, _, b', o', _, _, _, e', hlt, _⟩ := HC.out.get h0
    rw [e] at e'
    cases e'
    exact hlt
  have hstops := until_stops (fun _ k => k = w.heap.size + 1) 5 (by omega) P Q day B ca cn cc pa pm pc w1 RP RQ KC.out HPA.out (by omega)
    (fun _ _ _ h => h) (fun k hk => by
      subst hk
      exact ⟨l_n_1, by omega, by omega, fun b o e h0 => by have := HZ.out b o e h0; omega⟩)
  have HST := Lib.hid hstops
  have HBB := Lib.hid HB1
  clear hstops RP RQ KC HC HZ hP hQ hb1 HB1
  go_wp2_with fail
  refine (wpIn_wide (n := 6)).1 ?_
  obtain ⟨base, hbase⟩ : ∃ base, w1.heap.size = base := ⟨_, rfl⟩
  refine wpIn_rangeFunc_ownH (w0 := w1) (α := KeepV) rfl (by omega) rfl trivial (enters_of Try.func46 (by kernel_rfl) rfl) HST.out (fun h k => h.trans k)
    (fun Wx l o o' hl ho hc hwk => KeepsO.putObj o' ho hc (fun k hk => hk))
    (Below.refl _ _) (fun _ => rfl)
    (InvL w (w.heap.size + 1) base B.rooms) (fun cx pre wr => False)
    (by rw [hbase]; exact invL_own (by have := HBB.out.size; omega)) (fun cx s A C row hs hg hr => hs)
    ⟨R_n_1, HBB.out, by omega⟩
    (fun x a' W' => ∃ G : Nat, a' = { tmps := #[.agg #[.int .i64 B.id, .int .i64 B.kind, .int .i64 B.rooms, .int .i64 B.fr, .int .i64 B.un, .slice ca cn cc, .int .i64 B.pn, .int .i64 B.pd, .int .i64 B.fee, .slice pa pm pc], .int .i64 day, .pointer (some ⟨w.heap.size, 0, none⟩), undef, .int .i64 0, .pointer (some ⟨w.heap.size + 1, 0, none⟩), .pointer (some ⟨G, 0, none⟩), .pointer (some ⟨w.heap.size, 0, none⟩), .pointer (some ⟨w.heap.size, 2, none⟩), .int .i64 B.rooms, .agg #[.int .i64 B.id, .int .i64 B.kind, .int .i64 B.rooms, .int .i64 B.fr, .int .i64 B.un, .slice ca cn cc, .int .i64 B.pn, .int .i64 B.pd, .int .i64 B.fee, .slice pa pm pc], .int .i64 day, .func (.func 46) #[] #[.pointer (some ⟨P, 0, none⟩), .pointer (some ⟨Q, 0, none⟩)], .agg #[.int .i64 x.1.1, .int .i64 x.1.2], undef, undef, undef, undef, undef, undef, undef], defers := [] } ∧ base ≤ G ∧ Row W' G [.int .i64 x.1.1, .int .i64 x.1.2])
    (fun x a' s A C row hs hg hr => by
      obtain ⟨G, e, hG, h⟩ := hs
      exact ⟨G, e, hG, h.kept hg (fun r e => (hr r e).2)⟩) ?assign ?body ?done ?stop
  case assign =>
    rintro l pre x W K ⟨q1, q2, q3⟩ hK
    gi_wp2
    refine hK _ _ ((Ch.alloc (o := fun _ => False) (Ch.refl _ _) _).others (fun _ h => h.elim) |>.from _) (KeepsO.of_below ((Below.refl _ _).alloc (Nat.le_refl _) _) (fun k hk => hk)) ⟨q1.alloc _, q2.alloc q2.size _, by simp; omega⟩ ⟨W.heap.size, rfl, by omega, Row.new' _ [_, _] _ rfl⟩
  case body =>
    rintro l pre x a' W hl hrec ⟨q1, q2, q3⟩ ⟨G, rfl, hG, RG⟩ hpl
    have hb := capAll_in pre B.rooms hr0
    obtain ⟨N, hN⟩ : ∃ N, capAll B.rooms pre = N := ⟨_, rfl⟩
    have HN := Lib.hid hN
    rw [hN] at q1 hb
    obtain ⟨hb1, hb2⟩ := hb
    have hxp := x.2
    have HX := Lib.hid hxp
    have HQ2 := Lib.hid q2
    have c0 := q1.cell 0 rfl
    have g0 := RG.cell 0 rfl
    have g1 := RG.cell 1 rfl
    have ln := q1.lt
    clear hN hxp q2 hrec
    gi_wp2_with fail
    refine ⟨trivial, (calls_in l (Part_ok N x.1.1 x.1.2 W HX.out hb1 (by omega))).mono ?_⟩
    rintro e W2 ⟨rfl, hb⟩
    have q1' := q1.step hb
    have c0' := q1'.cell 0 rfl
    have f0' := q1'.frozen 0
    have ln' := q1'.lt
    have HB := Lib.hid hb
    clear c0 g0 g1 ln
    gi_wp2_with fail
    have hC := (Ch.of_grown (o := fun k => k = w.heap.size + 1) (below_grown HB.out) (fun k e => by cases e)).setCell (p := ⟨w.heap.size + 1, 0, none⟩) rfl (.int .i64 (rnd 2 (N * x.1.1) x.1.2))
    refine ⟨(hC.others (fun k hk => ?_)).from _, ⟨hC.size, fun k cs T fr hk hno => hC.2.2.2.2 k (Array.getElem?_eq_some_iff.1 hk).1 hno, fun k _ hk => hk⟩, ?_, hC.below HQ2.out (fun k hk => by omega) HQ2.out.size, Nat.le_trans q3 hC.size⟩
    · subst hk
      obtain ⟨T, hT⟩ := q1
      exact ⟨_, _, _, hT⟩
    · rw [capAll_snoc, HN.out]
      obtain ⟨T, hT⟩ := q1'
      exact ⟨T, by simp [World.setCell, Array.getElem?_modify, hT]⟩
  case done =>
    rintro D xs W hD rfl ⟨q1, q2, q3⟩ hKd
    rw [HR.out] at q1
    have c0 := q1.cell 0 rfl
    have HQ2 := Lib.hid q2
    clear q2
    go_wp2_with fail
    refine ⟨by simp, .inl ⟨_, _, rfl, run_takeDeferred hKd, ?_⟩⟩
    have hgr := grownBy_putObj' W D (.deferred none)
    exact ⟨.int .i64 R, by simp [results, Try.results27, go_sem], rfl, HQ2.out.grown hgr HQ2.out.size (fun k e => by cases e; have := HBB.out.size; omega)⟩
  case stop =>
    rintro D cx pre Wx hD hpre h hKd
    exact h.elim

end Go.Proofs.Ytjmlkdopbiedaaa
