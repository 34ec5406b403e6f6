/-
  An expression with other numbers: renumbered of law10.
-/
import Derived.Test.YtcmodmchnokmgaaOwnF
import Derived.Test.YtcmodmchnokmgaaFits
import Derived.Test.YtcmodmchnokmgaaTyC
namespace Go.Proofs.Ytcmodmchnokmgaa
set_option linter.unusedSimpArgs false
set_option linter.unusedVariables false
open Go.RowKit

/-- The number that stands there instead. -/
def renN (op old n : Int) : Int := if op = 1 ∨ op = 2 then n else if op = 3 then 1 + n.tmod 4 else old
theorem renN_ok {op old n : Int} {k : Nat} (h0 : 0 ≤ n) (h1 : n ≤ 70000) (h : nodeB op old k = true) : nodeB op (renN op old n) k = true := by
  unfold renN
  have hm := Int.emod_nonneg n (show (4 : Int) ≠ 0 by decide)
  have hl := Int.emod_lt_of_pos n (show (0 : Int) < 4 by decide)
  rw [Int.tmod_eq_emod_of_nonneg h0]
  unfold nodeB inE at h ⊢
  by_cases e1 : op = 1
  · subst e1; simp at h ⊢; omega
  by_cases e2 : op = 2
  · subst e2; simp at h ⊢; omega
  by_cases e3 : op = 3
  · subst e3; simp at h ⊢; omega
  simp only [e1, e2, e3, or_self, if_false] at h ⊢
  exact h

theorem Ex.depth_kid {x y : Ex} {k : Nat} (hy : x.ks[k]? = some y) : y.depth + 1 ≤ x.depth := by
  rw [x.depth_eq]
  have := dpL_mem hy
  omega
theorem AlikeE.of {x z : Ex} (h1 : z.op = x.op) (h2 : nodeB x.op x.n x.ks.length = true → nodeB x.op z.n x.ks.length = true) (h3 : AlikeL x.ks z.ks) : AlikeE x z := by
  obtain ⟨op, n, ad, cap, ks⟩ := x
  obtain ⟨op', n', ad', cap', ks'⟩ := z
  unfold AlikeE
  exact ⟨⟨h1, h2⟩, h3⟩
theorem Ex.Off.of {g : Nat} {x : Ex} (h1 : ∀ b o s, x.at' = some ⟨b, o, s⟩ → b ≠ g) (h2 : ∀ y ∈ x.ks, y.Off g) : x.Off g := by
  obtain ⟨op, n, ad, cap, ks⟩ := x
  unfold Ex.Off
  exact ⟨fun _ => h1, OffL.of h2⟩
theorem Ex.In.of {w : World} {x : Ex} (h1 : x.ks.length ≤ x.cap ∧ x.cap ≤ maxLen) (h2 : ExIn w x.at' 0 x.ks) : x.In w := by
  obtain ⟨op, n, ad, cap, ks⟩ := x
  unfold Ex.In
  exact ⟨h1, h2⟩

/-- The block of a slice of the call's own. -/
theorem own_some (g o n c : Nat) (s : Option Nat) : (Value.slice (some ⟨g, o, s⟩) n c).ownBlock = some g := rfl
/-- What the loop over the kids holds. -/
def RenI (w wr : World) (x : Ex) (op n nn : Int) (ad : Option Addr) (m cap k : Nat) (a2 : Option Addr) (c2 : Nat) (zs : List Ex) : Prop :=
  KidsOk wr (w.heap.size + 3) (.slice a2 k c2) zs ∧ AlikeL (x.ks.take k) zs ∧ Row wr w.heap.size [.int .i64 op, .int .i64 n, .slice ad m cap] ∧ Row wr (w.heap.size + 1) [.int .i64 0, .int .i64 0, .slice none 0 0] ∧ Row wr (w.heap.size + 1 + 1) [.int .i64 op, .int .i64 nn, .slice a2 k c2] ∧ Below w.heap.size w wr ∧ w.heap.size + 3 ≤ wr.heap.size
theorem RenI.step {w wr w1 : World} {x : Ex} {op n nn : Int} {ad : Option Addr} {m cap k : Nat} {a2 : Option Addr} {c2 : Nat} {zs : List Ex} (h : RenI w wr x op n nn ad m cap k a2 c2 zs) (hb : Below wr.heap.size wr w1) : RenI w w1 x op n nn ad m cap k a2 c2 zs := by
  obtain ⟨h1, h2, h3, h4, h5, h6, h7⟩ := h
  exact ⟨h1.step hb, h2, h3.step hb, h4.step hb, h5.step hb, h6.trans (hb.mono h6.size), Nat.le_trans h7 hb.size⟩
theorem RenI.start {w W : World} {x : Ex} {op n nn : Int} {ad : Option Addr} {m cap : Nat} (hW : ((w.alloc (.cells #[.int .i64 op, .int .i64 n, .slice ad m cap] 24)).alloc (.cells #[.int .i64 0, .int .i64 0, .slice none 0 0] 24)).alloc (.cells #[.int .i64 op, .int .i64 nn, .slice none 0 0] 24) = W) : RenI w W x op n nn ad m cap 0 none 0 [] := by
  subst hW
  refine ⟨KidsOk.nil _ _, by rw [List.take_zero]; unfold AlikeL; trivial, by (repeat' (first | (with_reducible assumption) | (with_reducible refine Row.new' _ _ _ (by first | rfl | (simp; done) | omega)) | (with_reducible refine Row.alloc ?_ _) | (with_reducible refine Row.drew ?_) | (with_reducible refine Row.drewN ?_ _) | (with_reducible refine Row.step ?_ (by with_reducible assumption)))), by (repeat' (first | (with_reducible assumption) | (with_reducible refine Row.new' _ _ _ (by first | rfl | (simp; done) | omega)) | (with_reducible refine Row.alloc ?_ _) | (with_reducible refine Row.drew ?_) | (with_reducible refine Row.drewN ?_ _) | (with_reducible refine Row.step ?_ (by with_reducible assumption)))), by (repeat' (first | (with_reducible assumption) | (with_reducible refine Row.new' _ _ _ (by first | rfl | (simp; done) | omega)) | (with_reducible refine Row.alloc ?_ _) | (with_reducible refine Row.drew ?_) | (with_reducible refine Row.drewN ?_ _) | (with_reducible refine Row.step ?_ (by with_reducible assumption)))), by (repeat' (first | (with_reducible exact Below.refl _ _) | (with_reducible assumption) | (with_reducible exact Bw.out (by with_reducible assumption)) | (with_reducible refine bw_alloc ?_ _) | (with_reducible refine bw_step ?_ (by with_reducible assumption)) | (with_reducible refine Below.alloc ?_ ?_ _) | (with_reducible refine Below.drew ?_) | (with_reducible refine below_drewN ?_ _) | (with_reducible refine Below.setCell ?_ ?_ _) | (with_reducible refine below_step ?_ (by with_reducible assumption) ?_) | (with_reducible exact Nat.le_refl _) | omega | (simp; omega) | (simp; done))), by simp⟩
/-- A kid more: the slice has grown, the field is stored. -/
theorem RenI.more {w wr w1 : World} {x y z : Ex} {op n nn : Int} {ad : Option Addr} {m cap k : Nat} {a2 : Option Addr} {c2 : Nat} {zs : List Ex} {gg cp : Nat} (h : RenI w wr x op n nn ad m cap k a2 c2 zs) (hy : x.ks[k]? = some y) (hz : z.In wr) (hzo : ∀ g, g < w.heap.size + 3 → z.Off g) (hzg : ∀ g, (Value.slice a2 k c2).ownBlock = some g → z.Off g) (ha : AlikeE y z)
    (ho : OwnE w1 (w.heap.size + 3) (.slice (some ⟨gg, 0, none⟩) (k + 1) cp) (zs ++ [z])) (hg : wr.grownBy w1 (Value.slice a2 k c2).ownBlock) (hgg : (Value.slice a2 k c2).ownBlock = some gg ∨ gg = wr.heap.size) (hzl : zs.length = k) :
    RenI w (w1.setCell ⟨w.heap.size + 1 + 1, 2, none⟩ (.slice (some ⟨gg, 0, none⟩) (k + 1) cp)) x op n nn ad m cap (k + 1) (some ⟨gg, 0, none⟩) cp (zs ++ [z]) := by
  obtain ⟨h1, h2, h3, h4, h5, h6, h7⟩ := h
  have hlo : ∀ b, b < w.heap.size + 3 → (Value.slice a2 k c2).ownBlock ≠ some b := fun b hb e => by
    have := (h1.1.lt e).1
    omega
  have key : ∀ {b cs}, b < w.heap.size + 3 → Row wr b cs → Row w1 b cs := fun hb hr => hr.of_block (hg.block _ hr.lt (fun e => hlo _ hb e.symm))
  have hK := KidsOk.snoc (gg := gg) (cap := cp) h1 hz hzo hzg (by rw [hzl]; exact ho) hg hgg
  rw [hzl] at hK
  have hC : Ch (fun q => q = w.heap.size + 1 + 1) w1 (w1.setCell ⟨w.heap.size + 1 + 1, 2, none⟩ (.slice (some ⟨gg, 0, none⟩) (k + 1) cp)) := (Ch.refl (fun q => q = w.heap.size + 1 + 1) w1).setCell (p := ⟨w.heap.size + 1 + 1, 2, none⟩) rfl _
  have hB : Below w.heap.size w w1 := h6.grown hg h6.size (fun g e => by have := (h1.1.lt e).1; omega)
  refine ⟨hK.ch hC (by omega), ?_, (key (by omega) h3).ch hC (by omega), (key (by omega) h4).ch hC (by omega), ?_, hC.below hB (fun q hq => by omega) hB.size, Nat.le_trans h7 (Nat.le_trans hg.size hC.size)⟩
  · rw [take_snocE hy]; exact h2.snoc ha
  · have := (key (by omega) h5).setAt 2 (.slice (some ⟨gg, 0, none⟩) (k + 1) cp)
    simpa using this

set_option maxRecDepth 100000 in
set_option maxHeartbeats 6400000 in
theorem renum_all : ∀ (N : Nat) (x : Ex), x.size ≤ N → ∀ (w : World) (q : Int), x.In w → x.ok = true → 0 ≤ q → q + 3 * x.depth ≤ 70000 →
    Calls Try.prog 23 #[x.val, .int .i64 q] w fun e w' => ∃ z : Ex, e = .returned z.val ∧ z.In w' ∧ AlikeE x z ∧ (∀ g, g < w.heap.size → z.Off g) ∧ Below w.heap.size w w' := by
  intro N
  induction N with
  | zero => intro x hx; have := x.size_pos; omega
  | succ N ih =>
    intro x hx w q hin hok hq0 hq1
    have HIN := Lib.hid hin
    have HX := Lib.hid hx
    have HOK := Lib.hid hok
    have HQ1 := Lib.hid hq1
    have HNB := Lib.hid (nodeB_op (ok_node hok).1)
    have hm3 := nodeB_kids (ok_node hok).1
    have HNODE := Lib.hid (ok_node hok).1
    have hq2 : q ≤ 70000 := by omega
    have HRN := Lib.hid (renN_ok hq0 hq2 (ok_node hok).1)
    clear hin hx hok hq1
    obtain ⟨op, hop⟩ : ∃ op, x.op = op := ⟨_, rfl⟩
    obtain ⟨n, hn⟩ : ∃ n, x.n = n := ⟨_, rfl⟩
    obtain ⟨ad, had⟩ : ∃ ad, x.at' = ad := ⟨_, rfl⟩
    obtain ⟨m, hm⟩ : ∃ m, x.ks.length = m := ⟨_, rfl⟩
    obtain ⟨cap, hcap⟩ : ∃ cap, x.cap = cap := ⟨_, rfl⟩
    rw [show x.val = .agg #[.int .i64 x.op, .int .i64 x.n, .slice x.at' x.ks.length x.cap] from rfl, hop, hn, had, hm, hcap]
    rw [hm] at hm3
    have HE := Lib.hid (And.intro hop (And.intro hn (And.intro had hm)))
    clear hop hn had hm hcap
    have hops := HNB.out
    rw [HE.out.1] at hops
    go_enter Try.func23, Try.ntmps23
    go_wp2_with fail
    · rename_i h1 h2 _ _
      have HNN : Hid (renN op n q = q) := by show _ = _; unfold renN; simp at h1 h2; simp [h2]
      clear h1 h2
      obtain ⟨W0, hW0⟩ : ∃ W, ((w.alloc (.cells #[.int .i64 op, .int .i64 n, .slice ad m cap] 24)).alloc (.cells #[.int .i64 0, .int .i64 0, .slice none 0 0] 24)).alloc (.cells #[.int .i64 op, .int .i64 (q), .slice none 0 0] 24) = W := ⟨_, rfl⟩
      have HI0 : Hid (RenI w W0 x op n (q) ad m cap 0 none 0 []) := RenI.start hW0
      rw [hW0]
      clear hW0
      go_loopw [6, 7, 29] (fun _ _ i wr => ∃ (k : Nat) (a2 : Option Addr) (c2 : Nat) (zs : List Ex), k ≤ m ∧ i = .int .i64 k ∧ Hid (RenI w wr x op n (q) ad m cap k a2 c2 zs)) (fun _ _ i _ => m - (intOf i).toNat)
      case atStart => exact ⟨0, none, 0, [], Nat.zero_le _, rfl, HI0.out⟩
      case round =>
        obtain ⟨k, a2, c2, zs, hk, rfl, HI⟩ := hrel
        have hBw : Hid (Below w.heap.size w wr) := HI.out.2.2.2.2.2.1
        have hsz := HI.out.2.2.2.2.2.2
        have hzl : Hid (zs.length = k) := by
          show _ = _
          rw [HI.out.2.1.length, List.length_take, HE.out.2.2.2]; omega
        have RO : Hid (Row wr (w.heap.size + 1 + 1) [.int .i64 op, .int .i64 (q), .slice a2 k c2]) := HI.out.2.2.2.2.1
        by_cases hkm : k < m
        · obtain ⟨y, b, off, hy, hyin, e, hlb, c0, c1, c2'⟩ := HIN.out.kidAt hBw.out (k := k) (by have := HE.out.2.2.2; omega)
          have hh := HE.out.2.2.1
          rw [e] at hh
          subst hh
          have HYS : Hid (y.size ≤ N) := by
            show _ ≤ _
            have := szL_mem hy.out
            have h2 := HX.out
            rw [x.size_eq] at h2
            omega
          have HYQ : Hid (0 ≤ q + (k : Int) ∧ q + (k : Int) + 3 * (y.depth : Int) ≤ 70000) := by
            have h1 := Ex.depth_kid hy.out
            have h2 := HQ1.out
            exact ⟨by omega, by omega⟩
          have HYI := Lib.hid (hyin.step hBw.out)
          have HYO := Lib.hid (ok_kid HOK.out hy.out)
          clear hyin e
          have HWR : Hid (IntKind.i64.wrap (q + (k : Int)) = q + (k : Int)) := IntWalk.i64_in _ (by omega)
          go_upto_region 11 with fail
          obtain ⟨w1, hw1⟩ : ∃ W, wr.alloc (.cells #[.int .i64 y.op, .int .i64 y.n, .slice y.at' y.ks.length y.cap] 24) = W := ⟨_, rfl⟩
          have hal : Below wr.heap.size wr w1 := by rw [← hw1]; exact (Below.refl _ _).alloc (Nat.le_refl _) _
          have RK1 : Row w1 wr.heap.size [.int .i64 y.op, .int .i64 y.n, .slice y.at' y.ks.length y.cap] := by rw [← hw1]; exact Row.new' _ _ _ rfl
          rw [hw1]
          clear hw1 c0 c1 c2' hlb
          have RO1 := RO.out.step hal
          refine AnyJ.beginP (fun w' : World => w'.cell? ⟨w.heap.size + 1 + 1, 2, none⟩ = some (.slice a2 k c2) ∧ w'.cell? ⟨wr.heap.size, 0, none⟩ = some (.int .i64 y.op) ∧ w'.cell? ⟨wr.heap.size, 1, none⟩ = some (.int .i64 y.n) ∧ w'.cell? ⟨wr.heap.size, 2, none⟩ = some (.slice y.at' y.ks.length y.cap)) (fun j => decide (j ≤ 9)) (by kernel_rfl) ⟨RO1.drew.cell 2 rfl, RK1.drew.cell 0 rfl, RK1.drew.cell 1 rfl, RK1.drew.cell 2 rfl⟩ (fun hS => ?_)
          refine AnyJ.takeD (i := 0) (d := some 34) (v := ?_) rfl (by kernel_rfl) (by kernel_rfl) (by kernel_rfl) (by kernel_rfl) (by kernel_rfl) (fun _ _ _ h => h) (Or.inl ⟨by kernel_rfl, ?_⟩) hS ?_
          rotate_left
          · intro w' hS
            clear hS
            go_simp
            try with_reducible rfl
          refine AnyJ.takeD (i := 1) (d := some 35) (v := ?_) rfl (by kernel_rfl) (by kernel_rfl) (by kernel_rfl) (by kernel_rfl) (by kernel_rfl) (fun _ _ _ h => h) (Or.inl ⟨by kernel_rfl, ?_⟩) hS ?_
          rotate_left
          · intro w' hS
            obtain ⟨sF0, sF1, sF2, sF3⟩ := hS
            go_simp
            try with_reducible rfl
          refine AnyJ.takeD (i := 2) (d := some 36) (v := ?_) rfl (by kernel_rfl) (by kernel_rfl) (by kernel_rfl) (by kernel_rfl) (by kernel_rfl) (fun _ _ _ h => h) (Or.inl ⟨by kernel_rfl, ?_⟩) hS ?_
          rotate_left
          · intro w' hS
            obtain ⟨sF0, sF1, sF2, sF3⟩ := hS
            go_simp
            try with_reducible rfl
          refine AnyJ.takeD (i := 3) (d := some 37) (v := ?_) rfl (by kernel_rfl) (by kernel_rfl) (by kernel_rfl) (by kernel_rfl) (by kernel_rfl) (fun _ _ _ h => h) (Or.inl ⟨by kernel_rfl, ?_⟩) hS ?_
          rotate_left
          · intro w' hS
            clear hS
            go_simp
            try with_reducible rfl
          refine AnyJ.takeD (i := 4) (d := some 38) (v := ?_) rfl (by kernel_rfl) (by kernel_rfl) (by kernel_rfl) (by kernel_rfl) (by kernel_rfl) (fun _ _ _ h => h) (Or.inl ⟨by kernel_rfl, ?_⟩) hS ?_
          rotate_left
          · intro w' hS
            clear hS
            go_simp
            try with_reducible rfl
          refine AnyJ.takeD (i := 5) (d := some 39) (v := ?_) rfl (by kernel_rfl) (by kernel_rfl) (by kernel_rfl) (by kernel_rfl) (by kernel_rfl) (fun _ _ _ h => h) (Or.inl ⟨by kernel_rfl, ?_⟩) hS ?_
          rotate_left
          · intro w' hS
            clear hS
            go_simp
            try with_reducible rfl
          clear hS
          obtain ⟨w2, hw2⟩ : ∃ W, w1.drew = W := ⟨_, rfl⟩
          have hal2 : Below wr.heap.size wr w2 := by rw [← hw2]; exact hal.drew
          have RK2 : Row w2 wr.heap.size [.int .i64 y.op, .int .i64 y.n, .slice y.at' y.ks.length y.cap] := by rw [← hw2]; exact RK1.drew
          rw [hw2]
          clear hw2 hal RK1 RO1
          refine AnyJ.one (i := 6) (by kernel_rfl) rfl (fun Kz hKz => ?_)
          go_simp
          rw [HWR.out]
          refine (ih y HYS.out w2 (q + (k : Int)) (HYI.out.step hal2) HYO.out HYQ.out.1 HYQ.out.2).mono ?_
          rintro e w3 ⟨z, rfl, hz3, hza, hzo, hb3⟩
          rw [show z.val = .agg #[.int .i64 z.op, .int .i64 z.n, .slice z.at' z.ks.length z.cap] from rfl]
          have hal3 := hal2.trans (hb3.mono hal2.size)
          have RK3 := RK2.step hb3
          have hs2 := hal2.size
          have HI3 := HI.out.step hal3
          have hs3 := RK2.lt
          clear hal2 RK2 hb3
          refine hKz _ _ (fun _ => ⟨HI3.2.2.2.2.1.cell 2 rfl, RK3.cell 0 rfl, RK3.cell 1 rfl, RK3.cell 2 rfl⟩) ?_
          clear hKz Kz
          refine AnyJ.one (i := 7) (by kernel_rfl) rfl (fun Kz hKz => ?_)
          go_simp
          obtain ⟨w4, hw4⟩ : ∃ W, (w3.alloc (.cells #[.int .i64 z.op, .int .i64 z.n, .slice z.at' z.ks.length z.cap] 24)) = W := ⟨_, rfl⟩
          rw [hw4]
          have hb4 : Below w3.heap.size w3 w4 := by rw [← hw4]; exact (Below.refl _ _).alloc (Nat.le_refl _) _
          have R4 : Row w4 w3.heap.size z.cells := by rw [← hw4]; exact Row.new' _ _ _ rfl
          clear hw4
          have HI4 := HI3.step hb4
          have RK4 := RK3.step hb4
          have hz4 := hz3.step hb4
          have hs4 := hb4.size
          refine hKz _ _ (fun _ => ⟨HI4.2.2.2.2.1.cell 2 rfl, RK4.cell 0 rfl, RK4.cell 1 rfl, RK4.cell 2 rfl⟩) ?_
          clear hKz Kz hb4 HI3 RK3 hz3
          refine AnyJ.one (i := 8) (by kernel_rfl) rfl (fun Kz hKz => ?_)
          refine step_app_E rfl (.tmp 35) (.tmp 41) 22 rfl Try.underlying22 (w.heap.size + 3) _ zs (by simp [Act.eval, Act.put]) HI4.1.1 w3.heap.size 1 z (by simp [Act.eval, Act.put]) R4 (by rw [hzl.out]; omega) HI4.2.2.2.2.2.2 ?_
          intro gg cp w5 hown hgr hor
          rw [hzl.out] at hown ⊢
          have hlo : ∀ g, (Value.slice a2 k c2).ownBlock = some g → w.heap.size + 3 ≤ g ∧ g < wr.heap.size := fun g e => ⟨(HI4.1.1.lt e).1, (HI.out.1.1.lt e).2⟩
          have HI5 := Lib.hid (HI4.more hy.out hz4 (fun g hg => hzo g (by omega)) (fun g e => hzo g (by have := hlo g e; omega)) hza hown hgr hor hzl.out)
          have RO5 : Row w5 (w.heap.size + 1 + 1) [.int .i64 op, .int .i64 (q), .slice a2 k c2] := HI4.2.2.2.2.1.of_block (hgr.block _ HI4.2.2.2.2.1.lt (fun e => by have := hlo _ e.symm; omega))
          have RK5 : Row w5 wr.heap.size [.int .i64 y.op, .int .i64 y.n, .slice y.at' y.ks.length y.cap] := RK4.of_block (hgr.block _ RK4.lt (fun e => by have := hlo _ e.symm; omega))
          have hS : w5.cell? ⟨w.heap.size + 1 + 1, 2, none⟩ = some (.slice a2 k c2) ∧ w5.cell? ⟨wr.heap.size, 0, none⟩ = some (.int .i64 y.op) ∧ w5.cell? ⟨wr.heap.size, 1, none⟩ = some (.int .i64 y.n) ∧ w5.cell? ⟨wr.heap.size, 2, none⟩ = some (.slice y.at' y.ks.length y.cap) := ⟨RO5.cell 2 rfl, RK5.cell 0 rfl, RK5.cell 1 rfl, RK5.cell 2 rfl⟩
          refine hKz _ _ (fun _ => hS) ?_
          clear hKz Kz hown hgr hor HI4 RK4 hz4 R4 hzo hza RK5 hlo
          refine AnyJ.takeD (i := 9) (d := some 43) (v := ?_) rfl (by kernel_rfl) (by kernel_rfl) (by kernel_rfl) (by kernel_rfl) (by kernel_rfl) (fun _ _ _ h => h) (Or.inl ⟨by kernel_rfl, ?_⟩) hS ?_
          rotate_left
          · intro w' hS
            clear hS
            go_simp
            try with_reducible rfl
          clear hS
          have c2a := RO5.cell 2 rfl
          have z2a := RO5.frozen 2
          have l2a := RO5.lt
          refine AnyJ.one (i := 10) (by kernel_rfl) rfl (fun Kz hKz => ?_)
          go_simp
          refine hKz _ _ (fun h => by cases h) ?_
          clear hKz Kz
          refine AnyJ.done (by kernel_rfl) ?_ _
          try simp only [Act.put, List.setIfInBounds_toArray, List.set_cons_zero, List.set_cons_succ]
          go_wp2_with fail
          go_roundw
          case rel => exact ⟨k + 1, _, _, _, by omega, by go_num, HI5.out⟩
          case measure => simp [intOf]; omega
        · obtain rfl : k = m := by omega
          obtain ⟨h1, h2, h3, h4, h5, h6, h7⟩ := HI.out
          have cO0 := h5.cell 0 rfl
          have cO1 := h5.cell 1 rfl
          have cO2 := h5.cell 2 rfl
          have lO := h5.lt
          have cR0 := h4.cell 0 rfl
          have cR1 := h4.cell 1 rfl
          have cR2 := h4.cell 2 rfl
          have zR0 := h4.frozen 0
          have zR1 := h4.frozen 1
          have zR2 := h4.frozen 2
          have lR := h4.lt
          have H := Lib.hid (And.intro h1 (And.intro h2 (And.intro h4 h6)))
          clear h1 h2 h3 h4 h5 h6
          go_wp2_with fail
          obtain ⟨h1, h2, h4, h6⟩ := H.out
          have hP := put_all h4 [.int .i64 op, .int .i64 (q), .slice a2 k c2] rfl
          simp only [Go.Proofs.Ytcmodmchnokmgaa.puts, Nat.reduceAdd, Nat.zero_add] at hP
          obtain ⟨RP, CP⟩ := hP
          have p0 := RP.cell 0 rfl
          have p1 := RP.cell 1 rfl
          have p2 := RP.cell 2 rfl
          have hzk := hzl.out
          have hK := h1.ch CP (by omega)
          obtain ⟨ad3, c3, e3, _, hc1, hc2⟩ := h1.1.shape k hzk
          cases e3
          refine bodyPost_ret (v := .agg #[.int .i64 op, .int .i64 (q), .slice a2 k c2]) (by simp [results, Try.results23, go_sem, p0, p1, p2]) rfl ⟨.node op (q) a2 c2 zs, ?_, ?_, ?_, ?_, CP.below h6 (fun q hq => by omega) h6.size⟩
          · show _ = Ending.returned (.agg #[.int .i64 op, .int .i64 (q), .slice a2 zs.length c2])
            rw [hzk]
          · exact Ex.In.of (x := .node op (q) a2 c2 zs) ⟨by show zs.length ≤ c2; rw [hzk]; exact hc1, hc2⟩ (hK.1.sl (fun z hz => (hK.2 z hz).1))
          · refine AlikeE.of (z := .node op (q) a2 c2 zs) (show op = x.op from HE.out.1.symm) ?_ ?_
            · intro _
              have := HRN.out
              rw [HE.out.1, HE.out.2.1, HNN.out] at this
              rw [HE.out.1]; exact this
            · rw [List.take_of_length_le (by have := HE.out.2.2.2; omega)] at h2; exact h2
          · intro g hg
            refine Ex.Off.of (x := .node op (q) a2 c2 zs) (fun b o s e => ?_) (fun y hy => (h1.2 y hy).2.1 g (by omega))
            have := (h1.1.lt (g := b) (by show (Value.slice a2 k c2).ownBlock = some b; rw [show a2 = some ⟨b, o, s⟩ from e]; rfl)).1
            omega
    · rename_i h1 h2 _ _
      have HNN : Hid (renN op n q = q) := by show _ = _; unfold renN; simp at h1 h2; simp [h2]
      clear h1 h2
      obtain ⟨W0, hW0⟩ : ∃ W, ((w.alloc (.cells #[.int .i64 op, .int .i64 n, .slice ad m cap] 24)).alloc (.cells #[.int .i64 0, .int .i64 0, .slice none 0 0] 24)).alloc (.cells #[.int .i64 op, .int .i64 (q), .slice none 0 0] 24) = W := ⟨_, rfl⟩
      have HI0 : Hid (RenI w W0 x op n (q) ad m cap 0 none 0 []) := RenI.start hW0
      rw [hW0]
      clear hW0
      go_loopw [6, 7, 29] (fun _ _ i wr => ∃ (k : Nat) (a2 : Option Addr) (c2 : Nat) (zs : List Ex), k ≤ m ∧ i = .int .i64 k ∧ Hid (RenI w wr x op n (q) ad m cap k a2 c2 zs)) (fun _ _ i _ => m - (intOf i).toNat)
      case atStart => exact ⟨0, none, 0, [], Nat.zero_le _, rfl, HI0.out⟩
      case round =>
        obtain ⟨k, a2, c2, zs, hk, rfl, HI⟩ := hrel
        have hBw : Hid (Below w.heap.size w wr) := HI.out.2.2.2.2.2.1
        have hsz := HI.out.2.2.2.2.2.2
        have hzl : Hid (zs.length = k) := by
          show _ = _
          rw [HI.out.2.1.length, List.length_take, HE.out.2.2.2]; omega
        have RO : Hid (Row wr (w.heap.size + 1 + 1) [.int .i64 op, .int .i64 (q), .slice a2 k c2]) := HI.out.2.2.2.2.1
        by_cases hkm : k < m
        · obtain ⟨y, b, off, hy, hyin, e, hlb, c0, c1, c2'⟩ := HIN.out.kidAt hBw.out (k := k) (by have := HE.out.2.2.2; omega)
          have hh := HE.out.2.2.1
          rw [e] at hh
          subst hh
          have HYS : Hid (y.size ≤ N) := by
            show _ ≤ _
            have := szL_mem hy.out
            have h2 := HX.out
            rw [x.size_eq] at h2
            omega
          have HYQ : Hid (0 ≤ q + (k : Int) ∧ q + (k : Int) + 3 * (y.depth : Int) ≤ 70000) := by
            have h1 := Ex.depth_kid hy.out
            have h2 := HQ1.out
            exact ⟨by omega, by omega⟩
          have HYI := Lib.hid (hyin.step hBw.out)
          have HYO := Lib.hid (ok_kid HOK.out hy.out)
          clear hyin e
          have HWR : Hid (IntKind.i64.wrap (q + (k : Int)) = q + (k : Int)) := IntWalk.i64_in _ (by omega)
          go_upto_region 11 with fail
          obtain ⟨w1, hw1⟩ : ∃ W, wr.alloc (.cells #[.int .i64 y.op, .int .i64 y.n, .slice y.at' y.ks.length y.cap] 24) = W := ⟨_, rfl⟩
          have hal : Below wr.heap.size wr w1 := by rw [← hw1]; exact (Below.refl _ _).alloc (Nat.le_refl _) _
          have RK1 : Row w1 wr.heap.size [.int .i64 y.op, .int .i64 y.n, .slice y.at' y.ks.length y.cap] := by rw [← hw1]; exact Row.new' _ _ _ rfl
          rw [hw1]
          clear hw1 c0 c1 c2' hlb
          have RO1 := RO.out.step hal
          refine AnyJ.beginP (fun w' : World => w'.cell? ⟨w.heap.size + 1 + 1, 2, none⟩ = some (.slice a2 k c2) ∧ w'.cell? ⟨wr.heap.size, 0, none⟩ = some (.int .i64 y.op) ∧ w'.cell? ⟨wr.heap.size, 1, none⟩ = some (.int .i64 y.n) ∧ w'.cell? ⟨wr.heap.size, 2, none⟩ = some (.slice y.at' y.ks.length y.cap)) (fun j => decide (j ≤ 9)) (by kernel_rfl) ⟨RO1.drew.cell 2 rfl, RK1.drew.cell 0 rfl, RK1.drew.cell 1 rfl, RK1.drew.cell 2 rfl⟩ (fun hS => ?_)
          refine AnyJ.takeD (i := 0) (d := some 34) (v := ?_) rfl (by kernel_rfl) (by kernel_rfl) (by kernel_rfl) (by kernel_rfl) (by kernel_rfl) (fun _ _ _ h => h) (Or.inl ⟨by kernel_rfl, ?_⟩) hS ?_
          rotate_left
          · intro w' hS
            clear hS
            go_simp
            try with_reducible rfl
          refine AnyJ.takeD (i := 1) (d := some 35) (v := ?_) rfl (by kernel_rfl) (by kernel_rfl) (by kernel_rfl) (by kernel_rfl) (by kernel_rfl) (fun _ _ _ h => h) (Or.inl ⟨by kernel_rfl, ?_⟩) hS ?_
          rotate_left
          · intro w' hS
            obtain ⟨sF0, sF1, sF2, sF3⟩ := hS
            go_simp
            try with_reducible rfl
          refine AnyJ.takeD (i := 2) (d := some 36) (v := ?_) rfl (by kernel_rfl) (by kernel_rfl) (by kernel_rfl) (by kernel_rfl) (by kernel_rfl) (fun _ _ _ h => h) (Or.inl ⟨by kernel_rfl, ?_⟩) hS ?_
          rotate_left
          · intro w' hS
            obtain ⟨sF0, sF1, sF2, sF3⟩ := hS
            go_simp
            try with_reducible rfl
          refine AnyJ.takeD (i := 3) (d := some 37) (v := ?_) rfl (by kernel_rfl) (by kernel_rfl) (by kernel_rfl) (by kernel_rfl) (by kernel_rfl) (fun _ _ _ h => h) (Or.inl ⟨by kernel_rfl, ?_⟩) hS ?_
          rotate_left
          · intro w' hS
            clear hS
            go_simp
            try with_reducible rfl
          refine AnyJ.takeD (i := 4) (d := some 38) (v := ?_) rfl (by kernel_rfl) (by kernel_rfl) (by kernel_rfl) (by kernel_rfl) (by kernel_rfl) (fun _ _ _ h => h) (Or.inl ⟨by kernel_rfl, ?_⟩) hS ?_
          rotate_left
          · intro w' hS
            clear hS
            go_simp
            try with_reducible rfl
          refine AnyJ.takeD (i := 5) (d := some 39) (v := ?_) rfl (by kernel_rfl) (by kernel_rfl) (by kernel_rfl) (by kernel_rfl) (by kernel_rfl) (fun _ _ _ h => h) (Or.inl ⟨by kernel_rfl, ?_⟩) hS ?_
          rotate_left
          · intro w' hS
            clear hS
            go_simp
            try with_reducible rfl
          clear hS
          obtain ⟨w2, hw2⟩ : ∃ W, w1.drew = W := ⟨_, rfl⟩
          have hal2 : Below wr.heap.size wr w2 := by rw [← hw2]; exact hal.drew
          have RK2 : Row w2 wr.heap.size [.int .i64 y.op, .int .i64 y.n, .slice y.at' y.ks.length y.cap] := by rw [← hw2]; exact RK1.drew
          rw [hw2]
          clear hw2 hal RK1 RO1
          refine AnyJ.one (i := 6) (by kernel_rfl) rfl (fun Kz hKz => ?_)
          go_simp
          rw [HWR.out]
          refine (ih y HYS.out w2 (q + (k : Int)) (HYI.out.step hal2) HYO.out HYQ.out.1 HYQ.out.2).mono ?_
          rintro e w3 ⟨z, rfl, hz3, hza, hzo, hb3⟩
          rw [show z.val = .agg #[.int .i64 z.op, .int .i64 z.n, .slice z.at' z.ks.length z.cap] from rfl]
          have hal3 := hal2.trans (hb3.mono hal2.size)
          have RK3 := RK2.step hb3
          have hs2 := hal2.size
          have HI3 := HI.out.step hal3
          have hs3 := RK2.lt
          clear hal2 RK2 hb3
          refine hKz _ _ (fun _ => ⟨HI3.2.2.2.2.1.cell 2 rfl, RK3.cell 0 rfl, RK3.cell 1 rfl, RK3.cell 2 rfl⟩) ?_
          clear hKz Kz
          refine AnyJ.one (i := 7) (by kernel_rfl) rfl (fun Kz hKz => ?_)
          go_simp
          obtain ⟨w4, hw4⟩ : ∃ W, (w3.alloc (.cells #[.int .i64 z.op, .int .i64 z.n, .slice z.at' z.ks.length z.cap] 24)) = W := ⟨_, rfl⟩
          rw [hw4]
          have hb4 : Below w3.heap.size w3 w4 := by rw [← hw4]; exact (Below.refl _ _).alloc (Nat.le_refl _) _
          have R4 : Row w4 w3.heap.size z.cells := by rw [← hw4]; exact Row.new' _ _ _ rfl
          clear hw4
          have HI4 := HI3.step hb4
          have RK4 := RK3.step hb4
          have hz4 := hz3.step hb4
          have hs4 := hb4.size
          refine hKz _ _ (fun _ => ⟨HI4.2.2.2.2.1.cell 2 rfl, RK4.cell 0 rfl, RK4.cell 1 rfl, RK4.cell 2 rfl⟩) ?_
          clear hKz Kz hb4 HI3 RK3 hz3
          refine AnyJ.one (i := 8) (by kernel_rfl) rfl (fun Kz hKz => ?_)
          refine step_app_E rfl (.tmp 35) (.tmp 41) 22 rfl Try.underlying22 (w.heap.size + 3) _ zs (by simp [Act.eval, Act.put]) HI4.1.1 w3.heap.size 1 z (by simp [Act.eval, Act.put]) R4 (by rw [hzl.out]; omega) HI4.2.2.2.2.2.2 ?_
          intro gg cp w5 hown hgr hor
          rw [hzl.out] at hown ⊢
          have hlo : ∀ g, (Value.slice a2 k c2).ownBlock = some g → w.heap.size + 3 ≤ g ∧ g < wr.heap.size := fun g e => ⟨(HI4.1.1.lt e).1, (HI.out.1.1.lt e).2⟩
          have HI5 := Lib.hid (HI4.more hy.out hz4 (fun g hg => hzo g (by omega)) (fun g e => hzo g (by have := hlo g e; omega)) hza hown hgr hor hzl.out)
          have RO5 : Row w5 (w.heap.size + 1 + 1) [.int .i64 op, .int .i64 (q), .slice a2 k c2] := HI4.2.2.2.2.1.of_block (hgr.block _ HI4.2.2.2.2.1.lt (fun e => by have := hlo _ e.symm; omega))
          have RK5 : Row w5 wr.heap.size [.int .i64 y.op, .int .i64 y.n, .slice y.at' y.ks.length y.cap] := RK4.of_block (hgr.block _ RK4.lt (fun e => by have := hlo _ e.symm; omega))
          have hS : w5.cell? ⟨w.heap.size + 1 + 1, 2, none⟩ = some (.slice a2 k c2) ∧ w5.cell? ⟨wr.heap.size, 0, none⟩ = some (.int .i64 y.op) ∧ w5.cell? ⟨wr.heap.size, 1, none⟩ = some (.int .i64 y.n) ∧ w5.cell? ⟨wr.heap.size, 2, none⟩ = some (.slice y.at' y.ks.length y.cap) := ⟨RO5.cell 2 rfl, RK5.cell 0 rfl, RK5.cell 1 rfl, RK5.cell 2 rfl⟩
          refine hKz _ _ (fun _ => hS) ?_
          clear hKz Kz hown hgr hor HI4 RK4 hz4 R4 hzo hza RK5 hlo
          refine AnyJ.takeD (i := 9) (d := some 43) (v := ?_) rfl (by kernel_rfl) (by kernel_rfl) (by kernel_rfl) (by kernel_rfl) (by kernel_rfl) (fun _ _ _ h => h) (Or.inl ⟨by kernel_rfl, ?_⟩) hS ?_
          rotate_left
          · intro w' hS
            clear hS
            go_simp
            try with_reducible rfl
          clear hS
          have c2a := RO5.cell 2 rfl
          have z2a := RO5.frozen 2
          have l2a := RO5.lt
          refine AnyJ.one (i := 10) (by kernel_rfl) rfl (fun Kz hKz => ?_)
          go_simp
          refine hKz _ _ (fun h => by cases h) ?_
          clear hKz Kz
          refine AnyJ.done (by kernel_rfl) ?_ _
          try simp only [Act.put, List.setIfInBounds_toArray, List.set_cons_zero, List.set_cons_succ]
          go_wp2_with fail
          go_roundw
          case rel => exact ⟨k + 1, _, _, _, by omega, by go_num, HI5.out⟩
          case measure => simp [intOf]; omega
        · obtain rfl : k = m := by omega
          obtain ⟨h1, h2, h3, h4, h5, h6, h7⟩ := HI.out
          have cO0 := h5.cell 0 rfl
          have cO1 := h5.cell 1 rfl
          have cO2 := h5.cell 2 rfl
          have lO := h5.lt
          have cR0 := h4.cell 0 rfl
          have cR1 := h4.cell 1 rfl
          have cR2 := h4.cell 2 rfl
          have zR0 := h4.frozen 0
          have zR1 := h4.frozen 1
          have zR2 := h4.frozen 2
          have lR := h4.lt
          have H := Lib.hid (And.intro h1 (And.intro h2 (And.intro h4 h6)))
          clear h1 h2 h3 h4 h5 h6
          go_wp2_with fail
          obtain ⟨h1, h2, h4, h6⟩ := H.out
          have hP := put_all h4 [.int .i64 op, .int .i64 (q), .slice a2 k c2] rfl
          simp only [Go.Proofs.Ytcmodmchnokmgaa.puts, Nat.reduceAdd, Nat.zero_add] at hP
          obtain ⟨RP, CP⟩ := hP
          have p0 := RP.cell 0 rfl
          have p1 := RP.cell 1 rfl
          have p2 := RP.cell 2 rfl
          have hzk := hzl.out
          have hK := h1.ch CP (by omega)
          obtain ⟨ad3, c3, e3, _, hc1, hc2⟩ := h1.1.shape k hzk
          cases e3
          refine bodyPost_ret (v := .agg #[.int .i64 op, .int .i64 (q), .slice a2 k c2]) (by simp [results, Try.results23, go_sem, p0, p1, p2]) rfl ⟨.node op (q) a2 c2 zs, ?_, ?_, ?_, ?_, CP.below h6 (fun q hq => by omega) h6.size⟩
          · show _ = Ending.returned (.agg #[.int .i64 op, .int .i64 (q), .slice a2 zs.length c2])
            rw [hzk]
          · exact Ex.In.of (x := .node op (q) a2 c2 zs) ⟨by show zs.length ≤ c2; rw [hzk]; exact hc1, hc2⟩ (hK.1.sl (fun z hz => (hK.2 z hz).1))
          · refine AlikeE.of (z := .node op (q) a2 c2 zs) (show op = x.op from HE.out.1.symm) ?_ ?_
            · intro _
              have := HRN.out
              rw [HE.out.1, HE.out.2.1, HNN.out] at this
              rw [HE.out.1]; exact this
            · rw [List.take_of_length_le (by have := HE.out.2.2.2; omega)] at h2; exact h2
          · intro g hg
            refine Ex.Off.of (x := .node op (q) a2 c2 zs) (fun b o s e => ?_) (fun y hy => (h1.2 y hy).2.1 g (by omega))
            have := (h1.1.lt (g := b) (by show (Value.slice a2 k c2).ownBlock = some b; rw [show a2 = some ⟨b, o, s⟩ from e]; rfl)).1
            omega
    · rename_i h1 h2 h3 _ _
      obtain ⟨q4, hq4⟩ : ∃ t, q % 4 = t := ⟨_, rfl⟩
      have HNN : Hid (renN op n q = 1 + q4) := by show _ = _; unfold renN; simp at h1 h2 h3; rw [Int.tmod_eq_emod_of_nonneg hq0]; simp [h3, hq4]
      rw [hq4]
      clear hq4 h1 h2 h3
      obtain ⟨W0, hW0⟩ : ∃ W, ((w.alloc (.cells #[.int .i64 op, .int .i64 n, .slice ad m cap] 24)).alloc (.cells #[.int .i64 0, .int .i64 0, .slice none 0 0] 24)).alloc (.cells #[.int .i64 op, .int .i64 (1 + q4), .slice none 0 0] 24) = W := ⟨_, rfl⟩
      have HI0 : Hid (RenI w W0 x op n (1 + q4) ad m cap 0 none 0 []) := RenI.start hW0
      rw [hW0]
      clear hW0
      go_loopw [6, 7, 29] (fun _ _ i wr => ∃ (k : Nat) (a2 : Option Addr) (c2 : Nat) (zs : List Ex), k ≤ m ∧ i = .int .i64 k ∧ Hid (RenI w wr x op n (1 + q4) ad m cap k a2 c2 zs)) (fun _ _ i _ => m - (intOf i).toNat)
      case atStart => exact ⟨0, none, 0, [], Nat.zero_le _, rfl, HI0.out⟩
      case round =>
        obtain ⟨k, a2, c2, zs, hk, rfl, HI⟩ := hrel
        have hBw : Hid (Below w.heap.size w wr) := HI.out.2.2.2.2.2.1
        have hsz := HI.out.2.2.2.2.2.2
        have hzl : Hid (zs.length = k) := by
          show _ = _
          rw [HI.out.2.1.length, List.length_take, HE.out.2.2.2]; omega
        have RO : Hid (Row wr (w.heap.size + 1 + 1) [.int .i64 op, .int .i64 (1 + q4), .slice a2 k c2]) := HI.out.2.2.2.2.1
        by_cases hkm : k < m
        · obtain ⟨y, b, off, hy, hyin, e, hlb, c0, c1, c2'⟩ := HIN.out.kidAt hBw.out (k := k) (by have := HE.out.2.2.2; omega)
          have hh := HE.out.2.2.1
          rw [e] at hh
          subst hh
          have HYS : Hid (y.size ≤ N) := by
            show _ ≤ _
            have := szL_mem hy.out
            have h2 := HX.out
            rw [x.size_eq] at h2
            omega
          have HYQ : Hid (0 ≤ q + (k : Int) ∧ q + (k : Int) + 3 * (y.depth : Int) ≤ 70000) := by
            have h1 := Ex.depth_kid hy.out
            have h2 := HQ1.out
            exact ⟨by omega, by omega⟩
          have HYI := Lib.hid (hyin.step hBw.out)
          have HYO := Lib.hid (ok_kid HOK.out hy.out)
          clear hyin e
          have HWR : Hid (IntKind.i64.wrap (q + (k : Int)) = q + (k : Int)) := IntWalk.i64_in _ (by omega)
          go_upto_region 11 with fail
          obtain ⟨w1, hw1⟩ : ∃ W, wr.alloc (.cells #[.int .i64 y.op, .int .i64 y.n, .slice y.at' y.ks.length y.cap] 24) = W := ⟨_, rfl⟩
          have hal : Below wr.heap.size wr w1 := by rw [← hw1]; exact (Below.refl _ _).alloc (Nat.le_refl _) _
          have RK1 : Row w1 wr.heap.size [.int .i64 y.op, .int .i64 y.n, .slice y.at' y.ks.length y.cap] := by rw [← hw1]; exact Row.new' _ _ _ rfl
          rw [hw1]
          clear hw1 c0 c1 c2' hlb
          have RO1 := RO.out.step hal
          refine AnyJ.beginP (fun w' : World => w'.cell? ⟨w.heap.size + 1 + 1, 2, none⟩ = some (.slice a2 k c2) ∧ w'.cell? ⟨wr.heap.size, 0, none⟩ = some (.int .i64 y.op) ∧ w'.cell? ⟨wr.heap.size, 1, none⟩ = some (.int .i64 y.n) ∧ w'.cell? ⟨wr.heap.size, 2, none⟩ = some (.slice y.at' y.ks.length y.cap)) (fun j => decide (j ≤ 9)) (by kernel_rfl) ⟨RO1.drew.cell 2 rfl, RK1.drew.cell 0 rfl, RK1.drew.cell 1 rfl, RK1.drew.cell 2 rfl⟩ (fun hS => ?_)
          refine AnyJ.takeD (i := 0) (d := some 34) (v := ?_) rfl (by kernel_rfl) (by kernel_rfl) (by kernel_rfl) (by kernel_rfl) (by kernel_rfl) (fun _ _ _ h => h) (Or.inl ⟨by kernel_rfl, ?_⟩) hS ?_
          rotate_left
          · intro w' hS
            clear hS
            go_simp
            try with_reducible rfl
          refine AnyJ.takeD (i := 1) (d := some 35) (v := ?_) rfl (by kernel_rfl) (by kernel_rfl) (by kernel_rfl) (by kernel_rfl) (by kernel_rfl) (fun _ _ _ h => h) (Or.inl ⟨by kernel_rfl, ?_⟩) hS ?_
          rotate_left
          · intro w' hS
            obtain ⟨sF0, sF1, sF2, sF3⟩ := hS
            go_simp
            try with_reducible rfl
          refine AnyJ.takeD (i := 2) (d := some 36) (v := ?_) rfl (by kernel_rfl) (by kernel_rfl) (by kernel_rfl) (by kernel_rfl) (by kernel_rfl) (fun _ _ _ h => h) (Or.inl ⟨by kernel_rfl, ?_⟩) hS ?_
          rotate_left
          · intro w' hS
            obtain ⟨sF0, sF1, sF2, sF3⟩ := hS
            go_simp
            try with_reducible rfl
          refine AnyJ.takeD (i := 3) (d := some 37) (v := ?_) rfl (by kernel_rfl) (by kernel_rfl) (by kernel_rfl) (by kernel_rfl) (by kernel_rfl) (fun _ _ _ h => h) (Or.inl ⟨by kernel_rfl, ?_⟩) hS ?_
          rotate_left
          · intro w' hS
            clear hS
            go_simp
            try with_reducible rfl
          refine AnyJ.takeD (i := 4) (d := some 38) (v := ?_) rfl (by kernel_rfl) (by kernel_rfl) (by kernel_rfl) (by kernel_rfl) (by kernel_rfl) (fun _ _ _ h => h) (Or.inl ⟨by kernel_rfl, ?_⟩) hS ?_
          rotate_left
          · intro w' hS
            clear hS
            go_simp
            try with_reducible rfl
          refine AnyJ.takeD (i := 5) (d := some 39) (v := ?_) rfl (by kernel_rfl) (by kernel_rfl) (by kernel_rfl) (by kernel_rfl) (by kernel_rfl) (fun _ _ _ h => h) (Or.inl ⟨by kernel_rfl, ?_⟩) hS ?_
          rotate_left
          · intro w' hS
            clear hS
            go_simp
            try with_reducible rfl
          clear hS
          obtain ⟨w2, hw2⟩ : ∃ W, w1.drew = W := ⟨_, rfl⟩
          have hal2 : Below wr.heap.size wr w2 := by rw [← hw2]; exact hal.drew
          have RK2 : Row w2 wr.heap.size [.int .i64 y.op, .int .i64 y.n, .slice y.at' y.ks.length y.cap] := by rw [← hw2]; exact RK1.drew
          rw [hw2]
          clear hw2 hal RK1 RO1
          refine AnyJ.one (i := 6) (by kernel_rfl) rfl (fun Kz hKz => ?_)
          go_simp
          rw [HWR.out]
          refine (ih y HYS.out w2 (q + (k : Int)) (HYI.out.step hal2) HYO.out HYQ.out.1 HYQ.out.2).mono ?_
          rintro e w3 ⟨z, rfl, hz3, hza, hzo, hb3⟩
          rw [show z.val = .agg #[.int .i64 z.op, .int .i64 z.n, .slice z.at' z.ks.length z.cap] from rfl]
          have hal3 := hal2.trans (hb3.mono hal2.size)
          have RK3 := RK2.step hb3
          have hs2 := hal2.size
          have HI3 := HI.out.step hal3
          have hs3 := RK2.lt
          clear hal2 RK2 hb3
          refine hKz _ _ (fun _ => ⟨HI3.2.2.2.2.1.cell 2 rfl, RK3.cell 0 rfl, RK3.cell 1 rfl, RK3.cell 2 rfl⟩) ?_
          clear hKz Kz
          refine AnyJ.one (i := 7) (by kernel_rfl) rfl (fun Kz hKz => ?_)
          go_simp
          obtain ⟨w4, hw4⟩ : ∃ W, (w3.alloc (.cells #[.int .i64 z.op, .int .i64 z.n, .slice z.at' z.ks.length z.cap] 24)) = W := ⟨_, rfl⟩
          rw [hw4]
          have hb4 : Below w3.heap.size w3 w4 := by rw [← hw4]; exact (Below.refl _ _).alloc (Nat.le_refl _) _
          have R4 : Row w4 w3.heap.size z.cells := by rw [← hw4]; exact Row.new' _ _ _ rfl
          clear hw4
          have HI4 := HI3.step hb4
          have RK4 := RK3.step hb4
          have hz4 := hz3.step hb4
          have hs4 := hb4.size
          refine hKz _ _ (fun _ => ⟨HI4.2.2.2.2.1.cell 2 rfl, RK4.cell 0 rfl, RK4.cell 1 rfl, RK4.cell 2 rfl⟩) ?_
          clear hKz Kz hb4 HI3 RK3 hz3
          refine AnyJ.one (i := 8) (by kernel_rfl) rfl (fun Kz hKz => ?_)
          refine step_app_E rfl (.tmp 35) (.tmp 41) 22 rfl Try.underlying22 (w.heap.size + 3) _ zs (by simp [Act.eval, Act.put]) HI4.1.1 w3.heap.size 1 z (by simp [Act.eval, Act.put]) R4 (by rw [hzl.out]; omega) HI4.2.2.2.2.2.2 ?_
          intro gg cp w5 hown hgr hor
          rw [hzl.out] at hown ⊢
          have hlo : ∀ g, (Value.slice a2 k c2).ownBlock = some g → w.heap.size + 3 ≤ g ∧ g < wr.heap.size := fun g e => ⟨(HI4.1.1.lt e).1, (HI.out.1.1.lt e).2⟩
          have HI5 := Lib.hid (HI4.more hy.out hz4 (fun g hg => hzo g (by omega)) (fun g e => hzo g (by have := hlo g e; omega)) hza hown hgr hor hzl.out)
          have RO5 : Row w5 (w.heap.size + 1 + 1) [.int .i64 op, .int .i64 (1 + q4), .slice a2 k c2] := HI4.2.2.2.2.1.of_block (hgr.block _ HI4.2.2.2.2.1.lt (fun e => by have := hlo _ e.symm; omega))
          have RK5 : Row w5 wr.heap.size [.int .i64 y.op, .int .i64 y.n, .slice y.at' y.ks.length y.cap] := RK4.of_block (hgr.block _ RK4.lt (fun e => by have := hlo _ e.symm; omega))
          have hS : w5.cell? ⟨w.heap.size + 1 + 1, 2, none⟩ = some (.slice a2 k c2) ∧ w5.cell? ⟨wr.heap.size, 0, none⟩ = some (.int .i64 y.op) ∧ w5.cell? ⟨wr.heap.size, 1, none⟩ = some (.int .i64 y.n) ∧ w5.cell? ⟨wr.heap.size, 2, none⟩ = some (.slice y.at' y.ks.length y.cap) := ⟨RO5.cell 2 rfl, RK5.cell 0 rfl, RK5.cell 1 rfl, RK5.cell 2 rfl⟩
          refine hKz _ _ (fun _ => hS) ?_
          clear hKz Kz hown hgr hor HI4 RK4 hz4 R4 hzo hza RK5 hlo
          refine AnyJ.takeD (i := 9) (d := some 43) (v := ?_) rfl (by kernel_rfl) (by kernel_rfl) (by kernel_rfl) (by kernel_rfl) (by kernel_rfl) (fun _ _ _ h => h) (Or.inl ⟨by kernel_rfl, ?_⟩) hS ?_
          rotate_left
          · intro w' hS
            clear hS
            go_simp
            try with_reducible rfl
          clear hS
          have c2a := RO5.cell 2 rfl
          have z2a := RO5.frozen 2
          have l2a := RO5.lt
          refine AnyJ.one (i := 10) (by kernel_rfl) rfl (fun Kz hKz => ?_)
          go_simp
          refine hKz _ _ (fun h => by cases h) ?_
          clear hKz Kz
          refine AnyJ.done (by kernel_rfl) ?_ _
          try simp only [Act.put, List.setIfInBounds_toArray, List.set_cons_zero, List.set_cons_succ]
          go_wp2_with fail
          go_roundw
          case rel => exact ⟨k + 1, _, _, _, by omega, by go_num, HI5.out⟩
          case measure => simp [intOf]; omega
        · obtain rfl : k = m := by omega
          obtain ⟨h1, h2, h3, h4, h5, h6, h7⟩ := HI.out
          have cO0 := h5.cell 0 rfl
          have cO1 := h5.cell 1 rfl
          have cO2 := h5.cell 2 rfl
          have lO := h5.lt
          have cR0 := h4.cell 0 rfl
          have cR1 := h4.cell 1 rfl
          have cR2 := h4.cell 2 rfl
          have zR0 := h4.frozen 0
          have zR1 := h4.frozen 1
          have zR2 := h4.frozen 2
          have lR := h4.lt
          have H := Lib.hid (And.intro h1 (And.intro h2 (And.intro h4 h6)))
          clear h1 h2 h3 h4 h5 h6
          go_wp2_with fail
          obtain ⟨h1, h2, h4, h6⟩ := H.out
          have hP := put_all h4 [.int .i64 op, .int .i64 (1 + q4), .slice a2 k c2] rfl
          simp only [Go.Proofs.Ytcmodmchnokmgaa.puts, Nat.reduceAdd, Nat.zero_add] at hP
          obtain ⟨RP, CP⟩ := hP
          have p0 := RP.cell 0 rfl
          have p1 := RP.cell 1 rfl
          have p2 := RP.cell 2 rfl
          have hzk := hzl.out
          have hK := h1.ch CP (by omega)
          obtain ⟨ad3, c3, e3, _, hc1, hc2⟩ := h1.1.shape k hzk
          cases e3
          refine bodyPost_ret (v := .agg #[.int .i64 op, .int .i64 (1 + q4), .slice a2 k c2]) (by simp [results, Try.results23, go_sem, p0, p1, p2]) rfl ⟨.node op (1 + q4) a2 c2 zs, ?_, ?_, ?_, ?_, CP.below h6 (fun q hq => by omega) h6.size⟩
          · show _ = Ending.returned (.agg #[.int .i64 op, .int .i64 (1 + q4), .slice a2 zs.length c2])
            rw [hzk]
          · exact Ex.In.of (x := .node op (1 + q4) a2 c2 zs) ⟨by show zs.length ≤ c2; rw [hzk]; exact hc1, hc2⟩ (hK.1.sl (fun z hz => (hK.2 z hz).1))
          · refine AlikeE.of (z := .node op (1 + q4) a2 c2 zs) (show op = x.op from HE.out.1.symm) ?_ ?_
            · intro _
              have := HRN.out
              rw [HE.out.1, HE.out.2.1, HNN.out] at this
              rw [HE.out.1]; exact this
            · rw [List.take_of_length_le (by have := HE.out.2.2.2; omega)] at h2; exact h2
          · intro g hg
            refine Ex.Off.of (x := .node op (1 + q4) a2 c2 zs) (fun b o s e => ?_) (fun y hy => (h1.2 y hy).2.1 g (by omega))
            have := (h1.1.lt (g := b) (by show (Value.slice a2 k c2).ownBlock = some b; rw [show a2 = some ⟨b, o, s⟩ from e]; rfl)).1
            omega
    · rename_i h1 h2 h3 _ _
      have HNN : Hid (renN op n q = n) := by show _ = _; unfold renN; simp at h1 h2 h3; simp [h1, h2, h3]
      clear h1 h2 h3
      obtain ⟨W0, hW0⟩ : ∃ W, ((w.alloc (.cells #[.int .i64 op, .int .i64 n, .slice ad m cap] 24)).alloc (.cells #[.int .i64 0, .int .i64 0, .slice none 0 0] 24)).alloc (.cells #[.int .i64 op, .int .i64 (n), .slice none 0 0] 24) = W := ⟨_, rfl⟩
      have HI0 : Hid (RenI w W0 x op n (n) ad m cap 0 none 0 []) := RenI.start hW0
      rw [hW0]
      clear hW0
      go_loopw [6, 7, 29] (fun _ _ i wr => ∃ (k : Nat) (a2 : Option Addr) (c2 : Nat) (zs : List Ex), k ≤ m ∧ i = .int .i64 k ∧ Hid (RenI w wr x op n (n) ad m cap k a2 c2 zs)) (fun _ _ i _ => m - (intOf i).toNat)
      case atStart => exact ⟨0, none, 0, [], Nat.zero_le _, rfl, HI0.out⟩
      case round =>
        obtain ⟨k, a2, c2, zs, hk, rfl, HI⟩ := hrel
        have hBw : Hid (Below w.heap.size w wr) := HI.out.2.2.2.2.2.1
        have hsz := HI.out.2.2.2.2.2.2
        have hzl : Hid (zs.length = k) := by
          show _ = _
          rw [HI.out.2.1.length, List.length_take, HE.out.2.2.2]; omega
        have RO : Hid (Row wr (w.heap.size + 1 + 1) [.int .i64 op, .int .i64 (n), .slice a2 k c2]) := HI.out.2.2.2.2.1
        by_cases hkm : k < m
        · obtain ⟨y, b, off, hy, hyin, e, hlb, c0, c1, c2'⟩ := HIN.out.kidAt hBw.out (k := k) (by have := HE.out.2.2.2; omega)
          have hh := HE.out.2.2.1
          rw [e] at hh
          subst hh
          have HYS : Hid (y.size ≤ N) := by
            show _ ≤ _
            have := szL_mem hy.out
            have h2 := HX.out
            rw [x.size_eq] at h2
            omega
          have HYQ : Hid (0 ≤ q + (k : Int) ∧ q + (k : Int) + 3 * (y.depth : Int) ≤ 70000) := by
            have h1 := Ex.depth_kid hy.out
            have h2 := HQ1.out
            exact ⟨by omega, by omega⟩
          have HYI := Lib.hid (hyin.step hBw.out)
          have HYO := Lib.hid (ok_kid HOK.out hy.out)
          clear hyin e
          have HWR : Hid (IntKind.i64.wrap (q + (k : Int)) = q + (k : Int)) := IntWalk.i64_in _ (by omega)
          go_upto_region 11 with fail
          obtain ⟨w1, hw1⟩ : ∃ W, wr.alloc (.cells #[.int .i64 y.op, .int .i64 y.n, .slice y.at' y.ks.length y.cap] 24) = W := ⟨_, rfl⟩
          have hal : Below wr.heap.size wr w1 := by rw [← hw1]; exact (Below.refl _ _).alloc (Nat.le_refl _) _
          have RK1 : Row w1 wr.heap.size [.int .i64 y.op, .int .i64 y.n, .slice y.at' y.ks.length y.cap] := by rw [← hw1]; exact Row.new' _ _ _ rfl
          rw [hw1]
          clear hw1 c0 c1 c2' hlb
          have RO1 := RO.out.step hal
          refine AnyJ.beginP (fun w' : World => w'.cell? ⟨w.heap.size + 1 + 1, 2, none⟩ = some (.slice a2 k c2) ∧ w'.cell? ⟨wr.heap.size, 0, none⟩ = some (.int .i64 y.op) ∧ w'.cell? ⟨wr.heap.size, 1, none⟩ = some (.int .i64 y.n) ∧ w'.cell? ⟨wr.heap.size, 2, none⟩ = some (.slice y.at' y.ks.length y.cap)) (fun j => decide (j ≤ 9)) (by kernel_rfl) ⟨RO1.drew.cell 2 rfl, RK1.drew.cell 0 rfl, RK1.drew.cell 1 rfl, RK1.drew.cell 2 rfl⟩ (fun hS => ?_)
          refine AnyJ.takeD (i := 0) (d := some 34) (v := ?_) rfl (by kernel_rfl) (by kernel_rfl) (by kernel_rfl) (by kernel_rfl) (by kernel_rfl) (fun _ _ _ h => h) (Or.inl ⟨by kernel_rfl, ?_⟩) hS ?_
          rotate_left
          · intro w' hS
            clear hS
            go_simp
            try with_reducible rfl
          refine AnyJ.takeD (i := 1) (d := some 35) (v := ?_) rfl (by kernel_rfl) (by kernel_rfl) (by kernel_rfl) (by kernel_rfl) (by kernel_rfl) (fun _ _ _ h => h) (Or.inl ⟨by kernel_rfl, ?_⟩) hS ?_
          rotate_left
          · intro w' hS
            obtain ⟨sF0, sF1, sF2, sF3⟩ := hS
            go_simp
            try with_reducible rfl
          refine AnyJ.takeD (i := 2) (d := some 36) (v := ?_) rfl (by kernel_rfl) (by kernel_rfl) (by kernel_rfl) (by kernel_rfl) (by kernel_rfl) (fun _ _ _ h => h) (Or.inl ⟨by kernel_rfl, ?_⟩) hS ?_
          rotate_left
          · intro w' hS
            obtain ⟨sF0, sF1, sF2, sF3⟩ := hS
            go_simp
            try with_reducible rfl
          refine AnyJ.takeD (i := 3) (d := some 37) (v := ?_) rfl (by kernel_rfl) (by kernel_rfl) (by kernel_rfl) (by kernel_rfl) (by kernel_rfl) (fun _ _ _ h => h) (Or.inl ⟨by kernel_rfl, ?_⟩) hS ?_
          rotate_left
          · intro w' hS
            clear hS
            go_simp
            try with_reducible rfl
          refine AnyJ.takeD (i := 4) (d := some 38) (v := ?_) rfl (by kernel_rfl) (by kernel_rfl) (by kernel_rfl) (by kernel_rfl) (by kernel_rfl) (fun _ _ _ h => h) (Or.inl ⟨by kernel_rfl, ?_⟩) hS ?_
          rotate_left
          · intro w' hS
            clear hS
            go_simp
            try with_reducible rfl
          refine AnyJ.takeD (i := 5) (d := some 39) (v := ?_) rfl (by kernel_rfl) (by kernel_rfl) (by kernel_rfl) (by kernel_rfl) (by kernel_rfl) (fun _ _ _ h => h) (Or.inl ⟨by kernel_rfl, ?_⟩) hS ?_
          rotate_left
          · intro w' hS
            clear hS
            go_simp
            try with_reducible rfl
          clear hS
          obtain ⟨w2, hw2⟩ : ∃ W, w1.drew = W := ⟨_, rfl⟩
          have hal2 : Below wr.heap.size wr w2 := by rw [← hw2]; exact hal.drew
          have RK2 : Row w2 wr.heap.size [.int .i64 y.op, .int .i64 y.n, .slice y.at' y.ks.length y.cap] := by rw [← hw2]; exact RK1.drew
          rw [hw2]
          clear hw2 hal RK1 RO1
          refine AnyJ.one (i := 6) (by kernel_rfl) rfl (fun Kz hKz => ?_)
          go_simp
          rw [HWR.out]
          refine (ih y HYS.out w2 (q + (k : Int)) (HYI.out.step hal2) HYO.out HYQ.out.1 HYQ.out.2).mono ?_
          rintro e w3 ⟨z, rfl, hz3, hza, hzo, hb3⟩
          rw [show z.val = .agg #[.int .i64 z.op, .int .i64 z.n, .slice z.at' z.ks.length z.cap] from rfl]
          have hal3 := hal2.trans (hb3.mono hal2.size)
          have RK3 := RK2.step hb3
          have hs2 := hal2.size
          have HI3 := HI.out.step hal3
          have hs3 := RK2.lt
          clear hal2 RK2 hb3
          refine hKz _ _ (fun _ => ⟨HI3.2.2.2.2.1.cell 2 rfl, RK3.cell 0 rfl, RK3.cell 1 rfl, RK3.cell 2 rfl⟩) ?_
          clear hKz Kz
          refine AnyJ.one (i := 7) (by kernel_rfl) rfl (fun Kz hKz => ?_)
          go_simp
          obtain ⟨w4, hw4⟩ : ∃ W, (w3.alloc (.cells #[.int .i64 z.op, .int .i64 z.n, .slice z.at' z.ks.length z.cap] 24)) = W := ⟨_, rfl⟩
          rw [hw4]
          have hb4 : Below w3.heap.size w3 w4 := by rw [← hw4]; exact (Below.refl _ _).alloc (Nat.le_refl _) _
          have R4 : Row w4 w3.heap.size z.cells := by rw [← hw4]; exact Row.new' _ _ _ rfl
          clear hw4
          have HI4 := HI3.step hb4
          have RK4 := RK3.step hb4
          have hz4 := hz3.step hb4
          have hs4 := hb4.size
          refine hKz _ _ (fun _ => ⟨HI4.2.2.2.2.1.cell 2 rfl, RK4.cell 0 rfl, RK4.cell 1 rfl, RK4.cell 2 rfl⟩) ?_
          clear hKz Kz hb4 HI3 RK3 hz3
          refine AnyJ.one (i := 8) (by kernel_rfl) rfl (fun Kz hKz => ?_)
          refine step_app_E rfl (.tmp 35) (.tmp 41) 22 rfl Try.underlying22 (w.heap.size + 3) _ zs (by simp [Act.eval, Act.put]) HI4.1.1 w3.heap.size 1 z (by simp [Act.eval, Act.put]) R4 (by rw [hzl.out]; omega) HI4.2.2.2.2.2.2 ?_
          intro gg cp w5 hown hgr hor
          rw [hzl.out] at hown ⊢
          have hlo : ∀ g, (Value.slice a2 k c2).ownBlock = some g → w.heap.size + 3 ≤ g ∧ g < wr.heap.size := fun g e => ⟨(HI4.1.1.lt e).1, (HI.out.1.1.lt e).2⟩
          have HI5 := Lib.hid (HI4.more hy.out hz4 (fun g hg => hzo g (by omega)) (fun g e => hzo g (by have := hlo g e; omega)) hza hown hgr hor hzl.out)
          have RO5 : Row w5 (w.heap.size + 1 + 1) [.int .i64 op, .int .i64 (n), .slice a2 k c2] := HI4.2.2.2.2.1.of_block (hgr.block _ HI4.2.2.2.2.1.lt (fun e => by have := hlo _ e.symm; omega))
          have RK5 : Row w5 wr.heap.size [.int .i64 y.op, .int .i64 y.n, .slice y.at' y.ks.length y.cap] := RK4.of_block (hgr.block _ RK4.lt (fun e => by have := hlo _ e.symm; omega))
          have hS : w5.cell? ⟨w.heap.size + 1 + 1, 2, none⟩ = some (.slice a2 k c2) ∧ w5.cell? ⟨wr.heap.size, 0, none⟩ = some (.int .i64 y.op) ∧ w5.cell? ⟨wr.heap.size, 1, none⟩ = some (.int .i64 y.n) ∧ w5.cell? ⟨wr.heap.size, 2, none⟩ = some (.slice y.at' y.ks.length y.cap) := ⟨RO5.cell 2 rfl, RK5.cell 0 rfl, RK5.cell 1 rfl, RK5.cell 2 rfl⟩
          refine hKz _ _ (fun _ => hS) ?_
          clear hKz Kz hown hgr hor HI4 RK4 hz4 R4 hzo hza RK5 hlo
          refine AnyJ.takeD (i := 9) (d := some 43) (v := ?_) rfl (by kernel_rfl) (by kernel_rfl) (by kernel_rfl) (by kernel_rfl) (by kernel_rfl) (fun _ _ _ h => h) (Or.inl ⟨by kernel_rfl, ?_⟩) hS ?_
          rotate_left
          · intro w' hS
            clear hS
            go_simp
            try with_reducible rfl
          clear hS
          have c2a := RO5.cell 2 rfl
          have z2a := RO5.frozen 2
          have l2a := RO5.lt
          refine AnyJ.one (i := 10) (by kernel_rfl) rfl (fun Kz hKz => ?_)
          go_simp
          refine hKz _ _ (fun h => by cases h) ?_
          clear hKz Kz
          refine AnyJ.done (by kernel_rfl) ?_ _
          try simp only [Act.put, List.setIfInBounds_toArray, List.set_cons_zero, List.set_cons_succ]
          go_wp2_with fail
          go_roundw
          case rel => exact ⟨k + 1, _, _, _, by omega, by go_num, HI5.out⟩
          case measure => simp [intOf]; omega
        · obtain rfl : k = m := by omega
          obtain ⟨h1, h2, h3, h4, h5, h6, h7⟩ := HI.out
          have cO0 := h5.cell 0 rfl
          have cO1 := h5.cell 1 rfl
          have cO2 := h5.cell 2 rfl
          have lO := h5.lt
          have cR0 := h4.cell 0 rfl
          have cR1 := h4.cell 1 rfl
          have cR2 := h4.cell 2 rfl
          have zR0 := h4.frozen 0
          have zR1 := h4.frozen 1
          have zR2 := h4.frozen 2
          have lR := h4.lt
          have H := Lib.hid (And.intro h1 (And.intro h2 (And.intro h4 h6)))
          clear h1 h2 h3 h4 h5 h6
          go_wp2_with fail
          obtain ⟨h1, h2, h4, h6⟩ := H.out
          have hP := put_all h4 [.int .i64 op, .int .i64 (n), .slice a2 k c2] rfl
          simp only [Go.Proofs.Ytcmodmchnokmgaa.puts, Nat.reduceAdd, Nat.zero_add] at hP
          obtain ⟨RP, CP⟩ := hP
          have p0 := RP.cell 0 rfl
          have p1 := RP.cell 1 rfl
          have p2 := RP.cell 2 rfl
          have hzk := hzl.out
          have hK := h1.ch CP (by omega)
          obtain ⟨ad3, c3, e3, _, hc1, hc2⟩ := h1.1.shape k hzk
          cases e3
          refine bodyPost_ret (v := .agg #[.int .i64 op, .int .i64 (n), .slice a2 k c2]) (by simp [results, Try.results23, go_sem, p0, p1, p2]) rfl ⟨.node op (n) a2 c2 zs, ?_, ?_, ?_, ?_, CP.below h6 (fun q hq => by omega) h6.size⟩
          · show _ = Ending.returned (.agg #[.int .i64 op, .int .i64 (n), .slice a2 zs.length c2])
            rw [hzk]
          · exact Ex.In.of (x := .node op (n) a2 c2 zs) ⟨by show zs.length ≤ c2; rw [hzk]; exact hc1, hc2⟩ (hK.1.sl (fun z hz => (hK.2 z hz).1))
          · refine AlikeE.of (z := .node op (n) a2 c2 zs) (show op = x.op from HE.out.1.symm) ?_ ?_
            · intro _
              have := HRN.out
              rw [HE.out.1, HE.out.2.1, HNN.out] at this
              rw [HE.out.1]; exact this
            · rw [List.take_of_length_le (by have := HE.out.2.2.2; omega)] at h2; exact h2
          · intro g hg
            refine Ex.Off.of (x := .node op (n) a2 c2 zs) (fun b o s e => ?_) (fun y hy => (h1.2 y hy).2.1 g (by omega))
            have := (h1.1.lt (g := b) (by show (Value.slice a2 k c2).ownBlock = some b; rw [show a2 = some ⟨b, o, s⟩ from e]; rfl)).1
            omega

end Go.Proofs.Ytcmodmchnokmgaa
