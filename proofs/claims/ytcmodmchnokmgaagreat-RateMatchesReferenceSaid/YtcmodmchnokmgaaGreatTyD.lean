/-
 The walks of the reference of layer 10: Type, Infer.
-/
import Derived.Test.YtcmodmchnokmgaaGreatTyC
namespace Go.Proofs.YtcmodmchnokmgaaGreat
set_option linter.unusedSimpArgs false
set_option linter.unusedVariables false
open Go.RowKit
theorem Row.set3 {w : World} {b : Nat} {x0 x1 x2 : Value} (h : Row w b [x0, x1, x2]) (v : Value) : Row (w.setCell ⟨b, 0, none⟩ v) b [v, x1, x2] ∧ Row (w.setCell ⟨b, 1, none⟩ v) b [x0, v, x2] ∧ Row (w.setCell ⟨b, 2, none⟩ v) b [x0, x1, v] := by
 obtain ⟨T, h⟩ := h
 refine ⟨⟨T, ?_⟩, ⟨T, ?_⟩, ⟨T, ?_⟩⟩ <;> simp [World.setCell, Array.getElem?_modify, h]
/-- The types of the first k kids in an array of three. -/
def padT (x : Ex) (k : Nat) : List Value := [.int .i64 (((x.ks.take k).map Ex.ty).getD 0 0), .int .i64 (((x.ks.take k).map Ex.ty).getD 1 0), .int .i64 (((x.ks.take k).map Ex.ty).getD 2 0)]
theorem padT_get {x y : Ex} {k : Nat} (hy : x.ks[k]? = some y) (i : Nat) : ((x.ks.take (k + 1)).map Ex.ty).getD i 0 = if i = k then y.ty else ((x.ks.take k).map Ex.ty).getD i 0 := by
 have hlt : k < x.ks.length := (List.getElem?_eq_some_iff.1 hy).1
 rw [take_snocE hy, List.map_append, List.getD_eq_getElem?_getD, List.getD_eq_getElem?_getD]
 have hl : ((x.ks.take k).map Ex.ty).length = k := by simp; omega
 by_cases h : i < k
 ·
  rw [List.getElem?_append_left (by omega), if_neg (by omega)]
 ·
  rw [List.getElem?_append_right (by omega), hl]
  by_cases h2 : i = k
  ·
   subst h2; simp
  ·
   rw [if_neg h2, List.getElem?_eq_none (by simp; omega), List.getElem?_eq_none (by omega)]
theorem beqT {a b : Int} (h : (a == b) = true) : a = b := by simpa using h
theorem beqF {a b : Int} (h : (a == b) = false) : ¬ a = b := by simpa using h
theorem bneT {a b : Int} (h : (a != b) = true) : ¬ a = b := by simpa using h
theorem bneF {a b : Int} (h : (a != b) = false) : a = b := by simpa using h
theorem tyOp_spec {op a b c R : Int} (h : R = tyOp op a b c) :
  (op = 1 ∨ op = 3 → R = 1) ∧ (op = 2 → R = 2) ∧ (op = 4 ∨ op = 5 ∨ op = 8 ∨ op = 9 → (a = b ∧ ¬ a = 3 → R = a) ∧ (¬ (a = b ∧ ¬ a = 3) → R = 0)) ∧
  (op = 6 → (a = 1 ∧ b = 1 → R = 1) ∧ (a = 2 ∧ b = 1 ∨ a = 1 ∧ b = 2 → R = 2) ∧ (¬ (a = 1 ∧ b = 1) → ¬ (a = 2 ∧ b = 1 ∨ a = 1 ∧ b = 2) → R = 0)) ∧
  (op = 7 → (b = 1 ∧ ¬ a = 3 → R = a) ∧ (¬ (b = 1 ∧ ¬ a = 3) → R = 0)) ∧
  (op = 11 ∨ op = 12 → (a = b ∧ ¬ a = 3 → R = 3) ∧ (¬ (a = b ∧ ¬ a = 3) → R = 0)) ∧
  (op = 13 ∨ op = 14 → (a = 3 ∧ b = 3 → R = 3) ∧ (¬ (a = 3 ∧ b = 3) → R = 0)) ∧
  (op = 15 → (a = 3 → R = 3) ∧ (¬ a = 3 → R = 0)) ∧
  (op = 10 → (a = 3 ∧ b = c → R = b) ∧ (¬ (a = 3 ∧ b = c) → R = 0)) := by
 subst h
 unfold tyOp
 refine ⟨?_, ?_, ?_, ?_, ?_, ?_, ?_, ?_, ?_⟩ <;> intro h
 ·
  rw [if_pos h]
 ·
  subst h; simp
 ·
  rw [if_neg (by omega), if_neg (by omega), if_pos h]
  exact ⟨fun g => if_pos g, fun g => if_neg g⟩
 ·
  subst h
  refine ⟨fun g => by simp [g], fun g => ?_, fun g k => ?_⟩
  ·
   rw [if_neg (by omega), if_neg (by omega), if_neg (by omega), if_pos rfl, if_neg (by omega), if_pos g]
  ·
   rw [if_neg (by omega), if_neg (by omega), if_neg (by omega), if_pos rfl, if_neg g, if_neg k]
 ·
  subst h
  rw [if_neg (by omega), if_neg (by omega), if_neg (by omega), if_neg (by omega), if_pos rfl]
  exact ⟨fun g => if_pos g, fun g => if_neg g⟩
 ·
  rw [if_neg (by omega), if_neg (by omega), if_neg (by omega), if_neg (by omega), if_neg (by omega), if_pos h]
  exact ⟨fun g => if_pos g, fun g => if_neg g⟩
 ·
  rw [if_neg (by omega), if_neg (by omega), if_neg (by omega), if_neg (by omega), if_neg (by omega), if_neg (by omega), if_pos h]
  exact ⟨fun g => if_pos g, fun g => if_neg g⟩
 ·
  subst h
  rw [if_neg (by omega), if_neg (by omega), if_neg (by omega), if_neg (by omega), if_neg (by omega), if_neg (by omega), if_neg (by omega), if_pos rfl]
  exact ⟨fun g => if_pos g, fun g => if_neg g⟩
 ·
  subst h
  rw [if_neg (by omega), if_neg (by omega), if_neg (by omega), if_neg (by omega), if_neg (by omega), if_neg (by omega), if_neg (by omega), if_neg (by omega), if_pos rfl]
  exact ⟨fun g => if_pos g, fun g => if_neg g⟩
set_option maxRecDepth 100000 in
set_option maxHeartbeats 4000000 in
theorem R_type_all : ∀ (N : Nat) (x : Ex), x.size ≤ N → ∀ (w : World), x.In w → x.ok = true →
  Calls Tryz.prog 19 #[x.val] w fun e w' => e = .returned (.int .i64 x.ty) ∧ Below w.heap.size w w' := by
 intro N
 induction N with
 | zero => intro x hx; have := x.size_pos; omega
 | succ N ih =>
  intro x hx w hin hok
  have HIN := Lib.hid hin
  have HX := Lib.hid hx
  have HOK := Lib.hid hok
  obtain ⟨R, hRR⟩ : ∃ R, x.ty = R := ⟨_, rfl⟩
  have HRR := Lib.hid hRR
  have HNB := Lib.hid (nodeB_op (ok_node hok).1)
  have hm3 := nodeB_kids (ok_node hok).1
  rw [hRR]
  clear hRR hin hx hok
  obtain ⟨op, hop⟩ : ∃ op, x.op = op := ⟨_, rfl⟩
  obtain ⟨n, hn⟩ : ∃ n, x.n = n := ⟨_, rfl⟩
  obtain ⟨ad, had⟩ : ∃ ad, x.at' = ad := ⟨_, rfl⟩
  obtain ⟨m, hm⟩ : ∃ m, x.ks.length = m := ⟨_, rfl⟩
  obtain ⟨cap, hcap⟩ : ∃ cap, x.cap = cap := ⟨_, rfl⟩
  rw [show x.val = .agg #[.int .i64 x.op, .int .i64 x.n, .slice x.at' x.ks.length x.cap] from rfl, hop, hn, had, hm, hcap]
  rw [hm] at hm3
  have HE := Lib.hid (And.intro hop (And.intro hn (And.intro had hm)))
  clear hop hn had hm hcap
  have RE : Row ((w.alloc (.cells #[.int .i64 op, .int .i64 n, .slice ad m cap] 24)).alloc (.cells #[.int .i64 0, .int .i64 0, .int .i64 0] 72)) w.heap.size [.int .i64 op, .int .i64 n, .slice ad m cap] := by (repeat' (first | (with_reducible assumption) | (with_reducible refine Row.new' _ _ _ (by first | rfl | (simp; done) | omega)) | (with_reducible refine Row.alloc ?_ _) | (with_reducible refine Row.drew ?_) | (with_reducible refine Row.drewN ?_ _) | (with_reducible refine Row.step ?_ (by with_reducible assumption))))
  have RT : Row ((w.alloc (.cells #[.int .i64 op, .int .i64 n, .slice ad m cap] 24)).alloc (.cells #[.int .i64 0, .int .i64 0, .int .i64 0] 72)) (w.heap.size + 1) [.int .i64 0, .int .i64 0, .int .i64 0] := by (repeat' (first | (with_reducible assumption) | (with_reducible refine Row.new' _ _ _ (by first | rfl | (simp; done) | omega)) | (with_reducible refine Row.alloc ?_ _) | (with_reducible refine Row.drew ?_) | (with_reducible refine Row.drewN ?_ _) | (with_reducible refine Row.step ?_ (by with_reducible assumption))))
  have HB1 : Below w.heap.size w ((w.alloc (.cells #[.int .i64 op, .int .i64 n, .slice ad m cap] 24)).alloc (.cells #[.int .i64 0, .int .i64 0, .int .i64 0] 72)) := by (repeat' (first | (with_reducible first | exact Below.refl _ _ | assumption | exact Bw.out (by assumption) | refine bw_alloc ?_ _ | refine bw_step ?_ (by assumption) | refine Below.alloc ?_ ?_ _ | refine Below.drew ?_ | refine below_drewN ?_ _ | refine Below.setCell ?_ ?_ _ | refine below_step ?_ (by assumption) ?_ | exact Nat.le_refl _) | omega | (simp; omega) | (simp; done)))
  go_enter Tryz.func19, Tryz.ntmps19
  go_wp2_with fail
  go_loopw [4] (fun i wr => ∃ (k : Nat), k ≤ m ∧ i = .int .i64 k ∧ Hid (∀ t ∈ (x.ks.take k).map Ex.ty, t ≠ 0) ∧ Hid (Below w.heap.size w wr) ∧ Hid (Row wr w.heap.size [.int .i64 op, .int .i64 n, .slice ad m cap]) ∧ Hid (Row wr (w.heap.size + 1) (padT x k))) (fun i _ => m - (intOf i).toNat)
  case atStart => exact ⟨0, Nat.zero_le _, rfl, by rw [List.take_zero]; intro t ht; simp at ht, HB1, RE, RT⟩
  case round =>
   obtain ⟨k, hk, rfl, hT, hB, hRk, hRt⟩ := hrel
   have cE := hRk.out.cell 0 rfl
   have cE2 := hRk.out.cell 2 rfl
   have lE := hRk.out.lt
   by_cases hkm : k < m
   ·
    obtain ⟨y, b, off, hy, hyin, e, hlb, c0, c1, c2⟩ := HIN.out.kidAt hB.out (k := k) (by have := HE.out.2.2.2; omega)
    have hh := HE.out.2.2.1
    rw [e] at hh
    subst hh
    have hys : y.size ≤ N := by
     have := szL_mem hy.out
     have h2 := HX.out
     rw [x.size_eq] at h2
     omega
    have HYS := Lib.hid hys
    have HYI := Lib.hid (hyin.step hB.out)
    have HYO := Lib.hid (ok_kid HOK.out hy.out)
    obtain ⟨t, ht⟩ : ∃ t, y.ty = t := ⟨_, rfl⟩
    have HT2 := Lib.hid ht
    clear hys hyin e ht
    have hk3 : k = 0 ∨ k = 1 ∨ k = 2 := by omega
    rcases hk3 with rfl | rfl | rfl
    ·
     obtain ⟨T0, T1, T2, hpad⟩ : ∃ T0 T1 T2, padT x 0 = [.int .i64 T0, .int .i64 T1, .int .i64 T2] := ⟨_, _, _, rfl⟩
     rw [hpad] at hRt
     have ct0 := hRt.out.cell 0 rfl
     have ct1 := hRt.out.cell 1 rfl
     have ct2 := hRt.out.cell 2 rfl
     have ltt := hRt.out.lt
     clear ct0 ct1 ct2 ltt
     try simp only [Nat.zero_mul, Nat.add_zero] at c0 c1 c2
     go_wp2_with fail
     refine (ih y HYS.out _ HYI.out HYO.out).mono ?_
     rintro e w2 ⟨rfl, hb2⟩
     rw [HT2.out]
     have HB2 : Hid (Below w.heap.size w w2) := hB.out.trans (hb2.mono hB.out.size)
     have RT2 := hRt.out.step hb2
     have hRk2 : Hid (Row w2 w.heap.size [.int .i64 op, .int .i64 n, .slice (some ⟨b, off, none⟩) m cap]) := hRk.out.step hb2
     have ct0 := RT2.cell 0 rfl
     have ct1 := RT2.cell 1 rfl
     have ct2 := RT2.cell 2 rfl
     have zt := RT2.frozen 0
     have ltt := RT2.lt
     clear hb2
     by_cases h0 : t = 0
     ·
      have hr : R = 0 := by rw [← HRR.out]; exact ty_no hy.out (by rw [HT2.out]; exact h0)
      subst hr h0
      go_wp2_with fail
      go_ret
      exact ⟨rfl, by
       have h1 := HB2.out
       have h2 := h1.size
       (repeat' (first | (with_reducible first | exact Below.refl _ _ | assumption | exact Bw.out (by assumption) | refine bw_alloc ?_ _ | refine bw_step ?_ (by assumption) | refine Below.alloc ?_ ?_ _ | refine Below.drew ?_ | refine below_drewN ?_ _ | refine Below.setCell ?_ ?_ _ | refine below_step ?_ (by assumption) ?_ | exact Nat.le_refl _) | omega | (simp; omega) | (simp; done)))⟩
     ·
      have h0' : (t == 0) = false := by simpa using h0
      have H0 := Lib.hid h0
      clear h0
      have RT3 := (Row.set3 RT2 (.int .i64 t)).1
      go_wp2_with fail
      go_roundw
      case rel =>
       refine ⟨0 + 1, by omega, by go_num, ?_, ?_, ?_, ?_⟩
       ·
        intro u hu
        rw [take_snocE hy.out, List.map_append] at hu
        rcases List.mem_append.1 hu with h | h
        ·
         exact hT.out u h
        ·
         simp at h; subst h; rw [HT2.out]; exact H0.out
       ·
        have h1 := HB2.out
        have h2 := h1.size
        show Below _ _ _
        (repeat' (first | (with_reducible first | exact Below.refl _ _ | assumption | exact Bw.out (by assumption) | refine bw_alloc ?_ _ | refine bw_step ?_ (by assumption) | refine Below.alloc ?_ ?_ _ | refine Below.drew ?_ | refine below_drewN ?_ _ | refine Below.setCell ?_ ?_ _ | refine below_step ?_ (by assumption) ?_ | exact Nat.le_refl _) | omega | (simp; omega) | (simp; done)))
       ·
        exact Row.other hRk2.out (by simp) _
       ·
        have e : padT x (0 + 1) = [.int .i64 t, .int .i64 T1, .int .i64 T2] := by
         unfold padT at hpad ⊢
         simp only [padT_get hy.out, HT2.out]
         simp at hpad ⊢
         omega
        show Row _ _ _
        rw [e]
        exact RT3
      case measure => simp [intOf]; omega
    ·
     obtain ⟨T0, T1, T2, hpad⟩ : ∃ T0 T1 T2, padT x 1 = [.int .i64 T0, .int .i64 T1, .int .i64 T2] := ⟨_, _, _, rfl⟩
     rw [hpad] at hRt
     have ct0 := hRt.out.cell 0 rfl
     have ct1 := hRt.out.cell 1 rfl
     have ct2 := hRt.out.cell 2 rfl
     have ltt := hRt.out.lt
     clear ct0 ct1 ct2 ltt
     try simp only [Nat.zero_mul, Nat.add_zero] at c0 c1 c2
     go_wp2_with fail
     refine (ih y HYS.out _ HYI.out HYO.out).mono ?_
     rintro e w2 ⟨rfl, hb2⟩
     rw [HT2.out]
     have HB2 : Hid (Below w.heap.size w w2) := hB.out.trans (hb2.mono hB.out.size)
     have RT2 := hRt.out.step hb2
     have hRk2 : Hid (Row w2 w.heap.size [.int .i64 op, .int .i64 n, .slice (some ⟨b, off, none⟩) m cap]) := hRk.out.step hb2
     have ct0 := RT2.cell 0 rfl
     have ct1 := RT2.cell 1 rfl
     have ct2 := RT2.cell 2 rfl
     have zt := RT2.frozen 1
     have ltt := RT2.lt
     clear hb2
     by_cases h0 : t = 0
     ·
      have hr : R = 0 := by rw [← HRR.out]; exact ty_no hy.out (by rw [HT2.out]; exact h0)
      subst hr h0
      go_wp2_with fail
      go_ret
      exact ⟨rfl, by
       have h1 := HB2.out
       have h2 := h1.size
       (repeat' (first | (with_reducible first | exact Below.refl _ _ | assumption | exact Bw.out (by assumption) | refine bw_alloc ?_ _ | refine bw_step ?_ (by assumption) | refine Below.alloc ?_ ?_ _ | refine Below.drew ?_ | refine below_drewN ?_ _ | refine Below.setCell ?_ ?_ _ | refine below_step ?_ (by assumption) ?_ | exact Nat.le_refl _) | omega | (simp; omega) | (simp; done)))⟩
     ·
      have h0' : (t == 0) = false := by simpa using h0
      have H0 := Lib.hid h0
      clear h0
      have RT3 := (Row.set3 RT2 (.int .i64 t)).2.1
      go_wp2_with fail
      go_roundw
      case rel =>
       refine ⟨1 + 1, by omega, by go_num, ?_, ?_, ?_, ?_⟩
       ·
        intro u hu
        rw [take_snocE hy.out, List.map_append] at hu
        rcases List.mem_append.1 hu with h | h
        ·
         exact hT.out u h
        ·
         simp at h; subst h; rw [HT2.out]; exact H0.out
       ·
        have h1 := HB2.out
        have h2 := h1.size
        show Below _ _ _
        (repeat' (first | (with_reducible first | exact Below.refl _ _ | assumption | exact Bw.out (by assumption) | refine bw_alloc ?_ _ | refine bw_step ?_ (by assumption) | refine Below.alloc ?_ ?_ _ | refine Below.drew ?_ | refine below_drewN ?_ _ | refine Below.setCell ?_ ?_ _ | refine below_step ?_ (by assumption) ?_ | exact Nat.le_refl _) | omega | (simp; omega) | (simp; done)))
       ·
        exact Row.other hRk2.out (by simp) _
       ·
        have e : padT x (1 + 1) = [.int .i64 T0, .int .i64 t, .int .i64 T2] := by
         unfold padT at hpad ⊢
         simp only [padT_get hy.out, HT2.out]
         simp at hpad ⊢
         omega
        show Row _ _ _
        rw [e]
        exact RT3
      case measure => simp [intOf]; omega
    ·
     obtain ⟨T0, T1, T2, hpad⟩ : ∃ T0 T1 T2, padT x 2 = [.int .i64 T0, .int .i64 T1, .int .i64 T2] := ⟨_, _, _, rfl⟩
     rw [hpad] at hRt
     have ct0 := hRt.out.cell 0 rfl
     have ct1 := hRt.out.cell 1 rfl
     have ct2 := hRt.out.cell 2 rfl
     have ltt := hRt.out.lt
     clear ct0 ct1 ct2 ltt
     try simp only [Nat.zero_mul, Nat.add_zero] at c0 c1 c2
     go_wp2_with fail
     refine (ih y HYS.out _ HYI.out HYO.out).mono ?_
     rintro e w2 ⟨rfl, hb2⟩
     rw [HT2.out]
     have HB2 : Hid (Below w.heap.size w w2) := hB.out.trans (hb2.mono hB.out.size)
     have RT2 := hRt.out.step hb2
     have hRk2 : Hid (Row w2 w.heap.size [.int .i64 op, .int .i64 n, .slice (some ⟨b, off, none⟩) m cap]) := hRk.out.step hb2
     have ct0 := RT2.cell 0 rfl
     have ct1 := RT2.cell 1 rfl
     have ct2 := RT2.cell 2 rfl
     have zt := RT2.frozen 2
     have ltt := RT2.lt
     clear hb2
     by_cases h0 : t = 0
     ·
      have hr : R = 0 := by rw [← HRR.out]; exact ty_no hy.out (by rw [HT2.out]; exact h0)
      subst hr h0
      go_wp2_with fail
      go_ret
      exact ⟨rfl, by
       have h1 := HB2.out
       have h2 := h1.size
       (repeat' (first | (with_reducible first | exact Below.refl _ _ | assumption | exact Bw.out (by assumption) | refine bw_alloc ?_ _ | refine bw_step ?_ (by assumption) | refine Below.alloc ?_ ?_ _ | refine Below.drew ?_ | refine below_drewN ?_ _ | refine Below.setCell ?_ ?_ _ | refine below_step ?_ (by assumption) ?_ | exact Nat.le_refl _) | omega | (simp; omega) | (simp; done)))⟩
     ·
      have h0' : (t == 0) = false := by simpa using h0
      have H0 := Lib.hid h0
      clear h0
      have RT3 := (Row.set3 RT2 (.int .i64 t)).2.2
      go_wp2_with fail
      go_roundw
      case rel =>
       refine ⟨2 + 1, by omega, by go_num, ?_, ?_, ?_, ?_⟩
       ·
        intro u hu
        rw [take_snocE hy.out, List.map_append] at hu
        rcases List.mem_append.1 hu with h | h
        ·
         exact hT.out u h
        ·
         simp at h; subst h; rw [HT2.out]; exact H0.out
       ·
        have h1 := HB2.out
        have h2 := h1.size
        show Below _ _ _
        (repeat' (first | (with_reducible first | exact Below.refl _ _ | assumption | exact Bw.out (by assumption) | refine bw_alloc ?_ _ | refine bw_step ?_ (by assumption) | refine Below.alloc ?_ ?_ _ | refine Below.drew ?_ | refine below_drewN ?_ _ | refine Below.setCell ?_ ?_ _ | refine below_step ?_ (by assumption) ?_ | exact Nat.le_refl _) | omega | (simp; omega) | (simp; done)))
       ·
        exact Row.other hRk2.out (by simp) _
       ·
        have e : padT x (2 + 1) = [.int .i64 T0, .int .i64 T1, .int .i64 t] := by
         unfold padT at hpad ⊢
         simp only [padT_get hy.out, HT2.out]
         simp at hpad ⊢
         omega
        show Row _ _ _
        rw [e]
        exact RT3
      case measure => simp [intOf]; omega
   ·
    obtain rfl : k = m := by omega
    rw [List.take_of_length_le (by have := HE.out.2.2.2; omega)] at hT
    have HTY := ty_all hT.out
    obtain ⟨a, ha⟩ : ∃ a, (x.ks.map Ex.ty).getD 0 0 = a := ⟨_, rfl⟩
    obtain ⟨b, hb⟩ : ∃ b, (x.ks.map Ex.ty).getD 1 0 = b := ⟨_, rfl⟩
    obtain ⟨c, hc⟩ : ∃ c, (x.ks.map Ex.ty).getD 2 0 = c := ⟨_, rfl⟩
    have hpad : padT x k = [.int .i64 a, .int .i64 b, .int .i64 c] := by
     unfold padT
     rw [List.take_of_length_le (by have := HE.out.2.2.2; omega), ha, hb, hc]
    rw [hpad] at hRt
    rw [ha, hb, hc, HRR.out, HE.out.1] at HTY
    have ct0 := hRt.out.cell 0 rfl
    have ct1 := hRt.out.cell 1 rfl
    have ct2 := hRt.out.cell 2 rfl
    have ltt := hRt.out.lt
    have hops := HNB.out
    rw [HE.out.1] at hops
    have hcs : op = 1 ∨ op = 2 ∨ op = 3 ∨ op = 4 ∨ op = 5 ∨ op = 6 ∨ op = 7 ∨ op = 8 ∨ op = 9 ∨ op = 10 ∨ op = 11 ∨ op = 12 ∨ op = 13 ∨ op = 14 ∨ op = 15 := by omega
    have HR := Lib.hid HTY
    clear HTY ha hb hc hpad hops
    rcases hcs with rfl | rfl | rfl | rfl | rfl | rfl | rfl | rfl | rfl | rfl | rfl | rfl | rfl | rfl | rfl
    ·
     have HQ := (tyOp_spec HR.out).1 (by simp)
     clear HR
     have HQ2 := Lib.hid HQ
     clear HQ
     go_wp2_with fail
     all_goals go_ret
     all_goals refine ⟨ret_int ?_, hB.out⟩
     all_goals have HQ := HQ2.out
     all_goals clear ih HE hRt hRk HNB hT hB RE RT HB1 HIN HX HOK HRR HQ2 cE cE2 lE ct0 ct1 ct2 ltt hm3 hk hkm
     all_goals (try (rename_i g1; first | replace g1 := beqT g1 | replace g1 := beqF g1 | replace g1 := bneT g1 | replace g1 := bneF g1 | skip))
     all_goals (try (rename_i g2; first | replace g2 := beqT g2 | replace g2 := beqF g2 | replace g2 := bneT g2 | replace g2 := bneF g2 | skip))
     all_goals (try (rename_i g3; first | replace g3 := beqT g3 | replace g3 := beqF g3 | replace g3 := bneT g3 | replace g3 := bneF g3 | skip))
     all_goals (try (rename_i g4; first | replace g4 := beqT g4 | replace g4 := beqF g4 | replace g4 := bneT g4 | replace g4 := bneF g4 | skip))
     all_goals omega
    ·
     have HQ := (tyOp_spec HR.out).2.1 rfl
     clear HR
     have HQ2 := Lib.hid HQ
     clear HQ
     go_wp2_with fail
     all_goals go_ret
     all_goals refine ⟨ret_int ?_, hB.out⟩
     all_goals have HQ := HQ2.out
     all_goals clear ih HE hRt hRk HNB hT hB RE RT HB1 HIN HX HOK HRR HQ2 cE cE2 lE ct0 ct1 ct2 ltt hm3 hk hkm
     all_goals (try (rename_i g1; first | replace g1 := beqT g1 | replace g1 := beqF g1 | replace g1 := bneT g1 | replace g1 := bneF g1 | skip))
     all_goals (try (rename_i g2; first | replace g2 := beqT g2 | replace g2 := beqF g2 | replace g2 := bneT g2 | replace g2 := bneF g2 | skip))
     all_goals (try (rename_i g3; first | replace g3 := beqT g3 | replace g3 := beqF g3 | replace g3 := bneT g3 | replace g3 := bneF g3 | skip))
     all_goals (try (rename_i g4; first | replace g4 := beqT g4 | replace g4 := beqF g4 | replace g4 := bneT g4 | replace g4 := bneF g4 | skip))
     all_goals omega
    ·
     have HQ := (tyOp_spec HR.out).1 (by simp)
     clear HR
     have HQ2 := Lib.hid HQ
     clear HQ
     go_wp2_with fail
     all_goals go_ret
     all_goals refine ⟨ret_int ?_, hB.out⟩
     all_goals have HQ := HQ2.out
     all_goals clear ih HE hRt hRk HNB hT hB RE RT HB1 HIN HX HOK HRR HQ2 cE cE2 lE ct0 ct1 ct2 ltt hm3 hk hkm
     all_goals (try (rename_i g1; first | replace g1 := beqT g1 | replace g1 := beqF g1 | replace g1 := bneT g1 | replace g1 := bneF g1 | skip))
     all_goals (try (rename_i g2; first | replace g2 := beqT g2 | replace g2 := beqF g2 | replace g2 := bneT g2 | replace g2 := bneF g2 | skip))
     all_goals (try (rename_i g3; first | replace g3 := beqT g3 | replace g3 := beqF g3 | replace g3 := bneT g3 | replace g3 := bneF g3 | skip))
     all_goals (try (rename_i g4; first | replace g4 := beqT g4 | replace g4 := beqF g4 | replace g4 := bneT g4 | replace g4 := bneF g4 | skip))
     all_goals omega
    ·
     have HQ := (tyOp_spec HR.out).2.2.1 (by simp)
     clear HR
     have HQ2 := Lib.hid HQ
     clear HQ
     go_wp2_with fail
     all_goals go_ret
     all_goals refine ⟨ret_int ?_, hB.out⟩
     all_goals have HQ := HQ2.out
     all_goals clear ih HE hRt hRk HNB hT hB RE RT HB1 HIN HX HOK HRR HQ2 cE cE2 lE ct0 ct1 ct2 ltt hm3 hk hkm
     all_goals (try (rename_i g1; first | replace g1 := beqT g1 | replace g1 := beqF g1 | replace g1 := bneT g1 | replace g1 := bneF g1 | skip))
     all_goals (try (rename_i g2; first | replace g2 := beqT g2 | replace g2 := beqF g2 | replace g2 := bneT g2 | replace g2 := bneF g2 | skip))
     all_goals (try (rename_i g3; first | replace g3 := beqT g3 | replace g3 := beqF g3 | replace g3 := bneT g3 | replace g3 := bneF g3 | skip))
     all_goals (try (rename_i g4; first | replace g4 := beqT g4 | replace g4 := beqF g4 | replace g4 := bneT g4 | replace g4 := bneF g4 | skip))
     all_goals omega
    ·
     have HQ := (tyOp_spec HR.out).2.2.1 (by simp)
     clear HR
     have HQ2 := Lib.hid HQ
     clear HQ
     go_wp2_with fail
     all_goals go_ret
     all_goals refine ⟨ret_int ?_, hB.out⟩
     all_goals have HQ := HQ2.out
     all_goals clear ih HE hRt hRk HNB hT hB RE RT HB1 HIN HX HOK HRR HQ2 cE cE2 lE ct0 ct1 ct2 ltt hm3 hk hkm
     all_goals (try (rename_i g1; first | replace g1 := beqT g1 | replace g1 := beqF g1 | replace g1 := bneT g1 | replace g1 := bneF g1 | skip))
     all_goals (try (rename_i g2; first | replace g2 := beqT g2 | replace g2 := beqF g2 | replace g2 := bneT g2 | replace g2 := bneF g2 | skip))
     all_goals (try (rename_i g3; first | replace g3 := beqT g3 | replace g3 := beqF g3 | replace g3 := bneT g3 | replace g3 := bneF g3 | skip))
     all_goals (try (rename_i g4; first | replace g4 := beqT g4 | replace g4 := beqF g4 | replace g4 := bneT g4 | replace g4 := bneF g4 | skip))
     all_goals omega
    ·
     have HQ := (tyOp_spec HR.out).2.2.2.1 rfl
     clear HR
     have HQ2 := Lib.hid HQ
     clear HQ
     go_wp2_with fail
     all_goals go_ret
     all_goals refine ⟨ret_int ?_, hB.out⟩
     all_goals have HQ := HQ2.out
     all_goals clear ih HE hRt hRk HNB hT hB RE RT HB1 HIN HX HOK HRR HQ2 cE cE2 lE ct0 ct1 ct2 ltt hm3 hk hkm
     all_goals (try (rename_i g1; first | replace g1 := beqT g1 | replace g1 := beqF g1 | replace g1 := bneT g1 | replace g1 := bneF g1 | skip))
     all_goals (try (rename_i g2; first | replace g2 := beqT g2 | replace g2 := beqF g2 | replace g2 := bneT g2 | replace g2 := bneF g2 | skip))
     all_goals (try (rename_i g3; first | replace g3 := beqT g3 | replace g3 := beqF g3 | replace g3 := bneT g3 | replace g3 := bneF g3 | skip))
     all_goals (try (rename_i g4; first | replace g4 := beqT g4 | replace g4 := beqF g4 | replace g4 := bneT g4 | replace g4 := bneF g4 | skip))
     all_goals omega
    ·
     have HQ := (tyOp_spec HR.out).2.2.2.2.1 rfl
     clear HR
     have HQ2 := Lib.hid HQ
     clear HQ
     go_wp2_with fail
     all_goals go_ret
     all_goals refine ⟨ret_int ?_, hB.out⟩
     all_goals have HQ := HQ2.out
     all_goals clear ih HE hRt hRk HNB hT hB RE RT HB1 HIN HX HOK HRR HQ2 cE cE2 lE ct0 ct1 ct2 ltt hm3 hk hkm
     all_goals (try (rename_i g1; first | replace g1 := beqT g1 | replace g1 := beqF g1 | replace g1 := bneT g1 | replace g1 := bneF g1 | skip))
     all_goals (try (rename_i g2; first | replace g2 := beqT g2 | replace g2 := beqF g2 | replace g2 := bneT g2 | replace g2 := bneF g2 | skip))
     all_goals (try (rename_i g3; first | replace g3 := beqT g3 | replace g3 := beqF g3 | replace g3 := bneT g3 | replace g3 := bneF g3 | skip))
     all_goals (try (rename_i g4; first | replace g4 := beqT g4 | replace g4 := beqF g4 | replace g4 := bneT g4 | replace g4 := bneF g4 | skip))
     all_goals omega
    ·
     have HQ := (tyOp_spec HR.out).2.2.1 (by simp)
     clear HR
     have HQ2 := Lib.hid HQ
     clear HQ
     go_wp2_with fail
     all_goals go_ret
     all_goals refine ⟨ret_int ?_, hB.out⟩
     all_goals have HQ := HQ2.out
     all_goals clear ih HE hRt hRk HNB hT hB RE RT HB1 HIN HX HOK HRR HQ2 cE cE2 lE ct0 ct1 ct2 ltt hm3 hk hkm
     all_goals (try (rename_i g1; first | replace g1 := beqT g1 | replace g1 := beqF g1 | replace g1 := bneT g1 | replace g1 := bneF g1 | skip))
     all_goals (try (rename_i g2; first | replace g2 := beqT g2 | replace g2 := beqF g2 | replace g2 := bneT g2 | replace g2 := bneF g2 | skip))
     all_goals (try (rename_i g3; first | replace g3 := beqT g3 | replace g3 := beqF g3 | replace g3 := bneT g3 | replace g3 := bneF g3 | skip))
     all_goals (try (rename_i g4; first | replace g4 := beqT g4 | replace g4 := beqF g4 | replace g4 := bneT g4 | replace g4 := bneF g4 | skip))
     all_goals omega
    ·
     have HQ := (tyOp_spec HR.out).2.2.1 (by simp)
     clear HR
     have HQ2 := Lib.hid HQ
     clear HQ
     go_wp2_with fail
     all_goals go_ret
     all_goals refine ⟨ret_int ?_, hB.out⟩
     all_goals have HQ := HQ2.out
     all_goals clear ih HE hRt hRk HNB hT hB RE RT HB1 HIN HX HOK HRR HQ2 cE cE2 lE ct0 ct1 ct2 ltt hm3 hk hkm
     all_goals (try (rename_i g1; first | replace g1 := beqT g1 | replace g1 := beqF g1 | replace g1 := bneT g1 | replace g1 := bneF g1 | skip))
     all_goals (try (rename_i g2; first | replace g2 := beqT g2 | replace g2 := beqF g2 | replace g2 := bneT g2 | replace g2 := bneF g2 | skip))
     all_goals (try (rename_i g3; first | replace g3 := beqT g3 | replace g3 := beqF g3 | replace g3 := bneT g3 | replace g3 := bneF g3 | skip))
     all_goals (try (rename_i g4; first | replace g4 := beqT g4 | replace g4 := beqF g4 | replace g4 := bneT g4 | replace g4 := bneF g4 | skip))
     all_goals omega
    ·
     have HQ := (tyOp_spec HR.out).2.2.2.2.2.2.2.2 rfl
     clear HR
     have HQ2 := Lib.hid HQ
     clear HQ
     go_wp2_with fail
     all_goals go_ret
     all_goals refine ⟨ret_int ?_, hB.out⟩
     all_goals have HQ := HQ2.out
     all_goals clear ih HE hRt hRk HNB hT hB RE RT HB1 HIN HX HOK HRR HQ2 cE cE2 lE ct0 ct1 ct2 ltt hm3 hk hkm
     all_goals (try (rename_i g1; first | replace g1 := beqT g1 | replace g1 := beqF g1 | replace g1 := bneT g1 | replace g1 := bneF g1 | skip))
     all_goals (try (rename_i g2; first | replace g2 := beqT g2 | replace g2 := beqF g2 | replace g2 := bneT g2 | replace g2 := bneF g2 | skip))
     all_goals (try (rename_i g3; first | replace g3 := beqT g3 | replace g3 := beqF g3 | replace g3 := bneT g3 | replace g3 := bneF g3 | skip))
     all_goals (try (rename_i g4; first | replace g4 := beqT g4 | replace g4 := beqF g4 | replace g4 := bneT g4 | replace g4 := bneF g4 | skip))
     all_goals omega
    ·
     have HQ := (tyOp_spec HR.out).2.2.2.2.2.1 (by simp)
     clear HR
     have HQ2 := Lib.hid HQ
     clear HQ
     go_wp2_with fail
     all_goals go_ret
     all_goals refine ⟨ret_int ?_, hB.out⟩
     all_goals have HQ := HQ2.out
     all_goals clear ih HE hRt hRk HNB hT hB RE RT HB1 HIN HX HOK HRR HQ2 cE cE2 lE ct0 ct1 ct2 ltt hm3 hk hkm
     all_goals (try (rename_i g1; first | replace g1 := beqT g1 | replace g1 := beqF g1 | replace g1 := bneT g1 | replace g1 := bneF g1 | skip))
     all_goals (try (rename_i g2; first | replace g2 := beqT g2 | replace g2 := beqF g2 | replace g2 := bneT g2 | replace g2 := bneF g2 | skip))
     all_goals (try (rename_i g3; first | replace g3 := beqT g3 | replace g3 := beqF g3 | replace g3 := bneT g3 | replace g3 := bneF g3 | skip))
     all_goals (try (rename_i g4; first | replace g4 := beqT g4 | replace g4 := beqF g4 | replace g4 := bneT g4 | replace g4 := bneF g4 | skip))
     all_goals omega
    ·
     have HQ := (tyOp_spec HR.out).2.2.2.2.2.1 (by simp)
     clear HR
     have HQ2 := Lib.hid HQ
     clear HQ
     go_wp2_with fail
     all_goals go_ret
     all_goals refine ⟨ret_int ?_, hB.out⟩
     all_goals have HQ := HQ2.out
     all_goals clear ih HE hRt hRk HNB hT hB RE RT HB1 HIN HX HOK HRR HQ2 cE cE2 lE ct0 ct1 ct2 ltt hm3 hk hkm
     all_goals (try (rename_i g1; first | replace g1 := beqT g1 | replace g1 := beqF g1 | replace g1 := bneT g1 | replace g1 := bneF g1 | skip))
     all_goals (try (rename_i g2; first | replace g2 := beqT g2 | replace g2 := beqF g2 | replace g2 := bneT g2 | replace g2 := bneF g2 | skip))
     all_goals (try (rename_i g3; first | replace g3 := beqT g3 | replace g3 := beqF g3 | replace g3 := bneT g3 | replace g3 := bneF g3 | skip))
     all_goals (try (rename_i g4; first | replace g4 := beqT g4 | replace g4 := beqF g4 | replace g4 := bneT g4 | replace g4 := bneF g4 | skip))
     all_goals omega
    ·
     have HQ := (tyOp_spec HR.out).2.2.2.2.2.2.1 (by simp)
     clear HR
     have HQ2 := Lib.hid HQ
     clear HQ
     go_wp2_with fail
     all_goals go_ret
     all_goals refine ⟨ret_int ?_, hB.out⟩
     all_goals have HQ := HQ2.out
     all_goals clear ih HE hRt hRk HNB hT hB RE RT HB1 HIN HX HOK HRR HQ2 cE cE2 lE ct0 ct1 ct2 ltt hm3 hk hkm
     all_goals (try (rename_i g1; first | replace g1 := beqT g1 | replace g1 := beqF g1 | replace g1 := bneT g1 | replace g1 := bneF g1 | skip))
     all_goals (try (rename_i g2; first | replace g2 := beqT g2 | replace g2 := beqF g2 | replace g2 := bneT g2 | replace g2 := bneF g2 | skip))
     all_goals (try (rename_i g3; first | replace g3 := beqT g3 | replace g3 := beqF g3 | replace g3 := bneT g3 | replace g3 := bneF g3 | skip))
     all_goals (try (rename_i g4; first | replace g4 := beqT g4 | replace g4 := beqF g4 | replace g4 := bneT g4 | replace g4 := bneF g4 | skip))
     all_goals omega
    ·
     have HQ := (tyOp_spec HR.out).2.2.2.2.2.2.1 (by simp)
     clear HR
     have HQ2 := Lib.hid HQ
     clear HQ
     go_wp2_with fail
     all_goals go_ret
     all_goals refine ⟨ret_int ?_, hB.out⟩
     all_goals have HQ := HQ2.out
     all_goals clear ih HE hRt hRk HNB hT hB RE RT HB1 HIN HX HOK HRR HQ2 cE cE2 lE ct0 ct1 ct2 ltt hm3 hk hkm
     all_goals (try (rename_i g1; first | replace g1 := beqT g1 | replace g1 := beqF g1 | replace g1 := bneT g1 | replace g1 := bneF g1 | skip))
     all_goals (try (rename_i g2; first | replace g2 := beqT g2 | replace g2 := beqF g2 | replace g2 := bneT g2 | replace g2 := bneF g2 | skip))
     all_goals (try (rename_i g3; first | replace g3 := beqT g3 | replace g3 := beqF g3 | replace g3 := bneT g3 | replace g3 := bneF g3 | skip))
     all_goals (try (rename_i g4; first | replace g4 := beqT g4 | replace g4 := beqF g4 | replace g4 := bneT g4 | replace g4 := bneF g4 | skip))
     all_goals omega
    ·
     have HQ := (tyOp_spec HR.out).2.2.2.2.2.2.2.1 rfl
     clear HR
     have HQ2 := Lib.hid HQ
     clear HQ
     go_wp2_with fail
     all_goals go_ret
     all_goals refine ⟨ret_int ?_, hB.out⟩
     all_goals have HQ := HQ2.out
     all_goals clear ih HE hRt hRk HNB hT hB RE RT HB1 HIN HX HOK HRR HQ2 cE cE2 lE ct0 ct1 ct2 ltt hm3 hk hkm
     all_goals (try (rename_i g1; first | replace g1 := beqT g1 | replace g1 := beqF g1 | replace g1 := bneT g1 | replace g1 := bneF g1 | skip))
     all_goals (try (rename_i g2; first | replace g2 := beqT g2 | replace g2 := beqF g2 | replace g2 := bneT g2 | replace g2 := bneF g2 | skip))
     all_goals (try (rename_i g3; first | replace g3 := beqT g3 | replace g3 := beqF g3 | replace g3 := bneT g3 | replace g3 := bneF g3 | skip))
     all_goals (try (rename_i g4; first | replace g4 := beqT g4 | replace g4 := beqF g4 | replace g4 := bneT g4 | replace g4 := bneF g4 | skip))
     all_goals omega
end Go.Proofs.YtcmodmchnokmgaaGreat
