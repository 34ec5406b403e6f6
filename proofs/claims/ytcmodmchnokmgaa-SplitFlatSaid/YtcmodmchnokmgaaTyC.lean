/-
 The walks of package types: of, Infer.
-/
import Derived.Test.YtcmodmchnokmgaaTyB
import Derived.Test.YtcmodmchnokmgaaSize
import Derived.Defers
import Derived.Recover
namespace Go.Proofs.Ytcmodmchnokmgaa
set_option linter.unusedSimpArgs false
set_option linter.unusedVariables false
open Go.RowKit
theorem nodeB_op {op n : Int} {k : Nat} (h : nodeB op n k = true) : 1 ≤ op ∧ op ≤ 15 ∧ k = kidN op := by
 unfold nodeB inE at h
 unfold kidN
 by_cases h1 : op = 1
 ·
  simp [h1] at h ⊢; exact h.1
 by_cases h2 : op = 2
 ·
  simp [h2] at h ⊢; exact h.1
 by_cases h3 : op = 3
 ·
  simp [h3] at h ⊢; exact h.1
 by_cases h4 : op = 15
 ·
  simp [h4] at h ⊢; exact h.1
 by_cases h5 : op = 10
 ·
  simp [h5] at h ⊢; exact h.1
 simp [h1, h2, h3, h4, h5] at h ⊢
 omega
theorem ty_all {x : Ex} (h : ∀ t ∈ x.ks.map Ex.ty, t ≠ 0) : x.ty = tyOp x.op ((x.ks.map Ex.ty).getD 0 0) ((x.ks.map Ex.ty).getD 1 0) ((x.ks.map Ex.ty).getD 2 0) := by
 rw [x.ty_eq, if_neg]
 simp only [List.any_eq_true, not_exists, not_and, decide_eq_true_eq]
 exact h
theorem ty_no {x y : Ex} {k : Nat} (hy : x.ks[k]? = some y) (h : y.ty = 0) : x.ty = 0 := by
 rw [x.ty_eq, if_pos]
 rw [List.any_eq_true]
 exact ⟨0, List.mem_map.2 ⟨y, List.mem_of_getElem? hy, h⟩, rfl⟩
theorem zero_fn (w : World) : (zeroValue 61).run Try.prog w = .ok .nilFunc w := by kernel_rfl
set_option maxRecDepth 100000 in
set_option maxHeartbeats 4000000 in
theorem of_all : ∀ (N : Nat) (x : Ex), x.size ≤ N → ∀ (w : World) (r : Nat), x.In w → x.ok = true → OpsM w r →
  Calls Try.prog 42 #[x.val, .map (some r)] w fun e w' => e = tyE x.ty ∧ Below w.heap.size w w' := by
 intro N
 induction N with
 | zero => intro x hx; have := x.size_pos; omega
 | succ N ih =>
  intro x hx w r hin hok hops
  have HIN := Lib.hid hin
  have HX := Lib.hid hx
  have HOK := Lib.hid hok
  have HOP := Lib.hid hops
  obtain ⟨R, hRR⟩ : ∃ R, x.ty = R := ⟨_, rfl⟩
  have HRR := Lib.hid hRR
  have HNB := Lib.hid (nodeB_op (ok_node hok).1)
  have hm3 := nodeB_kids (ok_node hok).1
  rw [hRR]
  clear hRR hin hx hok hops
  obtain ⟨op, hop⟩ : ∃ op, x.op = op := ⟨_, rfl⟩
  obtain ⟨n, hn⟩ : ∃ n, x.n = n := ⟨_, rfl⟩
  obtain ⟨ad, had⟩ : ∃ ad, x.at' = ad := ⟨_, rfl⟩
  obtain ⟨m, hm⟩ : ∃ m, x.ks.length = m := ⟨_, rfl⟩
  obtain ⟨cap, hcap⟩ : ∃ cap, x.cap = cap := ⟨_, rfl⟩
  rw [show x.val = .agg #[.int .i64 x.op, .int .i64 x.n, .slice x.at' x.ks.length x.cap] from rfl, hop, hn, had, hm, hcap]
  rw [hm] at hm3
  have HE := Lib.hid (And.intro hop (And.intro hn (And.intro had hm)))
  clear hop hn had hm hcap
  have RE : Row (w.alloc (.cells #[.int .i64 op, .int .i64 n, .slice ad m cap] 24)) w.heap.size [.int .i64 op, .int .i64 n, .slice ad m cap] := by (repeat' (first | (with_reducible assumption) | (with_reducible refine Row.new' _ _ _ (by first | rfl | (simp; done) | omega)) | (with_reducible refine Row.alloc ?_ _) | (with_reducible refine Row.drew ?_) | (with_reducible refine Row.drewN ?_ _) | (with_reducible refine Row.step ?_ (by with_reducible assumption))))
  have HB1 : Below w.heap.size w (w.alloc (.cells #[.int .i64 op, .int .i64 n, .slice ad m cap] 24)) := by (repeat' (first | (with_reducible first | exact Below.refl _ _ | assumption | exact Bw.out (by assumption) | refine bw_alloc ?_ _ | refine bw_step ?_ (by assumption) | refine Below.alloc ?_ ?_ _ | refine Below.drew ?_ | refine below_drewN ?_ _ | refine Below.setCell ?_ ?_ _ | refine below_step ?_ (by assumption) ?_ | exact Nat.le_refl _) | omega | (simp; omega) | (simp; done)))
  go_enter Try.func42, Try.ntmps42
  go_wp2_with fail
  go_loopw [5, 7, 11] (fun s _ i wr => ∃ (k : Nat) (v : Value), k ≤ m ∧ i = .int .i64 k ∧ v = s ∧ Hid (OwnV wr (w.heap.size + 1) v ((x.ks.take k).map Ex.ty)) ∧ Hid (∀ t ∈ (x.ks.take k).map Ex.ty, t ≠ 0) ∧ Hid (Below (w.heap.size + 1) (w.alloc (.cells #[.int .i64 op, .int .i64 n, .slice ad m cap] 24)) wr)) (fun _ _ i _ => m - (intOf i).toNat)
  case atStart => exact ⟨0, _, Nat.zero_le _, rfl, rfl, by rw [List.take_zero]; exact OwnV.nil _ _, by rw [List.take_zero]; intro t ht; simp at ht, Below.refl _ _⟩
  case round =>
   obtain ⟨k, v, hk, rfl, hsv, hO, hT, hBe⟩ := hrel
   subst hsv
   have hB : Hid (Below w.heap.size w wr) := HB1.trans (hBe.out.mono (by omega))
   have hRk : Hid (Row wr w.heap.size [.int .i64 op, .int .i64 n, .slice ad m cap]) := RE.below hBe.out (by omega)
   have cE := hRk.out.cell 0 rfl
   have lE := hRk.out.lt
   by_cases hkm : k < m
   ·
    obtain ⟨y, b, off, hy, hyin, e, hlb, c0, c1, c2⟩ := HIN.out.kidAt hB.out (k := k) (by have := HE.out.2.2.2; omega)
    have hh := HE.out.2.2.1
    rw [e] at hh
    subst hh
    have hys : y.size ≤ N := by
     have := szL_mem hy.out
     have h2 := HX.out
     rw [x.size_eq] at h2
     omega
    have HYS := Lib.hid hys
    have HYI := Lib.hid (hyin.step hB.out)
    have HYO := Lib.hid (ok_kid HOK.out hy.out)
    have HOP2 := Lib.hid (HOP.out.step hB.out)
    obtain ⟨t, ht⟩ : ∃ t, y.ty = t := ⟨_, rfl⟩
    have HT2 := Lib.hid ht
    clear hys hyin e ht
    go_wp2_with fail
    have hal : Below wr.heap.size wr (wr.alloc (.cells #[.int .i64 y.op, .int .i64 y.n, .slice y.at' y.ks.length y.cap] 24)) := by (repeat' (first | (with_reducible first | exact Below.refl _ _ | assumption | exact Bw.out (by assumption) | refine bw_alloc ?_ _ | refine bw_step ?_ (by assumption) | refine Below.alloc ?_ ?_ _ | refine Below.drew ?_ | refine below_drewN ?_ _ | refine Below.setCell ?_ ?_ _ | refine below_step ?_ (by assumption) ?_ | exact Nat.le_refl _) | omega | (simp; omega) | (simp; done)))
    refine (ih y HYS.out _ r (HYI.out.step hal) HYO.out (HOP2.out.step hal)).mono ?_
    rintro e w2 ⟨rfl, hb2⟩
    have hb3 := hal.trans (hb2.mono hal.size)
    have HB2 : Hid (Below w.heap.size w w2) := hB.out.trans (hb3.mono hB.out.size)
    have HB3 := Lib.hid (hBe.out.trans (hb3.mono (show w.heap.size + 1 ≤ wr.heap.size by omega)))
    have hs2 := hb3.size
    have HO3 : Hid (OwnV w2 (w.heap.size + 1) v ((x.ks.take k).map Ex.ty)) := hO.out.step hb3
    clear hb2 hb3 hal
    rw [HT2.out]
    by_cases h0 : t = 0
    ·
     have hr : R = 0 := by rw [← HRR.out]; exact ty_no hy.out (by rw [HT2.out]; exact h0)
     subst hr h0
     rw [tyE_no]
     (try simp only [Exit.inBlock, Exit.then])
     exact ⟨rfl, rfl, HB2.out⟩
    ·
     rw [tyE_yes h0]
     have H0 := Lib.hid h0
     clear h0
     go_wp2_with (at_builtin; refine wpList_append_int rfl _ _ _ rfl Try.underlying56 (w.heap.size + 1) _ ((x.ks.take k).map Ex.ty) rfl (HO3.out.alloc _) w2.heap.size 1 t rfl ((Row.new' w2 [_] _ rfl).cell 0 rfl) (by simp; omega) (by simp; omega) ?_; intro v' w5 hown1 hbl1 hsz1)
     have H7 := Lib.hid (hbl1 _ (HB3.out.alloc (by omega) _))
     have hsn : ((x.ks.take k).map Ex.ty) ++ [t] = (x.ks.take (k + 1)).map Ex.ty := by rw [take_snocE hy.out, List.map_append, ← HT2.out]; rfl
     rw [hsn] at hown1
     have H1 := Lib.hid hown1
     have HT5 : Hid (∀ t ∈ (x.ks.take (k + 1)).map Ex.ty, t ≠ 0) := fun u hu => by
      rw [← hsn] at hu
      rcases List.mem_append.1 hu with h | h
      ·
       exact hT.out u h
      ·
       simp at h; subst h; exact H0.out
     clear hown1 hbl1 hsn
     go_wp2_with fail
     go_roundw
     case rel => exact ⟨k + 1, v', by omega, by go_num, rfl, H1, HT5, H7⟩
     case measure => simp [intOf]; omega
   ·
    obtain rfl : k = m := by omega
    rw [List.take_of_length_le (by have := HE.out.2.2.2; omega)] at hO hT
    have HTY := Lib.hid (ty_all hT.out)
    obtain ⟨f, hmap, hlook⟩ := HOP.out.step hB.out
    obtain ⟨ha, hb, hkn⟩ := HNB.out
    rw [HE.out.1] at ha hb hkn HTY
    rw [HE.out.2.2.2] at hkn
    obtain ⟨u, hu, F, cs, rfl, hcf, hfn⟩ := hlook op ha hb
    obtain ⟨a2, c2, rfl, hsl⟩ := hO.out.sl.sized k (by rw [List.length_map]; exact HE.out.2.2.2)
    have HFN := Lib.hid hfn
    have HCF := Lib.hid hcf
    have HLK := Lib.hid hu
    have HSL := Lib.hid hsl.sl
    have HKN := Lib.hid hkn
    have HRG : Hid (∀ t ∈ x.ks.map Ex.ty, 1 ≤ t ∧ t ≤ 3) := fun t ht => by
     obtain ⟨y, hy, rfl⟩ := List.mem_map.1 ht
     have := y.ty_range
     have := hT.out _ ht
     omega
    have hzr := zero_fn
    clear hlook hu hfn hcf ha hb hkn hsl hm3
    go_wp2_with (refine wpList_lookup_imap _ rfl _ _ 79 false rfl 3 61 Try.underlying79 Try.underlying3 _ (hzr _) _ _ rfl hmap _ rfl ?_; rw [HLK.out])
    rw [HCF.out]
    simp only [Oper.upon]
    rw [HKN.out] at HSL
    rw [HKN.out]
    refine (HFN.out _ (Below.refl _ _) _ a2 c2 HSL.out HRG.out).mono ?_
    rintro e w3 ⟨rfl, hb3⟩
    rw [← HTY.out, HRR.out]
    have HB3 : Below w.heap.size w w3 := hB.out.trans (hb3.mono hB.out.size)
    by_cases h0 : R = 0
    ·
     subst h0
     rw [tyE_no]
     (try simp only [Exit.inBlock, Exit.then])
     exact ⟨rfl, rfl, HB3⟩
    ·
     rw [tyE_yes h0]
     have H0 := Lib.hid h0
     clear h0
     go_wp2_with fail
     go_ret
     exact ⟨(tyE_yes H0.out).symm, HB3⟩
theorem assert_untyped (w : World) : Sem.run Try.prog (Instr.typeAssert (.iface 77 (.agg #[])) 20 77 true) w = .ok (.tuple #[.agg #[], .bool true]) w := by kernel_rfl
/-- The deferred closure of Infer: where the call returns it turns nothing. -/
theorem infer1_idle (p q : Addr) (w : World) :
  CallsD Try.prog 41 #[.pointer (some p), .pointer (some q)] .returning w fun e u' w' => e = .returned (.tuple #[]) ∧ u' = .returning ∧ w' = w := by
 refine callsD_of_wpS Try.func41 rfl fun c₀ cs hu => ?_
 apply wpS_seq
 apply wpS_region
 simp [wpOpsS, go_sem, recoverD, hu, Try.ntmps41, Exit.thenS]
 refine wpS_of_wp ?_
 go_wp2_with fail
 cases c₀
 simp_all [bodyPostS, results, Try.results41]
set_option maxRecDepth 100000 in
set_option maxHeartbeats 1600000 in
theorem infer1_panic (p q : Nat) (hne : p ≠ q) (older : List PanicEntry) (w : World) (hp : Row w p [.int .i64 0]) (hq : Row w q [.int .i64 0]) :
  CallsD Try.prog 41 #[.pointer (some ⟨p, 0, none⟩), .pointer (some ⟨q, 0, none⟩)] (.panicking ({ v := .iface 77 (.agg #[]), recovered := false } :: older)) w fun e u' w' =>
   e = .returned (.tuple #[]) ∧ u' = .panicking ({ v := .iface 77 (.agg #[]), recovered := true } :: older) ∧ Row w' p [.int .i64 0] ∧ Row w' q [.int .i64 20] ∧ Ch (fun k => k = p ∨ k = q) w w' := by
 have cp := hp.cell 0 rfl
 have cq := hq.cell 0 rfl
 have fp := hp.frozen 0
 have fq := hq.frozen 0
 have lp := hp.lt
 have lq := hq.lt
 have hta := assert_untyped
 refine callsD_of_wpS Try.func41 rfl fun c₀ cs hu => ?_
 apply wpS_seq
 apply wpS_region
 simp [wpOpsS, go_sem, recoverD, hu, Try.ntmps41, Exit.thenS]
 refine wpS_of_wp ?_
 go_wp2_with fail
 refine ⟨rfl, _, rfl, .tuple #[], by simp [results, Try.results41], rfl, rfl, ?_, ?_, ?_⟩
 ·
  exact Row.alloc (Row.other (hp.set1 _) hne _) _
 ·
  exact Row.alloc ((hq.other (Ne.symm hne) _).set1 _) _
 ·
  exact (((Ch.refl (fun k => k = p ∨ k = q) w).setCell (p := ⟨p, 0, none⟩) (Or.inl rfl) _).setCell (p := ⟨q, 0, none⟩) (Or.inr rfl) _).alloc _
theorem leaves_congr {P : Program} {fn : Func} {t1 t2 : Array Value} {R : Ending → World → Prop} (h : results fn t1 = results fn t2) : ∀ (ds : List Deferred) (u : FrameMode) (w : World), Leaves P fn t1 R ds u w → Leaves P fn t2 R ds u w := by
 intro ds
 induction ds with
 | nil =>
  intro u w hl
  cases u with
  | returning => simpa only [Leaves, h] using hl
  | panicking c => exact hl
  | run => exact hl
 | cons d ds ih =>
  rintro u w ⟨hu, fv, cap, f, args, h1, h2, h3⟩
  refine ⟨hu, fv, cap, f, args, h1, h2, h3.mono fun e u' w' he => ?_⟩
  cases e with
  | returned v => exact ih _ _ he
  | panicked c => exact ih _ _ he
  | outgrown => exact he
set_option maxRecDepth 100000 in
set_option maxHeartbeats 4000000 in
theorem infer_any (x : Ex) (w : World) (h : x.In w) :
  Calls Try.prog 16 #[x.val] w fun e w' => e = .returned (.tuple #[.int .i64 (inferV x), .int .i64 (inferE x)]) ∧ Below w.heap.size w w' := by
 have HIN := Lib.hid h
 have hmf : ∀ (fn : Fn) (first cap : Array Value) (w : World), (Instr.makeFunc fn first cap).run Try.prog w = .ok (.func fn first cap) w := fun _ _ _ _ => rfl
 have hxv : x.val = .agg #[.int .i64 x.op, .int .i64 x.n, .slice x.at' x.ks.length x.cap] := rfl
 have HTB := Lib.hid (p_valid x)
 rw [hxv]
 obtain ⟨V, hV⟩ : ∃ V, inferV x = V := ⟨_, rfl⟩
 obtain ⟨E, hE⟩ : ∃ E, inferE x = E := ⟨_, rfl⟩
 rw [hV, hE]
 have HV := Lib.hid hV
 have HE := Lib.hid hE
 clear h hV hE
 obtain ⟨B, hB⟩ : ∃ B, validE x = B := ⟨_, rfl⟩
 have HB := Lib.hid hB
 clear hB
 go_enter_defers Try.func16, Try.ntmps16
 go_wp2_with fail
 have D1 : Below w.heap.size w (w.alloc (.cells #[.int .i64 x.op, .int .i64 x.n, .slice x.at' x.ks.length x.cap] 24)) := by (repeat' (first | (with_reducible first | exact Below.refl _ _ | assumption | exact Bw.out (by assumption) | refine bw_alloc ?_ _ | refine bw_step ?_ (by assumption) | refine Below.alloc ?_ ?_ _ | refine Below.drew ?_ | refine below_drewN ?_ _ | refine Below.setCell ?_ ?_ _ | refine below_step ?_ (by assumption) ?_ | exact Nat.le_refl _) | omega | (simp; omega) | (simp; done)))
 have D2 := D1.alloc D1.size (.cells #[.int .i64 0] 3)
 have D3 := D2.alloc D2.size (.cells #[.int .i64 0] 35)
 refine (p_valid x _ (HIN.out.step D3)).mono ?_
 rintro e w1 ⟨rfl, hb1⟩
 have R_e_1 : Row w1 (w.heap.size) [.int .i64 x.op, .int .i64 x.n, .slice x.at' x.ks.length x.cap] := by (repeat' (first | (with_reducible assumption) | (with_reducible refine Row.new' _ _ _ (by first | rfl | (simp; done) | omega)) | (with_reducible first | refine Row.alloc ?_ _ | refine Row.drew ?_ | refine Row.step ?_ (by assumption) | refine Row.drewN ?_ _) | (with_reducible refine Row.set2' ?_ _ _; first | exact ⟨_, _, by assumption⟩ | exact ⟨_, _, Row.alloc (by assumption) _⟩) | (with_reducible refine Row.other ?_ (by first | omega | (simp; omega)) _)))
 have c_e_0_1 := R_e_1.cell 0 rfl
 have c_e_1_1 := R_e_1.cell 1 rfl
 have c_e_2_1 := R_e_1.cell 2 rfl
 have l_e_1 := R_e_1.lt
 have R_t_1 : Row w1 (w.heap.size + 1) [.int .i64 (0)] := by (repeat' (first | (with_reducible assumption) | (with_reducible refine Row.new' _ _ _ (by first | rfl | (simp; done) | omega)) | (with_reducible first | refine Row.alloc ?_ _ | refine Row.drew ?_ | refine Row.step ?_ (by assumption) | refine Row.drewN ?_ _) | (with_reducible refine Row.set2' ?_ _ _; first | exact ⟨_, _, by assumption⟩ | exact ⟨_, _, Row.alloc (by assumption) _⟩) | (with_reducible refine Row.other ?_ (by first | omega | (simp; omega)) _)))
 have c_t_0_1 := R_t_1.cell 0 rfl
 have z_t_0_1 := R_t_1.frozen 0
 have l_t_1 := R_t_1.lt
 have R_r_1 : Row w1 (w.heap.size + 1 + 1) [.int .i64 (0)] := by (repeat' (first | (with_reducible assumption) | (with_reducible refine Row.new' _ _ _ (by first | rfl | (simp; done) | omega)) | (with_reducible first | refine Row.alloc ?_ _ | refine Row.drew ?_ | refine Row.step ?_ (by assumption) | refine Row.drewN ?_ _) | (with_reducible refine Row.set2' ?_ _ _; first | exact ⟨_, _, by assumption⟩ | exact ⟨_, _, Row.alloc (by assumption) _⟩) | (with_reducible refine Row.other ?_ (by first | omega | (simp; omega)) _)))
 have c_r_0_1 := R_r_1.cell 0 rfl
 have z_r_0_1 := R_r_1.frozen 0
 have l_r_1 := R_r_1.lt
 have HB1 : Below w.heap.size w w1 := by (repeat' (first | (with_reducible first | exact Below.refl _ _ | assumption | exact Bw.out (by assumption) | refine bw_alloc ?_ _ | refine bw_step ?_ (by assumption) | refine Below.alloc ?_ ?_ _ | refine Below.drew ?_ | refine below_drewN ?_ _ | refine Below.setCell ?_ ?_ _ | refine below_step ?_ (by assumption) ?_ | exact Nat.le_refl _) | omega | (simp; omega) | (simp; done)))
 rw [HB.out]
 cases B with
 | false =>
  have hv : V = 0 := by rw [← HV.out]; unfold inferV; rw [HB.out]; rfl
  have he : E = 1 := by rw [← HE.out]; unfold inferE; rw [HB.out]; rfl
  subst hv he
  have c1 := (Row.other (R_t_1.set1 (.int .i64 0)) (a := ⟨w.heap.size + 1 + 1, 0, none⟩) (by simp) (.int .i64 1)).cell 0 rfl
  have c2 := ((R_r_1.other (a := ⟨w.heap.size + 1, 0, none⟩) (by simp) (.int .i64 0)).set1 (.int .i64 1)).cell 0 rfl
  have D4 : Below w.heap.size w ((w1.setCell ⟨w.heap.size + 1, 0, none⟩ (.int .i64 0)).setCell ⟨w.heap.size + 1 + 1, 0, none⟩ (.int .i64 1)) := by (repeat' (first | (with_reducible first | exact Below.refl _ _ | assumption | exact Bw.out (by assumption) | refine bw_alloc ?_ _ | refine bw_step ?_ (by assumption) | refine Below.alloc ?_ ?_ _ | refine Below.drew ?_ | refine below_drewN ?_ _ | refine Below.setCell ?_ ?_ _ | refine below_step ?_ (by assumption) ?_ | exact Nat.le_refl _) | omega | (simp; omega) | (simp; done)))
  go_wp2_with fail
  refine ⟨.tuple #[.int .i64 0, .int .i64 1], ?_, rfl, D4⟩
  simp [results, Try.results16, go_sem, c1, c2]
 | true =>
  have hv : V = x.ty := by rw [← HV.out]; unfold inferV; rw [if_pos HB.out]
  have he : E = if x.ty = 0 then 20 else 0 := by rw [← HE.out]; unfold inferE; rw [if_pos HB.out]
  have HOK := Lib.hid (validE_ok HB.out)
  obtain ⟨T, hT⟩ : ∃ T, x.ty = T := ⟨_, rfl⟩
  have HT := Lib.hid hT
  rw [hT] at hv he
  have HHE := Lib.hid he
  subst hv
  clear he hT
  go_wp2_with fail
  have hS : w1.drew.cell? ⟨w.heap.size, 0, none⟩ = some (.int .i64 x.op) ∧ w1.drew.cell? ⟨w.heap.size, 1, none⟩ = some (.int .i64 x.n) ∧ w1.drew.cell? ⟨w.heap.size, 2, none⟩ = some (.slice x.at' x.ks.length x.cap) := ⟨c_e_0_1, c_e_1_1, c_e_2_1⟩
  refine AnyJ.beginP (fun w' : World => w'.cell? ⟨w.heap.size, 0, none⟩ = some (.int .i64 x.op) ∧ w'.cell? ⟨w.heap.size, 1, none⟩ = some (.int .i64 x.n) ∧ w'.cell? ⟨w.heap.size, 2, none⟩ = some (.slice x.at' x.ks.length x.cap)) (fun q => decide (q ≤ 2)) (by kernel_rfl) hS (fun hS => ?_)
  refine AnyJ.takeD (i := 0) (d := some 8) (v := ?_) rfl (by kernel_rfl) (by kernel_rfl) (by kernel_rfl) (by kernel_rfl) (by kernel_rfl) (fun c a w h => leaves_congr (by simp [results, Try.results16, Act.put]) _ _ _ h) (Or.inl ⟨by kernel_rfl, ?_⟩) hS ?_
  rotate_left
  ·
   intro w' hS
   obtain ⟨sF0, sF1, sF2⟩ := hS
   go_simp
   try with_reducible rfl
  refine AnyJ.one (i := 1) (by kernel_rfl) rfl (fun Kz hKz => ?_)
  go_simp
  refine (operators_any _).mono ?_
  rintro e w2 ⟨r, rfl, hO, hb2⟩
  have Hb2 : Below w1.heap.size w1 w2 := ((Below.refl w1.heap.size w1).drew).trans hb2
  have HB2 : Below w.heap.size w w2 := HB1.trans (Hb2.mono HB1.size)
  have Re2 := R_e_1.step Hb2
  have Rt2 := R_t_1.step Hb2
  have Rr2 := R_r_1.step Hb2
  refine hKz _ _ (fun _ => ⟨Re2.cell 0 rfl, Re2.cell 1 rfl, Re2.cell 2 rfl⟩) ?_
  clear hKz Kz hb2 hS
  refine AnyJ.one (i := 2) (by kernel_rfl) rfl (fun Kz hKz => ?_)
  go_simp
  refine (of_all x.size x (Nat.le_refl _) w2 r (HIN.out.step HB2) HOK.out hO).mono ?_
  rintro e w3 ⟨rfl, hb3⟩
  rw [HT.out]
  have HB3 : Below w.heap.size w w3 := HB2.trans (hb3.mono HB2.size)
  have Re3 := Re2.step hb3
  have Rt3 := Rt2.step hb3
  have Rr3 := Rr2.step hb3
  have lt3 := Rt3.lt
  have lr3 := Rr3.lt
  by_cases h0 : V = 0
  ·
   subst h0
   have he : E = 20 := HHE.out
   subst he
   rw [tyE_no]
   simp only []
   clear hKz Kz
   (try simp only [Exit.inBlock, Exit.then])
   refine leaves_cons (f := 41) (args := #[.pointer (some ⟨w.heap.size + 1, 0, none⟩), .pointer (some ⟨w.heap.size + 1 + 1, 0, none⟩)]) (by simp) (by simp [go_sem]) ?_
   refine (infer1_panic _ _ (by simp) [] _ Rt3 Rr3).mono ?_
   rintro e u' w4 ⟨rfl, rfl, hp, hq, hC⟩
   refine ⟨.tuple #[.int .i64 0, .int .i64 20], ?_, rfl, hC.below HB3 (fun k hk => by omega) HB3.size⟩
   have c1 := hp.cell 0 rfl
   have c2 := hq.cell 0 rfl
   simp [results, Try.results16, go_sem, c1, c2]
  ·
   have he : E = 0 := by rw [HHE.out]; simp [h0]
   subst he
   rw [tyE_yes h0]
   have zt3 := Rt3.frozen 0
   have zr3 := Rr3.frozen 0
   have ct3 := Rt3.cell 0 rfl
   have cr3 := Rr3.cell 0 rfl
   refine hKz _ _ (fun _ => ⟨Re3.cell 0 rfl, Re3.cell 1 rfl, Re3.cell 2 rfl⟩) ?_
   clear hKz Kz
   refine AnyJ.one (i := 3) (by kernel_rfl) rfl (fun Kz hKz => ?_)
   go_simp
   refine hKz _ _ (fun h => by cases h) ?_
   clear hKz Kz
   refine AnyJ.one (i := 4) (by kernel_rfl) rfl (fun Kz hKz => ?_)
   go_simp
   refine hKz _ _ (fun h => by cases h) ?_
   clear hKz Kz
   refine AnyJ.done (by kernel_rfl) ?_ _
   try simp only [Act.put, List.setIfInBounds_toArray, List.set_cons_zero, List.set_cons_succ]
   go_wp2_with fail
   refine leaves_cons (f := 41) (args := #[.pointer (some ⟨w.heap.size + 1, 0, none⟩), .pointer (some ⟨w.heap.size + 1 + 1, 0, none⟩)]) (by simp) (by simp [go_sem]) ?_
   refine (infer1_idle _ _ _).mono ?_
   rintro e u' w4 ⟨rfl, rfl, rfl⟩
   have c1 := (Row.other (Rt3.set1 (.int .i64 V)) (a := ⟨w.heap.size + 1 + 1, 0, none⟩) (by simp) (.int .i64 0)).cell 0 rfl
   have c2 := ((Rr3.other (a := ⟨w.heap.size + 1, 0, none⟩) (by simp) (.int .i64 V)).set1 (.int .i64 0)).cell 0 rfl
   have D4 : Below w.heap.size w ((w3.setCell ⟨w.heap.size + 1, 0, none⟩ (.int .i64 V)).setCell ⟨w.heap.size + 1 + 1, 0, none⟩ (.int .i64 0)) := by (repeat' (first | (with_reducible first | exact Below.refl _ _ | assumption | exact Bw.out (by assumption) | refine bw_alloc ?_ _ | refine bw_step ?_ (by assumption) | refine Below.alloc ?_ ?_ _ | refine Below.drew ?_ | refine below_drewN ?_ _ | refine Below.setCell ?_ ?_ _ | refine below_step ?_ (by assumption) ?_ | exact Nat.le_refl _) | omega | (simp; omega) | (simp; done)))
   refine ⟨.tuple #[.int .i64 V, .int .i64 0], ?_, rfl, D4⟩
   simp [results, Try.results16, go_sem, c1, c2]
end Go.Proofs.Ytcmodmchnokmgaa
