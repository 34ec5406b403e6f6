/-
  ShareTop: the channels that Top names are different, as many as asked, or all, and have the sum that it says; no channels, as many or fewer, whichever they are, have together greater shares.
  No condition: for every input.
-/
import Derived.Test.YtegkonedeledeaaMore
import Derived.Test.YtegkonedeledeaaTopR
import Derived.Test.YtegkonedeledeaaMapI
import Derived.Test.YtegkonedeledeaaSel
import Derived.Test.YtegkonedeledeaaWorstC
import Derived.Test.YtegkonedeledeaaFence
namespace Go.Proofs.Ytegkonedeledeaa
set_option linter.unusedSimpArgs false
set_option linter.unusedVariables false
open Go.ChangeShapes Go.WideShapes Go.ChangeAt Go.RowKit

theorem SlI.kept {w w' : World} {row : Option Nat} {a : Option Addr} {n : Nat} {zs : List Int} (h : SlI w a n zs) (hg : w.grownBy w' row) (hr : ∀ r, row = some r → ∃ o : Obj, w.heap[r]? = some o ∧ o.isCells = false) : SlI w' a n zs := by
  refine ⟨h.1, fun i hi => ?_⟩
  obtain ⟨b, off, ha, hc⟩ := h.2 i hi
  refine ⟨b, off, ha, ?_⟩
  have e : w'.heap[b]? = w.heap[b]? := hg.block b (World.block_lt_of_cell? w _ hc) (fun e => by
    obtain ⟨o, ho, hn⟩ := hr b e.symm
    cases o with
    | cells cs T fr => simp [Obj.isCells] at hn
    | _ => simp [World.cell?, ho] at hc)
  rw [← hc]; simp only [World.cell?]; rw [e]
theorem IMap.notCells {w : World} {r : Nat} {f : List (Int × Value)} (h : IMap w r f) : ∃ o : Obj, w.heap[r]? = some o ∧ o.isCells = false := by
  obtain ⟨es, c, hb, _⟩ := h
  exact ⟨_, hb, rfl⟩
theorem atL_drop {zs l : List Int} {k : Nat} (hk : k < l.length) : (atL zs (l.drop k)).sum = shr zs (l.getD k 0) + (atL zs (l.drop (k + 1))).sum := by
  rw [drop_at hk]
  simp [atL, shr]
theorem cell_kept' {w w' : World} {row : Option Nat} {b o : Nat} {v : Value} (h : w.cell? ⟨b, o, none⟩ = some v) (hg : w.grownBy w' row) (hr : ∀ r, row = some r → ∃ o : Obj, w.heap[r]? = some o ∧ o.isCells = false) : w'.cell? ⟨b, o, none⟩ = some v := by
  have e : w'.heap[b]? = w.heap[b]? := hg.block b (World.block_lt_of_cell? w _ h) (fun e => by
    obtain ⟨o, ho, hn⟩ := hr b e.symm
    cases o with
    | cells cs T fr => simp [Obj.isCells] at hn
    | _ => simp [World.cell?, ho] at h)
  rw [← h]; simp only [World.cell?]; rw [e]
theorem underlying_map : Try.prog.underlying 38 = some (.map 3 4) := Try.underlying38
theorem zero_bool (w : World) : (zeroValue 4).run Try.prog w = .ok (.bool false) w := by kernel_rfl


set_option maxRecDepth 100000 in
set_option maxHeartbeats 12800000 in
theorem stop_walk (v : Value) (zs : List Int) (y o : Int) (_ : ∀ z ∈ zs, -9223372036854775808 ≤ z ∧ z ≤ 9223372036854775807) (wy : (Lit.int .u8 y).wf = true) (wo : (Lit.int .u32 o).wf = true) (w : World) (hv : SlV w v zs) :
    Calls Try.prog 4 #[v, .int .u8 y, .int .u32 o] w fun e w' => e = .returned (.bool true) ∧ Below w.heap.size w w' := by
  obtain ⟨A, cap, rfl, hcap1, hcap2, K⟩ := hv.c
  unfold maxLen at hcap2
  obtain ⟨y1, y2⟩ := bd_u8 wy
  obtain ⟨o1, o2⟩ := bd_u32 wo
  obtain ⟨k, hk⟩ : ∃ k : Nat, y % 31 = (k : Int) := ⟨(y % 31).toNat, by omega⟩
  have hk30 : k ≤ 30 := by omega
  clear hv wy wo
  by_cases hl : zs.length ≤ 30
  · obtain ⟨n, hn⟩ : ∃ n, zs.length = n := ⟨_, rfl⟩
    rw [hn] at hl hcap1 K ⊢
    have HLN := Lib.hid hn
    clear hn
    cases hb : sharesB zs with
    | false =>
      have HB := Lib.hid hb
      clear hb
      go_enter Try.func4, Try.ntmps4
      go_wp2_with fail
      refine (head_any _).mono ?_
      rintro e w1 ⟨rfl, hb1⟩
      replace K := K.step (show Below w.heap.size w w1 by (repeat' (first | (with_reducible exact Below.refl _ _) | (with_reducible assumption) | (with_reducible exact Bw.out (by with_reducible assumption)) | (with_reducible refine bw_alloc ?_ _) | (with_reducible refine bw_step ?_ (by with_reducible assumption)) | (with_reducible refine Below.alloc ?_ ?_ _) | (with_reducible refine Below.drew ?_) | (with_reducible refine below_drewN ?_ _) | (with_reducible refine Below.setCell ?_ ?_ _) | (with_reducible refine below_step ?_ (by with_reducible assumption) ?_) | (with_reducible exact Nat.le_refl _) | omega | (simp; omega) | (simp; done))))
      have HB1 : Below w.heap.size w w1 := by (repeat' (first | (with_reducible exact Below.refl _ _) | (with_reducible assumption) | (with_reducible exact Bw.out (by with_reducible assumption)) | (with_reducible refine bw_alloc ?_ _) | (with_reducible refine bw_step ?_ (by with_reducible assumption)) | (with_reducible refine Below.alloc ?_ ?_ _) | (with_reducible refine Below.drew ?_) | (with_reducible refine below_drewN ?_ _) | (with_reducible refine Below.setCell ?_ ?_ _) | (with_reducible refine below_step ?_ (by with_reducible assumption) ?_) | (with_reducible exact Nat.le_refl _) | omega | (simp; omega) | (simp; done)))
      go_wp2_with fail
      refine (R_shares_any _ _ _ zs _ (by omega) (SlC.sl (K.step (by (repeat' (first | (with_reducible exact Below.refl _ _) | (with_reducible assumption) | (with_reducible exact Bw.out (by with_reducible assumption)) | (with_reducible refine bw_alloc ?_ _) | (with_reducible refine bw_step ?_ (by with_reducible assumption)) | (with_reducible refine Below.alloc ?_ ?_ _) | (with_reducible refine Below.drew ?_) | (with_reducible refine below_drewN ?_ _) | (with_reducible refine Below.setCell ?_ ?_ _) | (with_reducible refine below_step ?_ (by with_reducible assumption) ?_) | (with_reducible exact Nat.le_refl _) | omega | (simp; omega) | (simp; done))))))).mono ?_
      rintro e w' ⟨rfl, rfl⟩
      rw [HB.out]
      go_wp2_with fail
      go_ret
      refine ⟨(by first | rfl | exact ret_bool (by first | rfl | (simp; done) | (simp; omega))), ?_⟩
      (repeat' (first | (with_reducible exact Below.refl _ _) | (with_reducible assumption) | (with_reducible exact Bw.out (by with_reducible assumption)) | (with_reducible refine bw_alloc ?_ _) | (with_reducible refine bw_step ?_ (by with_reducible assumption)) | (with_reducible refine Below.alloc ?_ ?_ _) | (with_reducible refine Below.drew ?_) | (with_reducible refine below_drewN ?_ _) | (with_reducible refine Below.setCell ?_ ?_ _) | (with_reducible refine below_step ?_ (by with_reducible assumption) ?_) | (with_reducible exact Nat.le_refl _) | omega | (simp; omega) | (simp; done)))
    | true =>
      obtain ⟨_, hin⟩ := sharesB_in hb
      have HIN := Lib.hid hin
      have HB := Lib.hid hb
      obtain ⟨m, hm⟩ : ∃ m, min k n = m := ⟨_, rfl⟩
      have HM := Lib.hid hm
      have hmm : (m = k ∧ k ≤ n) ∨ (m = n ∧ n < k) := by omega
      obtain ⟨T, hT⟩ : ∃ T, topS zs k = T := ⟨_, rfl⟩
      have ht1 := topS_nonneg hin k
      have ht2 : topS zs k ≤ 12000 := by
        have h1 : topS zs k = (atL zs (topL zs k)).sum := rfl
        have h2 := (atL_sum_bounds hin (topL zs k)).2
        have h3 := topL_length zs k
        omega
      rw [hT] at ht1 ht2
      have HT := Lib.hid hT
      have HLT : Hid ((topL zs k).length = m) := by show _ = _; rw [topL_length, HLN.out]; exact hm
      have hmn : m ≤ n := by omega
      have hmk : m ≤ k := by omega
      clear hb hin hm hT
      have HMM := Lib.hid hmm
      clear hmm
      go_enter Try.func4, Try.ntmps4
      go_wp2_with fail
      refine (head_any _).mono ?_
      rintro e w1 ⟨rfl, hb1⟩
      replace K := K.step (show Below w.heap.size w w1 by (repeat' (first | (with_reducible exact Below.refl _ _) | (with_reducible assumption) | (with_reducible exact Bw.out (by with_reducible assumption)) | (with_reducible refine bw_alloc ?_ _) | (with_reducible refine bw_step ?_ (by with_reducible assumption)) | (with_reducible refine Below.alloc ?_ ?_ _) | (with_reducible refine Below.drew ?_) | (with_reducible refine below_drewN ?_ _) | (with_reducible refine Below.setCell ?_ ?_ _) | (with_reducible refine below_step ?_ (by with_reducible assumption) ?_) | (with_reducible exact Nat.le_refl _) | omega | (simp; omega) | (simp; done))))
      have HB1 : Below w.heap.size w w1 := by (repeat' (first | (with_reducible exact Below.refl _ _) | (with_reducible assumption) | (with_reducible exact Bw.out (by with_reducible assumption)) | (with_reducible refine bw_alloc ?_ _) | (with_reducible refine bw_step ?_ (by with_reducible assumption)) | (with_reducible refine Below.alloc ?_ ?_ _) | (with_reducible refine Below.drew ?_) | (with_reducible refine below_drewN ?_ _) | (with_reducible refine Below.setCell ?_ ?_ _) | (with_reducible refine below_step ?_ (by with_reducible assumption) ?_) | (with_reducible exact Nat.le_refl _) | omega | (simp; omega) | (simp; done)))
      go_wp2_with fail
      refine (R_shares_any _ _ _ zs _ (by omega) (SlC.sl (K.step (by (repeat' (first | (with_reducible exact Below.refl _ _) | (with_reducible assumption) | (with_reducible exact Bw.out (by with_reducible assumption)) | (with_reducible refine bw_alloc ?_ _) | (with_reducible refine bw_step ?_ (by with_reducible assumption)) | (with_reducible refine Below.alloc ?_ ?_ _) | (with_reducible refine Below.drew ?_) | (with_reducible refine below_drewN ?_ _) | (with_reducible refine Below.setCell ?_ ?_ _) | (with_reducible refine below_step ?_ (by with_reducible assumption) ?_) | (with_reducible exact Nat.le_refl _) | omega | (simp; omega) | (simp; done))))))).mono ?_
      rintro e w' ⟨rfl, rfl⟩
      rw [HB.out]
      go_wp2_with fail
      refine (top_c k m _ _ _ _ zs _ (K.step (by (repeat' (first | (with_reducible exact Below.refl _ _) | (with_reducible assumption) | (with_reducible exact Bw.out (by with_reducible assumption)) | (with_reducible refine bw_alloc ?_ _) | (with_reducible refine bw_step ?_ (by with_reducible assumption)) | (with_reducible refine Below.alloc ?_ ?_ _) | (with_reducible refine Below.drew ?_) | (with_reducible refine below_drewN ?_ _) | (with_reducible refine Below.setCell ?_ ?_ _) | (with_reducible refine below_step ?_ (by with_reducible assumption) ?_) | (with_reducible exact Nat.le_refl _) | omega | (simp; omega) | (simp; done))))) rfl (by omega) HB.out HM.out hl).mono ?_
      rintro e w2 ⟨A2, d2, rfl, K2, hb2⟩
      replace K := K.step (show Below w1.heap.size w1 w2 by (repeat' (first | (with_reducible exact Below.refl _ _) | (with_reducible assumption) | (with_reducible exact Bw.out (by with_reducible assumption)) | (with_reducible refine bw_alloc ?_ _) | (with_reducible refine bw_step ?_ (by with_reducible assumption)) | (with_reducible refine Below.alloc ?_ ?_ _) | (with_reducible refine Below.drew ?_) | (with_reducible refine below_drewN ?_ _) | (with_reducible refine Below.setCell ?_ ?_ _) | (with_reducible refine below_step ?_ (by with_reducible assumption) ?_) | (with_reducible exact Nat.le_refl _) | omega | (simp; omega) | (simp; done))))
      have HB2 : Below w.heap.size w w2 := by (repeat' (first | (with_reducible exact Below.refl _ _) | (with_reducible assumption) | (with_reducible exact Bw.out (by with_reducible assumption)) | (with_reducible refine bw_alloc ?_ _) | (with_reducible refine bw_step ?_ (by with_reducible assumption)) | (with_reducible refine Below.alloc ?_ ?_ _) | (with_reducible refine Below.drew ?_) | (with_reducible refine below_drewN ?_ _) | (with_reducible refine Below.setCell ?_ ?_ _) | (with_reducible refine below_step ?_ (by with_reducible assumption) ?_) | (with_reducible exact Nat.le_refl _) | omega | (simp; omega) | (simp; done)))
      clear hb1 HB1
      rw [HT.out]
      rcases HMM.out with ⟨hmm, hmm2⟩ | ⟨hmm, hmm2⟩
      ·
        have t1 : ((m : Int) != (k : Int)) = false := by simp; omega
        have t2 : (m != k) = false := by simp; omega
        clear hmm
        have hmkm := @run_makeMap Try.prog
        go_wp2_with fail
        generalize hW3 : w2.alloc (.map #[] 0) = w3
        have HM0 : Hid (IMap w3 w2.heap.size []) := by show IMap _ _ _; rw [← hW3]; exact imap_made _
        have HB3 : Hid (Below w.heap.size w w3) := by show Below _ _ _; rw [← hW3]; (repeat' (first | (with_reducible exact Below.refl _ _) | (with_reducible assumption) | (with_reducible exact Bw.out (by with_reducible assumption)) | (with_reducible refine bw_alloc ?_ _) | (with_reducible refine bw_step ?_ (by with_reducible assumption)) | (with_reducible refine Below.alloc ?_ ?_ _) | (with_reducible refine Below.drew ?_) | (with_reducible refine below_drewN ?_ _) | (with_reducible refine Below.setCell ?_ ?_ _) | (with_reducible refine below_step ?_ (by with_reducible assumption) ?_) | (with_reducible exact Nat.le_refl _) | omega | (simp; omega) | (simp; done)))
        have H23 : Below w2.heap.size w2 w3 := by rw [← hW3]; (repeat' (first | (with_reducible exact Below.refl _ _) | (with_reducible assumption) | (with_reducible exact Bw.out (by with_reducible assumption)) | (with_reducible refine bw_alloc ?_ _) | (with_reducible refine bw_step ?_ (by with_reducible assumption)) | (with_reducible refine Below.alloc ?_ ?_ _) | (with_reducible refine Below.drew ?_) | (with_reducible refine below_drewN ?_ _) | (with_reducible refine Below.setCell ?_ ?_ _) | (with_reducible refine below_step ?_ (by with_reducible assumption) ?_) | (with_reducible exact Nat.le_refl _) | omega | (simp; omega) | (simp; done)))
        obtain ⟨Bm, hBm⟩ : ∃ Bm, w2.heap.size = Bm := ⟨_, rfl⟩
        have hwBm : w.heap.size ≤ Bm := by rw [← hBm]; exact HB2.size
        rw [hBm] at HM0 ⊢
        have J1 : Hid (SlI w3 A n zs) := K.sl.below H23
        have J2 : Hid (SlI w3 A2 m (topL zs k)) := K2.sl.below H23
        clear hW3 hBm H23 K2 hb2 HB2
        go_loopw [9, 14, 56] (fun u _ i wr => ∃ (j : Nat) (S : Int) (f : List (Int × Value)), j ≤ m ∧ i = .int .i64 j ∧ u = .int .i64 S ∧ 0 ≤ S ∧ S ≤ 12000 ∧ Hid ((atL zs ((topL zs k).drop j)).sum = S) ∧ Hid (IMap wr Bm f) ∧ Hid (∀ x, x ∉ (topL zs k).take j → look f x = none) ∧ Hid (SlI wr A n zs) ∧ Hid (SlI wr A2 m (topL zs k)) ∧ Hid (Below w.heap.size w wr)) (fun _ _ i _ => m - (intOf i).toNat)
        case atStart => exact ⟨0, T, [], Nat.zero_le _, rfl, rfl, ht1, ht2, by show _ = _; rw [List.drop_zero]; exact HT.out, HM0, fun _ _ => rfl, J1, J2, HB3⟩
        case round =>
          obtain ⟨j, S, f, hj, rfl, rfl, hS1, hS2, hS, hI, hf, I1, I2, hB⟩ := hrel
          by_cases hlt : j < m
          · obtain ⟨b2, o2, x, e, _, cx, gx, _, gm⟩ := I2.out.get hlt
            subst e
            obtain ⟨q1, q2⟩ := topL_mem gm.out
            obtain ⟨i, rfl⟩ := Int.eq_ofNat_of_zero_le q1
            rw [HLN.out] at q2
            have hin : i < n := by omega
            obtain ⟨b1, o1, z, e, _, cz, gz, _, gzm⟩ := I1.out.get hin
            subst e
            obtain ⟨z1, z2⟩ := HIN.out z gzm.out
            have hjl : j < (topL zs k).length := by rw [HLT.out]; exact hlt
            have hnot : (i : Int) ∉ (topL zs k).take j := by rw [← gx.out]; exact not_in_take (topL_nodup zs k) hjl
            have hlook := hf.out _ hnot
            have hlk := run_lookup_imap (P := Try.prog) (w := wr) underlying_map Try.underlying3 hI.out (.bool false) (zero_bool wr) (i : Int) false
            rw [hlook] at hlk
            simp only [Option.getD_none, Bool.false_eq_true, if_false] at hlk
            have hsum := hS.out
            rw [atL_drop hjl, gx.out] at hsum
            unfold shr at hsum
            rw [Int.toNat_natCast, gz.out] at hsum
            obtain ⟨S', hS'⟩ : ∃ S', (atL zs ((topL zs k).drop (j + 1))).sum = S' := ⟨_, rfl⟩
            rw [hS'] at hsum
            have hSb := (atL_sum_bounds HIN.out ((topL zs k).drop (j + 1))).1
            rw [hS'] at hSb
            have hSe : S - z = S' := by omega
            have HS' : Hid ((atL zs ((topL zs k).drop (j + 1))).sum = S - z) := by show _ = _; rw [hS']; exact hSe.symm
            have HF' : Hid (∀ x, x ∉ (topL zs k).take (j + 1) → look (upd f (i : Int) (.bool true)) x = none) := fun x hx => by
              rw [take_succ_getD hjl, gx.out] at hx
              simp only [List.mem_append, List.mem_singleton, not_or] at hx
              rw [look_upd, if_neg hx.2]
              exact hf.out x hx.1
            have hSz1 : 0 ≤ S - z := by omega
            have hSz2 : S - z ≤ 12000 := by omega
            have i1 : (0 : Int) ≤ (i : Int) := by omega
            have i2 : (i : Int) < (n : Int) := by omega
            have hnc := hI.out.notCells
            have HNC : Hid (∀ r, some Bm = some r → ∃ o : Obj, wr.heap[r]? = some o ∧ o.isCells = false) := fun r e => by cases e; exact hnc
            clear hlook hnot hsum hS' hSb hSe hf gx gz hnc hS q1
            go_wp2_with (at_mapUpdate; refine wpList_update_imap _ rfl _ _ _ 38 (Or.inl rfl) 3 4 underlying_map Try.underlying3 Bm f rfl hI.out (i : Int) (.bool true) rfl rfl ?_; intro w4 hI4 hg4; have cz4 := cell_kept' cz hg4 HNC.out; have HI4 := Lib.hid hI4; have HG4 := Lib.hid hg4; clear hI4 hg4)
            have L1 := Lib.hid (I1.out.kept HG4.out HNC.out)
            have L2 := Lib.hid (I2.out.kept HG4.out HNC.out)
            have L3 := Lib.hid (hB.out.grown HG4.out hB.out.size (fun k e => by cases e; exact hwBm))
            go_wp2_with fail
            go_roundw
            case rel => exact ⟨j + 1, S - z, _, by omega, by go_num, rfl, hSz1, hSz2, HS', HI4, HF', L1, L2, L3⟩
            case measure => simp [intOf]; omega
          · obtain rfl : j = m := by omega
            have hS0 : S = 0 := by
              rw [← hS.out, List.drop_of_length_le (by rw [HLT.out]; exact Nat.le_refl _)]
              simp [atL]
            subst hS0
            have KA : SlC wr A n cap zs := I1.out.c hcap1 (by unfold maxLen; omega)
            clear hlt
            go_wp2_with fail
            refine (top_c k _ _ _ _ _ zs _ (KA.step (by (repeat' (first | (with_reducible exact Below.refl _ _) | (with_reducible assumption) | (with_reducible exact Bw.out (by with_reducible assumption)) | (with_reducible refine bw_alloc ?_ _) | (with_reducible refine bw_step ?_ (by with_reducible assumption)) | (with_reducible refine Below.alloc ?_ ?_ _) | (with_reducible refine Below.drew ?_) | (with_reducible refine below_drewN ?_ _) | (with_reducible refine Below.setCell ?_ ?_ _) | (with_reducible refine below_step ?_ (by with_reducible assumption) ?_) | (with_reducible exact Nat.le_refl _) | omega | (simp; omega) | (simp; done))))) rfl (by omega) HB.out HM.out hl).mono ?_
            rintro e w5 ⟨A5, d5, rfl, K5, hb5⟩
            rw [HT.out]
            have HB5 : Below w.heap.size w w5 := by have hBo := hB.out; (repeat' (first | (with_reducible exact Below.refl _ _) | (with_reducible assumption) | (with_reducible exact Bw.out (by with_reducible assumption)) | (with_reducible refine bw_alloc ?_ _) | (with_reducible refine bw_step ?_ (by with_reducible assumption)) | (with_reducible refine Below.alloc ?_ ?_ _) | (with_reducible refine Below.drew ?_) | (with_reducible refine below_drewN ?_ _) | (with_reducible refine Below.setCell ?_ ?_ _) | (with_reducible refine below_step ?_ (by with_reducible assumption) ?_) | (with_reducible exact Nat.le_refl _) | omega | (simp; omega) | (simp; done)))
            have KB : SlC w5 A n cap zs := KA.step hb5
            clear hb5 K5 KA
            go_wp2_with fail
            go_loop [18, 19, 20, 21, 93] (fun D oo _ _ t => ∃ (t' o' : Nat) (d : Int), t' ≤ n ∧ t = .int .i64 t' ∧ oo = .int .i64 o' ∧ D = .int .i64 d ∧ o' ≤ t' ∧ 0 ≤ d ∧ d ≤ 400 * (t' : Int) ∧ Hid (Sel zs k t' o' d)) (fun _ _ _ _ t => n - (intOf t).toNat)
            case atStart => exact ⟨0, 0, 0, Nat.zero_le _, rfl, rfl, rfl, by omega, by omega, by omega, Sel.start zs k⟩
            case round =>
              obtain ⟨t, oo, d, ht, rfl, rfl, rfl, ho, hd1, hd2, hsel⟩ := hrel
              by_cases hlt : t < n
              · obtain ⟨b1, o1, z, e, _, cz, gz, _, gzm⟩ := KB.sl.get hlt
                subst e
                obtain ⟨z1, z2⟩ := HIN.out z gzm.out
                go_wp2_with fail
                all_goals (
                  go_round
                  case rel => first | exact ⟨t + 1, oo + 1, d + z, by omega, by go_num, by go_num, by go_num, by omega, by omega, by omega, hsel.out.add (by omega) z1 (by rw [gz.out]; exact Int.le_refl _)⟩ | exact ⟨t + 1, oo, d, by omega, by go_num, rfl, rfl, by omega, by omega, by omega, hsel.out.skip⟩
                  case measure => simp [intOf]; omega)
              · obtain rfl : t = n := by omega
                have hle := hsel.out.le HIN.out (by rw [HLN.out]; exact Nat.le_refl _)
                rw [HT.out] at hle
                go_wp2_with fail
                go_ret
                refine ⟨(by first | rfl | exact ret_bool (by first | rfl | (simp; done) | (simp; omega))), ?_⟩
                (repeat' (first | (with_reducible exact Below.refl _ _) | (with_reducible assumption) | (with_reducible exact Bw.out (by with_reducible assumption)) | (with_reducible refine bw_alloc ?_ _) | (with_reducible refine bw_step ?_ (by with_reducible assumption)) | (with_reducible refine Below.alloc ?_ ?_ _) | (with_reducible refine Below.drew ?_) | (with_reducible refine below_drewN ?_ _) | (with_reducible refine Below.setCell ?_ ?_ _) | (with_reducible refine below_step ?_ (by with_reducible assumption) ?_) | (with_reducible exact Nat.le_refl _) | omega | (simp; omega) | (simp; done)))
      ·
        have t1 : ((m : Int) != (n : Int)) = false := by simp; omega
        have t2 : (m != n) = false := by simp; omega
        clear hmm
        have hmkm := @run_makeMap Try.prog
        go_wp2_with fail
        generalize hW3 : w2.alloc (.map #[] 0) = w3
        have HM0 : Hid (IMap w3 w2.heap.size []) := by show IMap _ _ _; rw [← hW3]; exact imap_made _
        have HB3 : Hid (Below w.heap.size w w3) := by show Below _ _ _; rw [← hW3]; (repeat' (first | (with_reducible exact Below.refl _ _) | (with_reducible assumption) | (with_reducible exact Bw.out (by with_reducible assumption)) | (with_reducible refine bw_alloc ?_ _) | (with_reducible refine bw_step ?_ (by with_reducible assumption)) | (with_reducible refine Below.alloc ?_ ?_ _) | (with_reducible refine Below.drew ?_) | (with_reducible refine below_drewN ?_ _) | (with_reducible refine Below.setCell ?_ ?_ _) | (with_reducible refine below_step ?_ (by with_reducible assumption) ?_) | (with_reducible exact Nat.le_refl _) | omega | (simp; omega) | (simp; done)))
        have H23 : Below w2.heap.size w2 w3 := by rw [← hW3]; (repeat' (first | (with_reducible exact Below.refl _ _) | (with_reducible assumption) | (with_reducible exact Bw.out (by with_reducible assumption)) | (with_reducible refine bw_alloc ?_ _) | (with_reducible refine bw_step ?_ (by with_reducible assumption)) | (with_reducible refine Below.alloc ?_ ?_ _) | (with_reducible refine Below.drew ?_) | (with_reducible refine below_drewN ?_ _) | (with_reducible refine Below.setCell ?_ ?_ _) | (with_reducible refine below_step ?_ (by with_reducible assumption) ?_) | (with_reducible exact Nat.le_refl _) | omega | (simp; omega) | (simp; done)))
        obtain ⟨Bm, hBm⟩ : ∃ Bm, w2.heap.size = Bm := ⟨_, rfl⟩
        have hwBm : w.heap.size ≤ Bm := by rw [← hBm]; exact HB2.size
        rw [hBm] at HM0 ⊢
        have J1 : Hid (SlI w3 A n zs) := K.sl.below H23
        have J2 : Hid (SlI w3 A2 m (topL zs k)) := K2.sl.below H23
        clear hW3 hBm H23 K2 hb2 HB2
        go_loopw [9, 14, 56] (fun u _ i wr => ∃ (j : Nat) (S : Int) (f : List (Int × Value)), j ≤ m ∧ i = .int .i64 j ∧ u = .int .i64 S ∧ 0 ≤ S ∧ S ≤ 12000 ∧ Hid ((atL zs ((topL zs k).drop j)).sum = S) ∧ Hid (IMap wr Bm f) ∧ Hid (∀ x, x ∉ (topL zs k).take j → look f x = none) ∧ Hid (SlI wr A n zs) ∧ Hid (SlI wr A2 m (topL zs k)) ∧ Hid (Below w.heap.size w wr)) (fun _ _ i _ => m - (intOf i).toNat)
        case atStart => exact ⟨0, T, [], Nat.zero_le _, rfl, rfl, ht1, ht2, by show _ = _; rw [List.drop_zero]; exact HT.out, HM0, fun _ _ => rfl, J1, J2, HB3⟩
        case round =>
          obtain ⟨j, S, f, hj, rfl, rfl, hS1, hS2, hS, hI, hf, I1, I2, hB⟩ := hrel
          by_cases hlt : j < m
          · obtain ⟨b2, o2, x, e, _, cx, gx, _, gm⟩ := I2.out.get hlt
            subst e
            obtain ⟨q1, q2⟩ := topL_mem gm.out
            obtain ⟨i, rfl⟩ := Int.eq_ofNat_of_zero_le q1
            rw [HLN.out] at q2
            have hin : i < n := by omega
            obtain ⟨b1, o1, z, e, _, cz, gz, _, gzm⟩ := I1.out.get hin
            subst e
            obtain ⟨z1, z2⟩ := HIN.out z gzm.out
            have hjl : j < (topL zs k).length := by rw [HLT.out]; exact hlt
            have hnot : (i : Int) ∉ (topL zs k).take j := by rw [← gx.out]; exact not_in_take (topL_nodup zs k) hjl
            have hlook := hf.out _ hnot
            have hlk := run_lookup_imap (P := Try.prog) (w := wr) underlying_map Try.underlying3 hI.out (.bool false) (zero_bool wr) (i : Int) false
            rw [hlook] at hlk
            simp only [Option.getD_none, Bool.false_eq_true, if_false] at hlk
            have hsum := hS.out
            rw [atL_drop hjl, gx.out] at hsum
            unfold shr at hsum
            rw [Int.toNat_natCast, gz.out] at hsum
            obtain ⟨S', hS'⟩ : ∃ S', (atL zs ((topL zs k).drop (j + 1))).sum = S' := ⟨_, rfl⟩
            rw [hS'] at hsum
            have hSb := (atL_sum_bounds HIN.out ((topL zs k).drop (j + 1))).1
            rw [hS'] at hSb
            have hSe : S - z = S' := by omega
            have HS' : Hid ((atL zs ((topL zs k).drop (j + 1))).sum = S - z) := by show _ = _; rw [hS']; exact hSe.symm
            have HF' : Hid (∀ x, x ∉ (topL zs k).take (j + 1) → look (upd f (i : Int) (.bool true)) x = none) := fun x hx => by
              rw [take_succ_getD hjl, gx.out] at hx
              simp only [List.mem_append, List.mem_singleton, not_or] at hx
              rw [look_upd, if_neg hx.2]
              exact hf.out x hx.1
            have hSz1 : 0 ≤ S - z := by omega
            have hSz2 : S - z ≤ 12000 := by omega
            have i1 : (0 : Int) ≤ (i : Int) := by omega
            have i2 : (i : Int) < (n : Int) := by omega
            have hnc := hI.out.notCells
            have HNC : Hid (∀ r, some Bm = some r → ∃ o : Obj, wr.heap[r]? = some o ∧ o.isCells = false) := fun r e => by cases e; exact hnc
            clear hlook hnot hsum hS' hSb hSe hf gx gz hnc hS q1
            go_wp2_with (at_mapUpdate; refine wpList_update_imap _ rfl _ _ _ 38 (Or.inl rfl) 3 4 underlying_map Try.underlying3 Bm f rfl hI.out (i : Int) (.bool true) rfl rfl ?_; intro w4 hI4 hg4; have cz4 := cell_kept' cz hg4 HNC.out; have HI4 := Lib.hid hI4; have HG4 := Lib.hid hg4; clear hI4 hg4)
            have L1 := Lib.hid (I1.out.kept HG4.out HNC.out)
            have L2 := Lib.hid (I2.out.kept HG4.out HNC.out)
            have L3 := Lib.hid (hB.out.grown HG4.out hB.out.size (fun k e => by cases e; exact hwBm))
            go_wp2_with fail
            go_roundw
            case rel => exact ⟨j + 1, S - z, _, by omega, by go_num, rfl, hSz1, hSz2, HS', HI4, HF', L1, L2, L3⟩
            case measure => simp [intOf]; omega
          · obtain rfl : j = m := by omega
            have hS0 : S = 0 := by
              rw [← hS.out, List.drop_of_length_le (by rw [HLT.out]; exact Nat.le_refl _)]
              simp [atL]
            subst hS0
            have KA : SlC wr A n cap zs := I1.out.c hcap1 (by unfold maxLen; omega)
            clear hlt
            go_wp2_with fail
            refine (top_c k _ _ _ _ _ zs _ (KA.step (by (repeat' (first | (with_reducible exact Below.refl _ _) | (with_reducible assumption) | (with_reducible exact Bw.out (by with_reducible assumption)) | (with_reducible refine bw_alloc ?_ _) | (with_reducible refine bw_step ?_ (by with_reducible assumption)) | (with_reducible refine Below.alloc ?_ ?_ _) | (with_reducible refine Below.drew ?_) | (with_reducible refine below_drewN ?_ _) | (with_reducible refine Below.setCell ?_ ?_ _) | (with_reducible refine below_step ?_ (by with_reducible assumption) ?_) | (with_reducible exact Nat.le_refl _) | omega | (simp; omega) | (simp; done))))) rfl (by omega) HB.out HM.out hl).mono ?_
            rintro e w5 ⟨A5, d5, rfl, K5, hb5⟩
            rw [HT.out]
            have HB5 : Below w.heap.size w w5 := by have hBo := hB.out; (repeat' (first | (with_reducible exact Below.refl _ _) | (with_reducible assumption) | (with_reducible exact Bw.out (by with_reducible assumption)) | (with_reducible refine bw_alloc ?_ _) | (with_reducible refine bw_step ?_ (by with_reducible assumption)) | (with_reducible refine Below.alloc ?_ ?_ _) | (with_reducible refine Below.drew ?_) | (with_reducible refine below_drewN ?_ _) | (with_reducible refine Below.setCell ?_ ?_ _) | (with_reducible refine below_step ?_ (by with_reducible assumption) ?_) | (with_reducible exact Nat.le_refl _) | omega | (simp; omega) | (simp; done)))
            have KB : SlC w5 A n cap zs := KA.step hb5
            clear hb5 K5 KA
            go_wp2_with fail
            go_loop [18, 19, 20, 21, 93] (fun D oo _ _ t => ∃ (t' o' : Nat) (d : Int), t' ≤ n ∧ t = .int .i64 t' ∧ oo = .int .i64 o' ∧ D = .int .i64 d ∧ o' ≤ t' ∧ 0 ≤ d ∧ d ≤ 400 * (t' : Int) ∧ Hid (Sel zs k t' o' d)) (fun _ _ _ _ t => n - (intOf t).toNat)
            case atStart => exact ⟨0, 0, 0, Nat.zero_le _, rfl, rfl, rfl, by omega, by omega, by omega, Sel.start zs k⟩
            case round =>
              obtain ⟨t, oo, d, ht, rfl, rfl, rfl, ho, hd1, hd2, hsel⟩ := hrel
              by_cases hlt : t < n
              · obtain ⟨b1, o1, z, e, _, cz, gz, _, gzm⟩ := KB.sl.get hlt
                subst e
                obtain ⟨z1, z2⟩ := HIN.out z gzm.out
                go_wp2_with fail
                all_goals (
                  go_round
                  case rel => first | exact ⟨t + 1, oo + 1, d + z, by omega, by go_num, by go_num, by go_num, by omega, by omega, by omega, hsel.out.add (by omega) z1 (by rw [gz.out]; exact Int.le_refl _)⟩ | exact ⟨t + 1, oo, d, by omega, by go_num, rfl, rfl, by omega, by omega, by omega, hsel.out.skip⟩
                  case measure => simp [intOf]; omega)
              · obtain rfl : t = n := by omega
                have hle := hsel.out.le HIN.out (by rw [HLN.out]; exact Nat.le_refl _)
                rw [HT.out] at hle
                go_wp2_with fail
                go_ret
                refine ⟨(by first | rfl | exact ret_bool (by first | rfl | (simp; done) | (simp; omega))), ?_⟩
                (repeat' (first | (with_reducible exact Below.refl _ _) | (with_reducible assumption) | (with_reducible exact Bw.out (by with_reducible assumption)) | (with_reducible refine bw_alloc ?_ _) | (with_reducible refine bw_step ?_ (by with_reducible assumption)) | (with_reducible refine Below.alloc ?_ ?_ _) | (with_reducible refine Below.drew ?_) | (with_reducible refine below_drewN ?_ _) | (with_reducible refine Below.setCell ?_ ?_ _) | (with_reducible refine below_step ?_ (by with_reducible assumption) ?_) | (with_reducible exact Nat.le_refl _) | omega | (simp; omega) | (simp; done)))
  · have hl' : (30 : Int) < (zs.length : Int) := by omega
    go_enter Try.func4, Try.ntmps4
    go_wp2_with fail
    refine (head_any _).mono ?_
    rintro e w1 ⟨rfl, hb1⟩
    replace K := K.step (show Below w.heap.size w w1 by (repeat' (first | (with_reducible exact Below.refl _ _) | (with_reducible assumption) | (with_reducible exact Bw.out (by with_reducible assumption)) | (with_reducible refine bw_alloc ?_ _) | (with_reducible refine bw_step ?_ (by with_reducible assumption)) | (with_reducible refine Below.alloc ?_ ?_ _) | (with_reducible refine Below.drew ?_) | (with_reducible refine below_drewN ?_ _) | (with_reducible refine Below.setCell ?_ ?_ _) | (with_reducible refine below_step ?_ (by with_reducible assumption) ?_) | (with_reducible exact Nat.le_refl _) | omega | (simp; omega) | (simp; done))))
    have HB1 : Below w.heap.size w w1 := by (repeat' (first | (with_reducible exact Below.refl _ _) | (with_reducible assumption) | (with_reducible exact Bw.out (by with_reducible assumption)) | (with_reducible refine bw_alloc ?_ _) | (with_reducible refine bw_step ?_ (by with_reducible assumption)) | (with_reducible refine Below.alloc ?_ ?_ _) | (with_reducible refine Below.drew ?_) | (with_reducible refine below_drewN ?_ _) | (with_reducible refine Below.setCell ?_ ?_ _) | (with_reducible refine below_step ?_ (by with_reducible assumption) ?_) | (with_reducible exact Nat.le_refl _) | omega | (simp; omega) | (simp; done)))
    go_wp2_with fail
    go_ret
    refine ⟨(by first | rfl | exact ret_bool (by first | rfl | (simp; done) | (simp; omega))), ?_⟩
    (repeat' (first | (with_reducible exact Below.refl _ _) | (with_reducible assumption) | (with_reducible exact Bw.out (by with_reducible assumption)) | (with_reducible refine bw_alloc ?_ _) | (with_reducible refine bw_step ?_ (by with_reducible assumption)) | (with_reducible refine Below.alloc ?_ ?_ _) | (with_reducible refine Below.drew ?_) | (with_reducible refine below_drewN ?_ _) | (with_reducible refine Below.setCell ?_ ?_ _) | (with_reducible refine below_step ?_ (by with_reducible assumption) ?_) | (with_reducible exact Nat.le_refl _) | omega | (simp; omega) | (simp; done)))


set_option maxRecDepth 100000 in
theorem shareTop_lifted (os : Os) (started : os.Started) (H : Type) (enc : TypeId × Value → H) :
    ReturnsInHanded {} Try.checked os 4 .any (Rows.shareTopSpec.pre6 enc Try.prog Try.f4 Rows.shareTopRow.domain false) (Rows.shareTopSpec.post enc Try.prog Try.f4 false true false false) := by
  refine returnsInHanded_of_change (C := Try.checked) own started (by kernel_rfl) Try.func4
    (ChangeSpec.witness6 (enc := enc) (C := Try.checked) false ⟨#[], #[.slice none 0 0, .int .u8 0, .int .u32 0], []⟩ 8 (by kernel_rfl) (by kernel_rfl) (by kernel_rfl) (by kernel_rfl)) ?_
  intro W base args ds gs before hval0 hW _ _
  have hval : ∀ (j : Nat) t v, Try.f4.params[j]? = some t → args[j]? = some v → Value.okWide Try.prog W .any base t v := hval0
  have hW' := hW
  obtain ⟨p, q, hA0, hV, rfl, hfz, hnd⟩ := hW
  obtain ⟨rfl, rfl⟩ := trodVars_none hV
  have hA : DataW.TrodAll enc Try.prog W 0 (fun _ => true) true Try.f4.params.toList args.toList ds p := hA0
  rw [Try.params4] at hA hval
  obtain ⟨v0, vs0, d0, ds0, p0, q0, hargs, rfl, rfl, h0, r0⟩ := trodAll_cons hA
  obtain ⟨v1, vs1, d1, ds1, p1, q1, rfl, rfl, rfl, h1, r1⟩ := trodAll_cons r0
  obtain ⟨v2, vs2, d2, ds2, p2, q2, rfl, rfl, rfl, h2, r2⟩ := trodAll_cons r1
  obtain ⟨rfl, rfl, rfl⟩ := trodAll_nil r2
  obtain rfl : args = #[v0, v1, v2] := by cases args; simp_all
  obtain ⟨a_n, n_n, c_n, rfl⟩ := okWide_slice Try.underlying23 (hval 0 23 v0 rfl rfl)
  obtain ⟨fu_n, hf_n⟩ := h0
  obtain ⟨zs_n, hs_n, wf_n⟩ := slv_of_ints (by simpa [Value.cells] using hf_n)
  obtain ⟨y, rfl, rfl, rfl, wy⟩ := open_int Try.underlying5 (hval 1 5 v1 rfl rfl) h1
  obtain ⟨o, rfl, rfl, rfl, wo⟩ := open_int Try.underlying36 (hval 2 36 v2 rfl rfl) h2
  clear hA0 hval0
  refine (stop_walk _ zs_n y o wf_n wy wo W hs_n).mono fun e W' ⟨he, hb⟩ => ?_
  subst he
  exact ⟨_, rfl, law_post (B := 4) laidOut (by rw [Try.params4]; simp only [List.mem_cons, List.not_mem_nil, or_false, forall_eq_or_imp, forall_eq]; first | exact readable_shareTop | (repeat' apply And.intro) <;> first | exact of_decide_eq_true (by kernel_rfl) | kernel_rfl) rfl Try.underlying4 rfl rfl hW' hb⟩

theorem shareTop_over : Rows.shareTopRow.holds Try.pinned (OpenSpec.ofChange Rows.shareTopSpec) :=
  OpenClaim.holds_of_wide 4 Try.f4 rfl rfl rfl rfl rfl rfl rfl ⟨rfl, rfl, rfl, rfl, rfl⟩ rfl rfl rfl rfl rfl (by kernel_rfl) Try.func4 (by kernel_rfl)
    (of_decide_eq_true (by kernel_rfl)) (by unfold Func.isWrapper; first | (rw [if_pos (by decide +kernel)]; kernel_rfl) | (rw [if_neg (by decide +kernel)]; exact ⟨rfl, rfl⟩))
    (fun os started H enc _ => shareTop_lifted os started H enc)

theorem shareTop_holds : Rows.ShareTopSaid := shareTop_over
#print axioms shareTop_holds
end Go.Proofs.Ytegkonedeledeaa
