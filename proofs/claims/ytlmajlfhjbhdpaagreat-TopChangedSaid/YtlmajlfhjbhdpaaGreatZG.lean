/-
 The walk of rooms.Valid.
-/
import Derived.Test.YtlmajlfhjbhdpaaGreatZF
namespace Go.Proofs.YtlmajlfhjbhdpaaGreat
set_option linter.unusedSimpArgs false
set_option linter.unusedVariables false
open Go.RowKit
theorem validM_end {l : List RoomV} {k : Nat} {r : RoomV} (h : l[k]? = some r) : (l.take (k + 1)).all (joinsB l) = ((l.take k).all (joinsB l) && joinsB l r) := by
 obtain ⟨hk, e⟩ := List.getElem?_eq_some_iff.1 h
 rw [List.take_succ_eq_append_getElem hk, e, List.all_append]
 simp
set_option maxRecDepth 100000 in
set_option maxHeartbeats 6400000 in
theorem rvalid_p (a : Option Addr) (n cap : Nat) (l : List RoomV) (w : World) (hm : n ≤ 9223372036854775807) (hs : SlM w a n l) (R : Bool) (hR : validM l = R) :
  Calls Tryz.prog 18 #[.slice a n cap] w fun e w' => e = .returned (.bool R) ∧ Below w.heap.size w w' := by
 have HR := Lib.hid hR
 have HS := Lib.hid hs
 have HL := Lib.hid hs.1.1
 clear hR hs
 by_cases hn : n ≤ 400
 ·
  have hmm := @run_makeMap Tryz.prog
  have hi0 := imap_made w
  have HB0 : Below w.heap.size w (w.alloc (.map #[] 0)) := by (repeat' (first | (with_reducible first | exact Below.refl _ _ | assumption | exact Bw.out (by assumption) | refine bw_alloc ?_ _ | refine bw_step ?_ (by assumption) | refine Below.alloc ?_ ?_ _ | refine Below.drew ?_ | refine below_drewN ?_ _ | refine Below.setCell ?_ ?_ _ | refine below_step ?_ (by assumption) ?_ | exact Nat.le_refl _) | omega | (simp; omega) | (simp; done)))
  have hs0 : (w.alloc (.map #[] 0)).heap.size = w.heap.size + 1 := by simp
  go_enter Tryz.func18, Tryz.ntmps18
  go_wp2_with fail
  go_loopw [5, 6, 7, 17] (fun _ _ _ i wr => ∃ k : Nat, k ≤ n ∧ i = .int .i64 k ∧ Hid (((l.take k).all formedR && decide (((l.take k).map RoomV.id).Nodup)) = true) ∧ Hid (IMap wr w.heap.size (mapOf RoomV.id RoomV.val (l.take k))) ∧ Hid (Below w.heap.size w wr) ∧ Hid (w.heap.size < wr.heap.size)) (fun _ _ _ i _ => n - (intOf i).toNat)
  case atStart => exact ⟨0, Nat.zero_le _, rfl, by show _ = _; rw [List.take_zero]; rfl, by rw [List.take_zero]; exact hi0, HB0, by show _ < _; omega⟩
  case round =>
   obtain ⟨k, hk, rfl, hT, hM, hB, hsz⟩ := hrel
   have hsz' := hsz.out
   by_cases hkn : k < n
   ·
    obtain ⟨r, b, off, hr, hrin, rfl, hlb, x0, x1, x2, x3, x4, x5⟩ := slM_get (HS.out.step hB.out) hkn
    have HT2 := Lib.hid (formed_take hr.out)
    have HMT := Lib.hid (mapOf_take (key := RoomV.id) (val := RoomV.val) hr.out)
    obtain ⟨w1, hw1⟩ : ∃ w1, w1 = wr.alloc (.cells #[.int .i64 r.id, .int .i64 r.ho, .int .i64 r.kd, .int .i64 r.jn, .bool r.ac, .slice r.ba r.bl.length r.bc] 42) := ⟨_, rfl⟩
    have hal : Below wr.heap.size wr w1 := by rw [hw1]; exact (Below.refl _ _).alloc (Nat.le_refl _) _
    have HM1 := Lib.hid (hM.out.below hal)
    have hnd : ((l.take k).map RoomV.id).Nodup := by have := hT.out; simp only [Bool.and_eq_true, decide_eq_true_eq] at this; exact this.2
    rcases look_room hnd r.id with ⟨o, ho, hoid, hlo⟩ | ⟨hno, hlo⟩
    ·
     have hr : R = false := by
      rw [← HR.out]
      refine validM_no (k := k + 1) ?_
      rw [HT2.out, decide_eq_true (show r.id ∈ (l.take k).map RoomV.id from List.mem_map.2 ⟨o, ho, hoid⟩)]
      simp
     subst hr
     have hlu : Sem.run Tryz.prog (Instr.lookup 57 (.map (some w.heap.size)) (.int .i64 r.id) true) w1 = .ok (.tuple #[.agg #[.int .i64 o.id, .int .i64 o.ho, .int .i64 o.kd, .int .i64 o.jn, .bool o.ac, .slice o.ba o.bl.length o.bc], .bool true]) w1 := by
      rw [run_lookup_imap Tryz.underlying57 Tryz.underlying3 HM1.out _ (zero_room _) r.id true, hlo]; rfl
     rw [hw1] at hlu
     clear ho hoid hlo hnd HM1 hal hw1 w1 HT2 HMT hM
     go_wp2_with fail
     go_ret
     refine ⟨rfl, ?_⟩
     have := hB.out
     (repeat' (first | (with_reducible first | exact Below.refl _ _ | assumption | exact Bw.out (by assumption) | refine bw_alloc ?_ _ | refine bw_step ?_ (by assumption) | refine Below.alloc ?_ ?_ _ | refine Below.drew ?_ | refine below_drewN ?_ _ | refine Below.setCell ?_ ?_ _ | refine below_step ?_ (by assumption) ?_ | exact Nat.le_refl _) | omega | (simp; omega) | (simp; done)))
    ·
     have hlu : Sem.run Tryz.prog (Instr.lookup 57 (.map (some w.heap.size)) (.int .i64 r.id) true) w1 = .ok (.tuple #[.agg #[.int .i64 0, .int .i64 0, .int .i64 0, .int .i64 0, .bool false, .slice none 0 0], .bool false]) w1 := by
      rw [run_lookup_imap Tryz.underlying57 Tryz.underlying3 HM1.out _ (zero_room _) r.id true, hlo]; rfl
     rw [hw1] at hlu
     obtain ⟨p, hp⟩ : ∃ p, formedR r = p := ⟨_, rfl⟩
     have HP := Lib.hid hp
     have HNO := Lib.hid hno
     clear hlo hnd HM1 hal hw1 w1 hp hno
     go_wp2_with fail
     obtain ⟨w2, hw2⟩ : ∃ w2, w2 = (wr.alloc (.cells #[.int .i64 r.id, .int .i64 r.ho, .int .i64 r.kd, .int .i64 r.jn, .bool r.ac, .slice r.ba r.bl.length r.bc] 42)).alloc (.cells #[.int .i64 0, .int .i64 0, .int .i64 0, .int .i64 0, .bool false, .slice none 0 0] 42) := ⟨_, rfl⟩
     have hal : Below wr.heap.size wr w2 := by rw [hw2]; exact ((Below.refl _ _).alloc (Nat.le_refl _) _).alloc (by simp) _
     have RR : Row w2 wr.heap.size [.int .i64 r.id, .int .i64 r.ho, .int .i64 r.kd, .int .i64 r.jn, .bool r.ac, .slice r.ba r.bl.length r.bc] := by rw [hw2]; exact (Row.new' _ _ _ rfl).alloc _
     rw [← hw2]
     refine (formed_p r p HP.out _ (hrin.out.step hal)).mono ?_
     rintro e w3 ⟨rfl, hb2⟩
     have R2 := RR.step hb2
     have hb3 := hal.trans (hb2.mono hal.size)
     have HM2 := Lib.hid (hM.out.below hb3)
     have HB2 : Hid (Below w.heap.size w w3) := hB.out.trans (hb3.mono hB.out.size)
     have hs2 := hb3.size
     clear hb2 hb3 hal RR x0 x1 x2 x3 x4 x5 hw2 hlu
     have c0 := R2.cell 0 rfl
     have c1 := R2.cell 1 rfl
     have c2 := R2.cell 2 rfl
     have c3 := R2.cell 3 rfl
     have c4 := R2.cell 4 rfl
     have c5 := R2.cell 5 rfl
     have cl := R2.lt
     cases p with
     | false =>
      have hr : R = false := by
       rw [← HR.out]
       refine validM_no (k := k + 1) ?_
       rw [HT2.out, HP.out]; simp
      subst hr
      go_wp2_with fail
      go_ret
      exact ⟨rfl, HB2.out⟩
     | true =>
      have HTK : Hid (((l.take (k + 1)).all formedR && decide (((l.take (k + 1)).map RoomV.id).Nodup)) = true) := by
       show _ = _
       rw [HT2.out, hT.out, HP.out, decide_eq_false HNO.out]; rfl
      go_wp2_with (first
       | (refine wpList_update_imap _ rfl _ _ _ 57 (.inl rfl) 3 42 Tryz.underlying57 Tryz.underlying3 _ _ rfl HM2.out _ _ rfl rfl ?_; intro w5 hm5 hg5))
      have hm6 : IMap w5 w.heap.size (mapOf RoomV.id RoomV.val (l.take (k + 1))) := by rw [HMT.out]; exact hm5
      have hb6 := HB2.out.grown hg5 HB2.out.size (fun k e => by cases e; exact Nat.le_refl _)
      have hs6 := hg5.size
      have HM6 := Lib.hid hm6
      have HB6 := Lib.hid hb6
      clear hm5 hg5 hm6 hb6
      go_wp2_with fail
      go_roundw
      case rel => exact ⟨k + 1, by omega, by go_num, HTK, HM6, HB6, by show _ < _; omega⟩
      case measure => simp [intOf]; omega
   ·
    obtain rfl : k = n := by omega
    have hTA := hT.out
    rw [List.take_of_length_le (by rw [HL.out]; omega)] at hTA
    have hMA := hM.out
    rw [List.take_of_length_le (by rw [HL.out]; omega)] at hMA
    have HMA := Lib.hid hMA
    have HTA := Lib.hid hTA
    have HBA := Lib.hid hB.out
    clear hTA hMA hT hM
    obtain ⟨wq, hwq⟩ : ∃ x, x = wr := ⟨_, rfl⟩
    subst hwq
    go_wp2_with fail
    go_loopw [9, 10, 41] (fun _ _ i wr => ∃ j : Nat, j ≤ k ∧ i = .int .i64 j ∧ Hid ((l.take j).all (joinsB l) = true) ∧ Hid (Below wq.heap.size wq wr)) (fun _ _ i _ => k - (intOf i).toNat)
    case atStart => exact ⟨0, Nat.zero_le _, rfl, by show _ = _; rw [List.take_zero]; rfl, Below.refl _ _⟩
    case round =>
     obtain ⟨j, hj, rfl, hJ, hB2⟩ := hrel
     have hb2s := hB2.out.size
     by_cases hjn : j < k
     ·
      obtain ⟨r, b, off, hr, hrin, rfl, hlb, x0, x1, x2, x3, x4, x5⟩ := slM_get ((HS.out.step HBA.out).step hB2.out) hjn
      have hnd : (l.map RoomV.id).Nodup := by have := HTA.out; simp only [Bool.and_eq_true, decide_eq_true_eq] at this; exact this.2
      have hfr : formedR r = true := by have := HTA.out; simp only [Bool.and_eq_true, List.all_eq_true] at this; exact this.1 r (List.mem_of_getElem? hr.out)
      obtain ⟨o, hlo, hjo⟩ := joins_look hnd r (formedR_in hfr).1.1
      have HJT := Lib.hid (validM_end hr.out)
      have HJO := Lib.hid hjo
      obtain ⟨w1, hw1⟩ : ∃ w1, w1 = wr.alloc (.cells #[.int .i64 r.id, .int .i64 r.ho, .int .i64 r.kd, .int .i64 r.jn, .bool r.ac, .slice r.ba r.bl.length r.bc] 42) := ⟨_, rfl⟩
      have hal : Below wr.heap.size wr w1 := by rw [hw1]; exact (Below.refl _ _).alloc (Nat.le_refl _) _
      have hlu : Sem.run Tryz.prog (Instr.lookup 57 (.map (some w.heap.size)) (.int .i64 r.jn) false) w1 = .ok (.agg #[.int .i64 o.id, .int .i64 o.ho, .int .i64 o.kd, .int .i64 o.jn, .bool o.ac, .slice o.ba o.bl.length o.bc]) w1 := by
       rw [run_lookup_imap Tryz.underlying57 Tryz.underlying3 ((HMA.out.below hB2.out).below hal) _ (zero_room _) r.jn false, hlo]; rfl
      rw [hw1] at hlu
      clear hlo hnd hal hw1 w1 hfr hjo
      obtain ⟨q, hq⟩ : ∃ q, joinsB l r = q := ⟨_, rfl⟩
      have HQ := Lib.hid hq
      clear hq
      have HB9 : Below w.heap.size w ((wr.alloc (.cells #[.int .i64 r.id, .int .i64 r.ho, .int .i64 r.kd, .int .i64 r.jn, .bool r.ac, .slice r.ba r.bl.length r.bc] 42)).alloc (.cells #[.int .i64 o.id, .int .i64 o.ho, .int .i64 o.kd, .int .i64 o.jn, .bool o.ac, .slice o.ba o.bl.length o.bc] 42)) := by
       have h1 := HBA.out.trans (hB2.out.mono HBA.out.size)
       exact (h1.alloc h1.size _).alloc (by simp; have := h1.size; omega) _
      have HB8 := Lib.hid HB9
      have HB7 : Hid (Below wq.heap.size wq ((wr.alloc (.cells #[.int .i64 r.id, .int .i64 r.ho, .int .i64 r.kd, .int .i64 r.jn, .bool r.ac, .slice r.ba r.bl.length r.bc] 42)).alloc (.cells #[.int .i64 o.id, .int .i64 o.ho, .int .i64 o.kd, .int .i64 o.jn, .bool o.ac, .slice o.ba o.bl.length o.bc] 42))) :=
       (hB2.out.alloc hb2s _).alloc (by simp; omega) _
      clear HB9
      by_cases hj0 : r.jn = 0
      ·
       have hq1 : q = true := by rw [← HQ.out]; unfold joinsB; simp [hj0]
       subst hq1
       have hj0' : (r.jn != 0) = false := by simpa using hj0
       clear hj0 HJO
       have HJ2 : Hid ((l.take (j + 1)).all (joinsB l) = true) := by show _ = _; rw [HJT.out, hJ.out, HQ.out]; rfl
       go_wp2_with fail
       go_roundw
       case rel => exact ⟨j + 1, by omega, by go_num, HJ2, HB7⟩
       case measure => simp [intOf]; omega
      ·
       have hj0' : (r.jn != 0) = true := by simpa using hj0
       have hqe : q = (decide (o.jn = r.id) && decide (o.ho = r.ho)) := by rw [← HQ.out]; exact HJO.out hj0
       clear hj0 HJO
       by_cases e1 : o.jn = r.id
       ·
        by_cases e2 : o.ho = r.ho
        ·
         have hq1 : q = true := by rw [hqe]; simp [e1, e2]
         subst hq1
         have HJ2 : Hid ((l.take (j + 1)).all (joinsB l) = true) := by show _ = _; rw [HJT.out, hJ.out, HQ.out]; rfl
         clear hqe
         have e1' : (o.jn != r.id) = false := by simpa using e1
         have e2' : (o.ho != r.ho) = false := by simpa using e2
         clear e1 e2
         go_wp2_with fail
         go_roundw
         case rel => exact ⟨j + 1, by omega, by go_num, HJ2, HB7⟩
         case measure => simp [intOf]; omega
        ·
         have hr : R = false := by rw [← HR.out]; unfold validM; rw [show l.all (joinsB l) = false from by rw [← Bool.not_eq_true, List.all_eq_true]; intro h; have := h r (List.mem_of_getElem? hr.out); rw [HQ.out, hqe] at this; simp [e2] at this]; simp
         subst hr
         have e1' : (o.jn != r.id) = false := by simpa using e1
         have e2' : (o.ho != r.ho) = true := by simpa using e2
         clear e1 e2 hqe
         go_wp2_with fail
         go_ret
         exact ⟨rfl, HB8.out⟩
       ·
        have hr : R = false := by rw [← HR.out]; unfold validM; rw [show l.all (joinsB l) = false from by rw [← Bool.not_eq_true, List.all_eq_true]; intro h; have := h r (List.mem_of_getElem? hr.out); rw [HQ.out, hqe] at this; simp [e1] at this]; simp
        subst hr
        have e1' : (o.jn != r.id) = true := by simpa using e1
        clear e1 hqe
        go_wp2_with fail
        go_ret
        exact ⟨rfl, HB8.out⟩
     ·
      obtain rfl : j = k := by omega
      have hr : R = true := by
       rw [← HR.out]
       unfold validM
       have h1 := hJ.out
       rw [List.take_of_length_le (by rw [HL.out]; omega)] at h1
       rw [h1, HTA.out, HL.out]
       simpa using hn
      subst hr
      have HB9 := Lib.hid (HBA.out.trans (hB2.out.mono HBA.out.size))
      go_wp2_with fail
      go_ret
      exact ⟨rfl, HB9.out⟩
 ·
  have hr : R = false := by rw [← HR.out]; unfold validM; rw [HL.out]; simp; intro h; omega
  subst hr
  have hc : (400 : Int) < n := by omega
  clear hn
  go_enter Tryz.func18, Tryz.ntmps18
  go_wp2_with fail
  go_ret
  exact ⟨rfl, Below.refl _ _⟩
end Go.Proofs.YtlmajlfhjbhdpaaGreat
