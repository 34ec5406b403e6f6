/-
 The walks of package types: Valid.
-/
import Derived.Test.YtcmodmchnokmgaaTyF
namespace Go.Proofs.Ytcmodmchnokmgaa
set_option linter.unusedSimpArgs false
set_option linter.unusedVariables false
open Go.RowKit
/-- Which numbers have been seen. -/
def seenM (l : List RateV) : List (Int × Value) := l.foldl (fun f r => upd f r.id (.bool true)) []
theorem seen_look (l : List RateV) (k : Int) : look (seenM l) k = if k ∈ l.map RateV.id then some (.bool true) else none := by
 unfold seenM
 suffices h : ∀ (l : List RateV) (f : List (Int × Value)), look (l.foldl (fun f r => upd f r.id (.bool true)) f) k = if k ∈ l.map RateV.id then some (.bool true) else look f k by
  rw [h]; rfl
 intro l
 induction l with
 | nil => intro f; simp
 | cons r l ih =>
  intro f
  rw [List.foldl_cons, ih, look_upd]
  simp only [List.map_cons, List.mem_cons]
  by_cases h1 : k ∈ l.map RateV.id
  ·
   simp [h1]
  ·
   by_cases h2 : k = r.id <;> simp [h1, h2]
theorem seenM_snoc (l : List RateV) (r : RateV) : seenM (l ++ [r]) = upd (seenM l) r.id (.bool true) := by unfold seenM; rw [List.foldl_append]; rfl
/-- The first k rates can be used together. -/
theorem validR_take {l : List RateV} {k : Nat} {r : RateV} (h : l[k]? = some r) : ((l.take (k + 1)).all rateB && decide (((l.take (k + 1)).map RateV.id).Nodup)) = (((l.take k).all rateB && decide (((l.take k).map RateV.id).Nodup)) && (rateB r && !decide (r.id ∈ (l.take k).map RateV.id))) := by
 have hs : l.take (k + 1) = l.take k ++ [r] := by
  obtain ⟨hk, e⟩ := List.getElem?_eq_some_iff.1 h
  rw [List.take_succ_eq_append_getElem hk, e]
 rw [hs, Bool.eq_iff_iff]
 simp only [Bool.and_eq_true, decide_eq_true_eq, List.all_append, List.map_append, List.map_cons, List.map_nil, List.all_cons, List.all_nil, Bool.and_true, Bool.not_eq_true', decide_eq_false_iff_not]
 rw [List.nodup_append]
 constructor
 ·
  rintro ⟨⟨h1, h2⟩, h3, _, h5⟩
  exact ⟨⟨h1, h3⟩, h2, fun hm => h5 _ hm _ (by simp) rfl⟩
 ·
  rintro ⟨⟨h1, h3⟩, h2, h4⟩
  exact ⟨⟨h1, h2⟩, h3, by simp, fun a ha b hb => by simp at hb; subst hb; exact fun e => h4 (e ▸ ha)⟩
theorem validR_no {l : List RateV} {k : Nat} (h : ((l.take k).all rateB && decide (((l.take k).map RateV.id).Nodup)) = false) : validR l = false := by
 rw [← Bool.not_eq_true]
 intro hv
 unfold validR at hv
 simp only [Bool.and_eq_true, decide_eq_true_eq] at hv
 obtain ⟨_, h1, h2⟩ := hv
 rw [← List.take_append_drop k l] at h1 h2
 rw [List.all_append, Bool.and_eq_true] at h1
 rw [List.map_append] at h2
 have := (List.nodup_append.1 h2).1
 rw [h1.1] at h
 rw [Bool.true_and, decide_eq_false_iff_not] at h
 exact h this
theorem SlR.rate {w : World} {a : Option Addr} {n : Nat} {l : List RateV} (h : SlR w a n l) {i : Nat} (hi : i < n) : ∃ (r : RateV) (b off : Nat), Hid (l[i]? = some r) ∧ Hid (r.In w) ∧ a = some ⟨b, off, none⟩ ∧ b < w.heap.size ∧ w.cell? ⟨b, off + i * 16, none⟩ = some (.int .i64 r.id) ∧ w.cell? ⟨b, off + i * 16 + 1, none⟩ = some (.int .i64 r.lv) ∧ w.cell? ⟨b, off + i * 16 + 2, none⟩ = some (.int .i64 r.kd) ∧ w.cell? ⟨b, off + i * 16 + 3, none⟩ = some (.int .i64 r.fr) ∧ w.cell? ⟨b, off + i * 16 + 4, none⟩ = some (.int .i64 r.un) ∧ w.cell? ⟨b, off + i * 16 + 5, none⟩ = some (.int .i64 r.ls) ∧ w.cell? ⟨b, off + i * 16 + 6, none⟩ = some (.int .i64 r.ms) ∧ w.cell? ⟨b, off + i * 16 + 7, none⟩ = some (.int .i64 r.ar) ∧ w.cell? ⟨b, off + i * 16 + 8, none⟩ = some (.int .i64 r.kn) ∧ w.cell? ⟨b, off + i * 16 + 9, none⟩ = some (.int .i64 r.kk) ∧ w.cell? ⟨b, off + i * 16 + 10, none⟩ = some (.int .i64 r.wh.op) ∧ w.cell? ⟨b, off + i * 16 + 11, none⟩ = some (.int .i64 r.wh.n) ∧ w.cell? ⟨b, off + i * 16 + 12, none⟩ = some (.slice r.wh.at' r.wh.ks.length r.wh.cap) ∧ w.cell? ⟨b, off + i * 16 + 13, none⟩ = some (.int .i64 r.pr.op) ∧ w.cell? ⟨b, off + i * 16 + 14, none⟩ = some (.int .i64 r.pr.n) ∧ w.cell? ⟨b, off + i * 16 + 15, none⟩ = some (.slice r.pr.at' r.pr.ks.length r.pr.cap) := by
 obtain ⟨r, b, off, h1, h2, h3, h4, h5⟩ := h.get hi
 have g := h5.out
 exact ⟨r, b, off, h1, h4, h2, h3, g 0 _ rfl, g 1 _ rfl, g 2 _ rfl, g 3 _ rfl, g 4 _ rfl, g 5 _ rfl, g 6 _ rfl, g 7 _ rfl, g 8 _ rfl, g 9 _ rfl, g 10 _ rfl, g 11 _ rfl, g 12 _ rfl, g 13 _ rfl, g 14 _ rfl, g 15 _ rfl⟩
theorem zero_bool (w : World) : (zeroValue 4).run Try.prog w = .ok (.bool false) w := by kernel_rfl
theorem rate_p (r : RateV) (w : World) (h : r.In w) (p : Bool) (hp : rateB r = p) :
  Calls Try.prog 18 #[.agg #[.int .i64 r.id, .int .i64 r.lv, .int .i64 r.kd, .int .i64 r.fr, .int .i64 r.un, .int .i64 r.ls, .int .i64 r.ms, .int .i64 r.ar, .int .i64 r.kn, .int .i64 r.kk, .int .i64 r.wh.op, .int .i64 r.wh.n, .slice r.wh.at' r.wh.ks.length r.wh.cap, .int .i64 r.pr.op, .int .i64 r.pr.n, .slice r.pr.at' r.pr.ks.length r.pr.cap]] w fun e w' => e = .returned (.tuple #[.bool p, .int .i64 (rateE r)]) ∧ Below w.heap.size w w' := by
 subst hp; exact rate_any r w h
theorem IMap.grown {w w' : World} {r : Nat} {f : List (Int × Value)} (h : IMap w r f) {s : Option Nat} (hg : w.grownBy w' s) (hn : s ≠ some r) : IMap w' r f := h.of_block (hg.block r h.lt (fun e => hn e.symm))
set_option maxRecDepth 100000 in
set_option maxHeartbeats 3200000 in
theorem valid_rates (a : Option Addr) (n cap : Nat) (l : List RateV) (w : World) (hm : n ≤ 9223372036854775807) (hs : SlR w a n l) :
  Calls Try.prog 20 #[.slice a n cap] w fun e w' => e = .returned (.bool (validR l)) ∧ Below w.heap.size w w' := by
 obtain ⟨R, hR⟩ : ∃ R, validR l = R := ⟨_, rfl⟩
 rw [hR]
 have HR := Lib.hid hR
 have HS := Lib.hid hs
 have HL := Lib.hid hs.1
 clear hR hs
 by_cases hn : n ≤ 100
 ·
  have hmm := @run_makeMap Try.prog
  have hzb := zero_bool
  have hi0 := imap_made w
  have HB0 : Below w.heap.size w (w.alloc (.map #[] 0)) := by (repeat' (first | (with_reducible first | exact Below.refl _ _ | assumption | exact Bw.out (by assumption) | refine bw_alloc ?_ _ | refine bw_step ?_ (by assumption) | refine Below.alloc ?_ ?_ _ | refine Below.drew ?_ | refine below_drewN ?_ _ | refine Below.setCell ?_ ?_ _ | refine below_step ?_ (by assumption) ?_ | exact Nat.le_refl _) | omega | (simp; omega) | (simp; done)))
  have hs0 : (w.alloc (.map #[] 0)).heap.size = w.heap.size + 1 := by simp
  go_enter Try.func20, Try.ntmps20
  go_wp2_with fail
  go_loopw [5, 6, 7, 14] (fun _ _ _ i wr => ∃ k : Nat, k ≤ n ∧ i = .int .i64 k ∧ Hid (((l.take k).all rateB && decide (((l.take k).map RateV.id).Nodup)) = true) ∧ Hid (IMap wr w.heap.size (seenM (l.take k))) ∧ Hid (Below w.heap.size w wr) ∧ Hid (w.heap.size < wr.heap.size)) (fun _ _ _ i _ => n - (intOf i).toNat)
  case atStart => exact ⟨0, Nat.zero_le _, rfl, by show _ = _; rw [List.take_zero]; simp, by rw [List.take_zero]; exact hi0, HB0, by show _ < _; omega⟩
  case round =>
   obtain ⟨k, hk, rfl, hT, hM, hB, hsz⟩ := hrel
   have hsz' := hsz.out
   by_cases hkn : k < n
   ·
    obtain ⟨r, b, off, hr, hrin, rfl, hlb, x0, x1, x2, x3, x4, x5, x6, x7, x8, x9, xa, xb, xc, xd, xe, xf⟩ := (HS.out.step hB.out).rate hkn
    obtain ⟨p, hp⟩ : ∃ p, rateB r = p := ⟨_, rfl⟩
    have HP := Lib.hid hp
    clear hp
    go_wp2_with fail
    have hal : Below wr.heap.size wr (wr.alloc (.cells #[.int .i64 r.id, .int .i64 r.lv, .int .i64 r.kd, .int .i64 r.fr, .int .i64 r.un, .int .i64 r.ls, .int .i64 r.ms, .int .i64 r.ar, .int .i64 r.kn, .int .i64 r.kk, .int .i64 r.wh.op, .int .i64 r.wh.n, .slice r.wh.at' r.wh.ks.length r.wh.cap, .int .i64 r.pr.op, .int .i64 r.pr.n, .slice r.pr.at' r.pr.ks.length r.pr.cap] 30)) := by (repeat' (first | (with_reducible first | exact Below.refl _ _ | assumption | exact Bw.out (by assumption) | refine bw_alloc ?_ _ | refine bw_step ?_ (by assumption) | refine Below.alloc ?_ ?_ _ | refine Below.drew ?_ | refine below_drewN ?_ _ | refine Below.setCell ?_ ?_ _ | refine below_step ?_ (by assumption) ?_ | exact Nat.le_refl _) | omega | (simp; omega) | (simp; done)))
    have RR : Row (wr.alloc (.cells #[.int .i64 r.id, .int .i64 r.lv, .int .i64 r.kd, .int .i64 r.fr, .int .i64 r.un, .int .i64 r.ls, .int .i64 r.ms, .int .i64 r.ar, .int .i64 r.kn, .int .i64 r.kk, .int .i64 r.wh.op, .int .i64 r.wh.n, .slice r.wh.at' r.wh.ks.length r.wh.cap, .int .i64 r.pr.op, .int .i64 r.pr.n, .slice r.pr.at' r.pr.ks.length r.pr.cap] 30)) wr.heap.size [.int .i64 r.id, .int .i64 r.lv, .int .i64 r.kd, .int .i64 r.fr, .int .i64 r.un, .int .i64 r.ls, .int .i64 r.ms, .int .i64 r.ar, .int .i64 r.kn, .int .i64 r.kk, .int .i64 r.wh.op, .int .i64 r.wh.n, .slice r.wh.at' r.wh.ks.length r.wh.cap, .int .i64 r.pr.op, .int .i64 r.pr.n, .slice r.pr.at' r.pr.ks.length r.pr.cap] := by (repeat' (first | (with_reducible assumption) | (with_reducible refine Row.new' _ _ _ (by first | rfl | (simp; done) | omega)) | (with_reducible refine Row.alloc ?_ _) | (with_reducible refine Row.drew ?_) | (with_reducible refine Row.drewN ?_ _) | (with_reducible refine Row.step ?_ (by with_reducible assumption))))
    refine (rate_p r _ (hrin.out.step hal) p HP.out).mono ?_
    rintro e w2 ⟨rfl, hb2⟩
    have R2 := RR.step hb2
    have hb3 := hal.trans (hb2.mono hal.size)
    have HM2 := Lib.hid (hM.out.below hb3)
    have HB2 : Hid (Below w.heap.size w w2) := hB.out.trans (hb3.mono hB.out.size)
    have hs2 := hb3.size
    clear hb2 hb3 hal RR x0 x1 x2 x3 x4 x5 x6 x7 x8 x9 xa xb xc xd xe xf
    have c0 := R2.cell 0 rfl
    have cl := R2.lt
    have HT2 := Lib.hid (validR_take hr.out)
    cases p with
    | false =>
     have hr : R = false := by
      rw [← HR.out]
      refine validR_no (k := k + 1) ?_
      rw [HT2.out, HP.out]; simp
     subst hr
     go_wp2_with fail
     go_ret
     exact ⟨rfl, HB2.out⟩
    | true =>
     by_cases hmem : r.id ∈ (l.take k).map RateV.id
     ·
      have HLK : Hid (look (seenM (l.take k)) r.id = some (.bool true)) := by show _ = _; rw [seen_look, if_pos hmem]
      have hr : R = false := by
       rw [← HR.out]
       refine validR_no (k := k + 1) ?_
       rw [HT2.out, decide_eq_true hmem]; simp
      subst hr
      clear hmem
      have hlu : Sem.run Try.prog (Instr.lookup 46 (.map (some w.heap.size)) (.int .i64 r.id) false) w2 = .ok (.bool true) w2 := by
       rw [run_lookup_imap Try.underlying46 Try.underlying3 HM2.out _ (hzb _) r.id false, HLK.out]; rfl
      go_wp2_with fail
      go_ret
      exact ⟨rfl, HB2.out⟩
     ·
      have HLK : Hid (look (seenM (l.take k)) r.id = none) := by show _ = _; rw [seen_look, if_neg hmem]
      have HTK : Hid (((l.take (k + 1)).all rateB && decide (((l.take (k + 1)).map RateV.id).Nodup)) = true) := by
       show _ = _
       rw [HT2.out, hT.out, HP.out, decide_eq_false hmem]; rfl
      have HSN : Hid (upd (seenM (l.take k)) r.id (.bool true) = seenM (l.take (k + 1))) := by
       show _ = _
       obtain ⟨hk2, e2⟩ := List.getElem?_eq_some_iff.1 hr.out
       rw [List.take_succ_eq_append_getElem hk2, e2, seenM_snoc]
      clear hmem
      have hlu : Sem.run Try.prog (Instr.lookup 46 (.map (some w.heap.size)) (.int .i64 r.id) false) w2 = .ok (.bool false) w2 := by
       rw [run_lookup_imap Try.underlying46 Try.underlying3 HM2.out _ (hzb _) r.id false, HLK.out]; rfl
      go_wp2_with (first
       | (refine wpList_update_imap _ rfl _ _ _ 46 (.inl rfl) 3 4 Try.underlying46 Try.underlying3 _ _ rfl HM2.out _ _ rfl rfl ?_; intro w5 hm5 hg5))
      have hm6 : IMap w5 w.heap.size (seenM (l.take (k + 1))) := by rw [← HSN.out]; exact hm5
      have hb6 := HB2.out.grown hg5 HB2.out.size (fun k e => by cases e; exact Nat.le_refl _)
      have hs6 := hg5.size
      have HM6 := Lib.hid hm6
      have HB6 := Lib.hid hb6
      clear hm5 hg5 hm6 hb6
      go_wp2_with fail
      go_roundw
      case rel => exact ⟨k + 1, by omega, by go_num, HTK, HM6, HB6, by show _ < _; omega⟩
      case measure => simp [intOf]; omega
   ·
    obtain rfl : k = n := by omega
    have hr : R = true := by
     rw [← HR.out]
     unfold validR
     have h1 := hT.out
     rw [List.take_of_length_le (by have := HL.out; omega)] at h1
     rw [h1, HL.out]
     simpa using hn
    subst hr
    go_wp2_with fail
    go_ret
    exact ⟨rfl, hB.out⟩
 ·
  have hr : R = false := by rw [← HR.out]; unfold validR; rw [HL.out]; simp; intro h; omega
  subst hr
  have hc : (100 : Int) < n := by omega
  clear hn
  go_enter Try.func20, Try.ntmps20
  go_wp2_with fail
  go_ret
  exact ⟨rfl, Below.refl _ _⟩
end Go.Proofs.Ytcmodmchnokmgaa
