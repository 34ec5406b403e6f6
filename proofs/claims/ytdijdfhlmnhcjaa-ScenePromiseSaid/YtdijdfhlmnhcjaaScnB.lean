/-
  Package scene, second part: sales in memory; areSales.
-/
import Derived.Test.YtdijdfhlmnhcjaaScnA
import Derived.Test.YtdijdfhlmnhcjaaFence
import Derived.Deep.OwnRows
import Derived.Deep.DeepCutAuto
namespace Go.Proofs.Ytdijdfhlmnhcjaa
set_option linter.unusedSimpArgs false
set_option linter.unusedVariables false
open Go.RowKit Go.MapKept

/-- A sale. -/
structure SaleV where
  id : Int
  ch : Int
  tm : Int
  cut : Bool
  kd : Int
  fr : Int
  un : Int
  pe : Int
def saleCells (x : SaleV) : List Value := [.int .i64 x.id, .int .i64 x.ch, .int .i64 x.tm, .bool x.cut, .int .i64 x.kd, .int .i64 x.fr, .int .i64 x.un, .int .i64 x.pe]
def saleVal (x : SaleV) : Value := .agg #[.int .i64 x.id, .int .i64 x.ch, .int .i64 x.tm, .bool x.cut, .int .i64 x.kd, .int .i64 x.fr, .int .i64 x.un, .int .i64 x.pe]
/-- The slice at a holds the sales l. -/
def SlS (w : World) (a : Option Addr) (n : Nat) (l : List SaleV) : Prop :=
  l.length = n ∧ ∀ i x, l[i]? = some x → ∃ b off, a = some ⟨b, off, none⟩ ∧ ∀ j v, (saleCells x)[j]? = some v → w.cell? ⟨b, off + i * 8 + j, none⟩ = some v
theorem SlS.nil (w : World) (a : Option Addr) : SlS w a 0 [] := ⟨rfl, fun i x h => by simp at h⟩
theorem SlS.below {w w1 : World} {a : Option Addr} {n B : Nat} {l : List SaleV} (h : SlS w a n l) (hb : Below B w w1) (hB : ∀ b o, a = some ⟨b, o, none⟩ → 0 < n → b < B) : SlS w1 a n l := by
  refine ⟨h.1, fun i x hx => ?_⟩
  obtain ⟨b, off, ha, h1⟩ := h.2 i x hx
  have hi : i < l.length := (List.getElem?_eq_some_iff.1 hx).1
  have hlt : b < B := hB b off ha (by have := h.1; omega)
  exact ⟨b, off, ha, fun j v hj => (hb.cell (p := ⟨b, off + i * 8 + j, none⟩) hlt).trans (h1 j v hj)⟩
theorem SlS.lt {w : World} {a : Option Addr} {n : Nat} {l : List SaleV} (h : SlS w a n l) : ∀ b o, a = some ⟨b, o, none⟩ → 0 < n → b < w.heap.size := fun b o e h0 => by
  have hl := h.1
  obtain ⟨b', off, ha, h1⟩ := h.2 0 (l[0]'(by omega)) (List.getElem?_eq_getElem (by omega))
  rw [e] at ha
  cases ha
  exact World.block_lt_of_cell? w _ (h1 0 _ rfl)
theorem SlS.step {w w1 : World} {a : Option Addr} {n : Nat} {l : List SaleV} (h : SlS w a n l) (hb : Below w.heap.size w w1) : SlS w1 a n l := h.below hb h.lt
theorem SlS.get {w : World} {a : Option Addr} {n : Nat} {l : List SaleV} (h : SlS w a n l) {i : Nat} (hi : i < n) :
    ∃ (x : SaleV) (b off : Nat), Hid (l[i]? = some x) ∧ a = some ⟨b, off, none⟩ ∧ b < w.heap.size ∧
      w.cell? ⟨b, off + i * 8, none⟩ = some (.int .i64 x.id) ∧ w.cell? ⟨b, off + i * 8 + 1, none⟩ = some (.int .i64 x.ch) ∧ w.cell? ⟨b, off + i * 8 + 2, none⟩ = some (.int .i64 x.tm) ∧ w.cell? ⟨b, off + i * 8 + 3, none⟩ = some (.bool x.cut) ∧
      w.cell? ⟨b, off + i * 8 + 4, none⟩ = some (.int .i64 x.kd) ∧ w.cell? ⟨b, off + i * 8 + 5, none⟩ = some (.int .i64 x.fr) ∧ w.cell? ⟨b, off + i * 8 + 6, none⟩ = some (.int .i64 x.un) ∧ w.cell? ⟨b, off + i * 8 + 7, none⟩ = some (.int .i64 x.pe) := by
  have hl := h.1
  have hx : l[i]? = some (l[i]'(by omega)) := List.getElem?_eq_getElem (by omega)
  obtain ⟨b, off, ha, h1⟩ := h.2 i _ hx
  exact ⟨_, b, off, hx, ha, World.block_lt_of_cell? w _ (h1 0 _ rfl), h1 0 _ rfl, h1 1 _ rfl, h1 2 _ rfl, h1 3 _ rfl, h1 4 _ rfl, h1 5 _ rfl, h1 6 _ rfl, h1 7 _ rfl⟩

/-- A sale that is one. -/
def saleB (x : SaleV) : Bool := inR x.id 1 1000000 && (inR x.ch 0 29 && (inR x.tm 0 999999999 && askB x.kd x.fr x.un x.pe))
def salesB (l : List SaleV) : Bool := l.all saleB && (decide ((l.map SaleV.id).Nodup) && decide (l.length ≤ 14000))
theorem salesB_in {l : List SaleV} (h : salesB l = true) : (∀ x ∈ l, saleB x = true) ∧ (l.map SaleV.id).Nodup ∧ l.length ≤ 14000 := by
  unfold salesB at h
  simp only [Bool.and_eq_true, decide_eq_true_eq, List.all_eq_true] at h
  exact ⟨h.1, h.2.1, h.2.2⟩
theorem askB_in {k f u p : Int} (h : askB k f u p = true) : (1 ≤ k ∧ k ≤ 20) ∧ (0 ≤ f ∧ f ≤ 366) ∧ (f < u ∧ u ≤ 366 ∧ u ≤ f + 60) ∧ (1 ≤ p ∧ p ≤ 8) := by
  unfold askB at h
  simp only [Bool.and_eq_true, inR_iff] at h
  obtain ⟨h1, h2, h3, h4⟩ := h
  refine ⟨h1, h2, ?_, h4⟩
  unfold askU at h3
  split at h3 <;> omega
theorem saleB_in {x : SaleV} (h : saleB x = true) : (1 ≤ x.id ∧ x.id ≤ 1000000) ∧ (0 ≤ x.ch ∧ x.ch ≤ 29) ∧ (0 ≤ x.tm ∧ x.tm ≤ 999999999) ∧ askB x.kd x.fr x.un x.pe = true := by
  unfold saleB at h
  simp only [Bool.and_eq_true, inR_iff] at h
  exact h
/-- The ids seen up to k. -/
def SeenI (f : List (Int × Value)) (ids : List Int) : Prop := ∀ c, look f c = if c ∈ ids then some (.bool true) else none
theorem SeenI.start : SeenI [] [] := fun c => by simp [look]
theorem SeenI.put {f : List (Int × Value)} {ids : List Int} (h : SeenI f ids) (k : Int) : SeenI (upd f k (.bool true)) (ids ++ [k]) := fun c => by
  rw [look_upd, h c]
  by_cases hc : c = k
  · subst hc; simp
  · simp [hc]
theorem underlying_map : Try.prog.underlying 48 = some (.map 3 4) := Try.underlying48
theorem zero_bool (w : World) : (zeroValue 4).run Try.prog w = .ok (.bool false) w := by kernel_rfl
theorem IMap.notCells {w : World} {r : Nat} {f : List (Int × Value)} (h : IMap w r f) : ∃ o : Obj, w.heap[r]? = some o ∧ o.isCells = false := by
  obtain ⟨es, c, hb, _⟩ := h
  exact ⟨_, hb, rfl⟩
/-- What a look-up of an int in a map of bools gives. -/
theorem run_seen {w : World} {r : Nat} {f : List (Int × Value)} {ids : List Int} (h : IMap w r f) (hs : SeenI f ids) (k : Int) :
    (Instr.lookup 48 (.map (some r)) (.int .i64 k) false).run Try.prog w = .ok (.bool (decide (k ∈ ids))) w := by
  have := run_lookup_imap (P := Try.prog) (w := w) underlying_map Try.underlying3 h (.bool false) (zero_bool w) k false
  rw [this, hs k]
  by_cases hk : k ∈ ids <;> simp [hk]
theorem take_ids {l : List SaleV} {k : Nat} {x : SaleV} (h : l[k]? = some x) : (l.take (k + 1)).map SaleV.id = (l.take k).map SaleV.id ++ [x.id] := by
  obtain ⟨hk, e⟩ := List.getElem?_eq_some_iff.1 h
  rw [List.take_succ_eq_append_getElem hk, List.map_append, e]
  rfl
theorem take_all {l : List SaleV} {k : Nat} {x : SaleV} (h : l[k]? = some x) : (l.take (k + 1)).all saleB = ((l.take k).all saleB && saleB x) := by
  obtain ⟨hk, e⟩ := List.getElem?_eq_some_iff.1 h
  rw [List.take_succ_eq_append_getElem hk, List.all_append, e]
  simp
theorem salesB_bad {l : List SaleV} {x : SaleV} {k : Nat} (h : l[k]? = some x) (hb : saleB x = false) : salesB l = false := by
  unfold salesB
  rw [Bool.and_eq_false_iff]
  left
  rw [List.all_eq_false]
  exact ⟨x, List.mem_of_getElem? h, by simp [hb]⟩
theorem salesB_two {l : List SaleV} {x : SaleV} {k : Nat} (h : l[k]? = some x) (hm : x.id ∈ (l.take k).map SaleV.id) : salesB l = false := by
  unfold salesB
  rw [Bool.and_eq_false_iff]
  right
  rw [Bool.and_eq_false_iff]
  left
  rw [decide_eq_false_iff_not]
  intro hn
  have h1 : ((l.take (k + 1)).map SaleV.id).Sublist (l.map SaleV.id) := (List.take_sublist _ _).map _
  have h2 := hn.sublist h1
  rw [take_ids h] at h2
  rw [List.nodup_append] at h2
  exact h2.2.2 _ hm _ (by simp) rfl

set_option maxRecDepth 100000 in
set_option maxHeartbeats 3200000 in
theorem areSales_any (a : Option Addr) (n cap : Nat) (l : List SaleV) (w : World) (hm : n ≤ 9223372036854775807) (hs : SlS w a n l) (hwf : ∀ x ∈ l, -9223372036854775808 ≤ x.fr ∧ x.fr ≤ 9223372036854775807) (b : Bool) (hb : salesB l = b) :
    Calls Try.prog 36 #[.slice a n cap] w fun e w' => e = .returned (.bool b) ∧ Below w.heap.size w w' := by
  have HS := Lib.hid hs
  have HL := Lib.hid hs.1
  have HB := Lib.hid hb
  have HW := Lib.hid hwf
  clear hs hb hwf
  go_enter Try.func36, Try.ntmps36
  have hmkm := @run_makeMap Try.prog
  go_wp2_with fail
  generalize hW1 : w.alloc (.map #[] 0) = w1
  have HM0 : Hid (IMap w1 w.heap.size []) := by show IMap _ _ _; rw [← hW1]; exact imap_made _
  have HB1 : Hid (Below w.heap.size w w1) := by show Below _ _ _; rw [← hW1]; (repeat' (first | (with_reducible exact Below.refl _ _) | (with_reducible assumption) | (with_reducible exact Bw.out (by with_reducible assumption)) | (with_reducible refine bw_alloc ?_ _) | (with_reducible refine bw_step ?_ (by with_reducible assumption)) | (with_reducible refine Below.alloc ?_ ?_ _) | (with_reducible refine Below.drew ?_) | (with_reducible refine below_drewN ?_ _) | (with_reducible refine Below.setCell ?_ ?_ _) | (with_reducible refine below_step ?_ (by with_reducible assumption) ?_) | (with_reducible exact Nat.le_refl _) | omega | (simp; omega) | (simp; done)))
  clear hW1
  go_loopw [9] (fun vi wr => ∃ (k : Nat) (f : List (Int × Value)), k ≤ n ∧ vi = .int .i64 k ∧ Hid ((l.take k).all saleB = true) ∧ Hid (((l.take k).map SaleV.id).Nodup) ∧ Hid (SeenI f ((l.take k).map SaleV.id)) ∧ Hid (IMap wr w.heap.size f) ∧ Hid (Below w.heap.size w wr)) (fun vi _ => n - (intOf vi).toNat)
  case atStart => exact ⟨0, [], Nat.zero_le _, rfl, by show _ = _; simp, by show List.Nodup _; simp, by show SeenI _ _; simpa using SeenI.start, HM0.out, HB1.out⟩
  case round =>
    obtain ⟨k, f, hk, rfl, hA, hN, hF, hI, hB⟩ := hrel
    by_cases hlt : k < n
    · obtain ⟨x, bb, off, hx, rfl, _, c0, c1, c2, c3, c4, c5, c6, c7⟩ := (HS.out.step hB.out).get hlt
      obtain ⟨id, ch, tm, ct, kd, fr, un, pe⟩ := x
      simp only [] at c0 c1 c2 c3 c4 c5 c6 c7
      have hwx := HW.out _ (List.mem_of_getElem? hx.out)
      simp only [] at hwx
      obtain ⟨wx0, wx1⟩ := hwx
      have i1 : (0 : Int) ≤ (k : Int) := by omega
      have i2 : (k : Int) < (n : Int) := by omega
      have hsz := hB.out.size
      go_upto_region 5 with fail
      have R4 : Row (wr.alloc (.cells #[.int .i64 id, .int .i64 ch, .int .i64 tm, .bool ct, .int .i64 kd, .int .i64 fr, .int .i64 un, .int .i64 pe] 44)) wr.heap.size [.int .i64 id, .int .i64 ch, .int .i64 tm, .bool ct, .int .i64 kd, .int .i64 fr, .int .i64 un, .int .i64 pe] := Row.new' _ _ _ rfl
      have hI4 := hI.out.alloc (.cells #[.int .i64 id, .int .i64 ch, .int .i64 tm, .bool ct, .int .i64 kd, .int .i64 fr, .int .i64 un, .int .i64 pe] 44)
      have hB4 : Below w.heap.size w (wr.alloc (.cells #[.int .i64 id, .int .i64 ch, .int .i64 tm, .bool ct, .int .i64 kd, .int .i64 fr, .int .i64 un, .int .i64 pe] 44)) := hB.out.alloc hsz _
      obtain ⟨w4, hw4⟩ : ∃ W, wr.alloc (.cells #[.int .i64 id, .int .i64 ch, .int .i64 tm, .bool ct, .int .i64 kd, .int .i64 fr, .int .i64 un, .int .i64 pe] 44) = W := ⟨_, rfl⟩
      rw [hw4] at R4 hI4 hB4
      try rw [hw4]
      obtain ⟨g4, hg4⟩ : ∃ g, wr.heap.size = g := ⟨_, rfl⟩
      rw [hg4] at R4
      try rw [hg4]
      have hlk := run_seen hI4 hF.out id
      have HR4 := Lib.hid R4
      have HI4 := Lib.hid hI4
      have HB4 := Lib.hid hB4
      have q0 := R4.cell 0 rfl
      have q1 := R4.cell 1 rfl
      have q2 := R4.cell 2 rfl
      have q4 := R4.cell 4 rfl
      have q5 := R4.cell 5 rfl
      have q6 := R4.cell 6 rfl
      have q7 := R4.cell 7 rfl
      clear hw4 hg4 R4 hI4 hB4 c0 c1 c2 c3 c4 c5 c6 c7 hB hI
      by_cases hmem : id ∈ (l.take k).map SaleV.id
      · have hbf : b = false := by rw [← HB.out]; exact salesB_two hx.out hmem
        subst hbf
        rw [decide_eq_true hmem] at hlk
        clear hmem hx hA hN hF
        go_wp2_with fail
        go_ret
        exact ⟨rfl, HB4.out⟩
      · have HNEW : Hid (¬ id ∈ (l.take k).map SaleV.id) := hmem
        rw [decide_eq_false hmem] at hlk
        clear hmem
        go_wp2_with fail
        cases h1 : inR id 1 1000000 with
        | false =>
          have hbf : b = false := by rw [← HB.out]; exact salesB_bad hx.out (by simp [saleB, h1])
          subst hbf
          refine (s_within _ _ _ _ false (by assumption)).mono ?_
          rintro e w' ⟨rfl, rfl⟩
          go_wp2_with fail
          go_ret
          exact ⟨rfl, HB4.out⟩
        | true =>
          refine (s_within _ _ _ _ true (by assumption)).mono ?_
          rintro e w' ⟨rfl, rfl⟩
          go_wp2_with fail
          cases h2 : inR ch 0 29 with
          | false =>
            have hbf : b = false := by rw [← HB.out]; exact salesB_bad hx.out (by simp [saleB, h2])
            subst hbf
            refine (s_within _ _ _ _ false (by assumption)).mono ?_
            rintro e w' ⟨rfl, rfl⟩
            go_wp2_with fail
            go_ret
            exact ⟨rfl, HB4.out⟩
          | true =>
            refine (s_within _ _ _ _ true (by assumption)).mono ?_
            rintro e w' ⟨rfl, rfl⟩
            go_wp2_with fail
            cases h3 : inR tm 0 999999999 with
            | false =>
              have hbf : b = false := by rw [← HB.out]; exact salesB_bad hx.out (by simp [saleB, h3])
              subst hbf
              refine (s_within _ _ _ _ false (by assumption)).mono ?_
              rintro e w' ⟨rfl, rfl⟩
              go_wp2_with fail
              go_ret
              exact ⟨rfl, HB4.out⟩
            | true =>
              refine (s_within _ _ _ _ true (by assumption)).mono ?_
              rintro e w' ⟨rfl, rfl⟩
              go_wp2_with fail
              cases h4 : askB kd fr un pe with
              | false =>
                have hbf : b = false := by rw [← HB.out]; exact salesB_bad hx.out (by simp [saleB, h4])
                subst hbf
                refine (isAsk_any kd fr un pe _ false h4 wx0 wx1).mono ?_
                rintro e w5 ⟨rfl, hb5⟩
                have HB5 : Hid (Below w.heap.size w w5) := HB4.out.trans (hb5.mono HB4.out.size)
                clear hb5
                go_wp2_with fail
                go_ret
                exact ⟨rfl, HB5.out⟩
              | true =>
                have HSB : Hid (saleB ⟨id, ch, tm, ct, kd, fr, un, pe⟩ = true) := by show _ = _; simp [saleB, h1, h2, h3, h4]
                refine (isAsk_any kd fr un pe _ true h4 wx0 wx1).mono ?_
                rintro e w5 ⟨rfl, hb5⟩
                have HB5 : Hid (Below w.heap.size w w5) := HB4.out.trans (hb5.mono HB4.out.size)
                have HI5 := Lib.hid (HI4.out.below hb5)
                have q05 := (HR4.out.step hb5).cell 0 rfl
                have l5 := (HR4.out.step hb5).lt
                clear hb5 q0 q1 q2 q4 q5 q6 q7 h1 h2 h3 h4 hlk
                go_wp2_with (at_mapUpdate; refine wpList_update_imap _ rfl _ _ _ 48 (Or.inl rfl) 3 4 underlying_map Try.underlying3 w.heap.size f rfl HI5.out id (.bool true) rfl rfl ?_; intro w6 hI6 hg6; have HI6 := Lib.hid hI6; have HG6 := Lib.hid hg6; clear hI6 hg6)
                have HB6 := Lib.hid (HB5.out.grown HG6.out HB5.out.size (fun k e => by cases e; exact Nat.le_refl _))
                go_wp2_with fail
                go_roundw
                case rel =>
                  refine ⟨k + 1, _, by omega, by go_num, ?_, ?_, ?_, HI6.out, HB6.out⟩
                  · show _ = _; rw [take_all hx.out, hA.out, HSB.out]; rfl
                  · show List.Nodup _
                    rw [take_ids hx.out, List.nodup_append]
                    exact ⟨hN.out, by simp, fun y hy z hz => by simp at hz; subst hz; intro e; subst e; exact HNEW.out hy⟩
                  · show SeenI _ _; rw [take_ids hx.out]; exact hF.out.put id
                case measure => simp [intOf]; omega
    · obtain rfl : n = k := by omega
      have hbb : b = decide (n ≤ 14000) := by
        rw [← HB.out]
        unfold salesB
        have h1 := hA.out
        have h2 := hN.out
        rw [List.take_of_length_le (by rw [HL.out]; exact Nat.le_refl _)] at h1 h2
        rw [h1, Bool.true_and, decide_eq_true h2, Bool.true_and, HL.out]
      subst hbb
      go_wp2_with fail
      go_ret
      exact ⟨ret_bool (by first | rfl | (simp; done) | (simp; omega)), hB.out⟩

end Go.Proofs.Ytdijdfhlmnhcjaa
