/-
 Texts built as one: XCgG, XCgH, XCgI, XCgJ.
-/
import Derived.Test.YtlmajlfhjbhdpaaGreatWC
import Derived.Test.YtlmajlfhjbhdpaaGreatWA
import Derived.Test.YtlmajlfhjbhdpaaGreatZR
import Derived.Test.YtlmajlfhjbhdpaaGreatWB
namespace Go.Proofs.YtlmajlfhjbhdpaaGreat
section
set_option linter.unusedSimpArgs false
set_option linter.unusedVariables false
open Go.RowKit Go.Shelf
theorem Ch.toBelow {A B : World} (h : Ch (fun _ => False) A B) : Below A.heap.size A B := ⟨h.1, h.2.1, h.2.2.1, h.2.2.2.1, fun k hk => h.2.2.2.2 k hk (fun x => x)⟩
set_option maxRecDepth 100000 in
set_option maxHeartbeats 3200000 in
theorem Remove_any (b : Option Addr) (n cap : Nat) (l : List StayV) (id : Int) (w : World) (hpb : PlA b) (hs : SlG stE w b n l) (hg : GoodL l) (hid : 1 ≤ id ∧ id ≤ 1000000) :
  Calls Tryz.prog 17 #[.slice b n cap, .int .i64 id] w fun e w' => ∃ (va : Option Addr) (vn vc : Nat) (er : Int), e = .returned (.tuple #[.slice va vn vc, .int .i64 er]) ∧ Below w.heap.size w w' ∧ (er = 0 → ∃ (i : Nat) (s : StayV), l[i]? = some s ∧ s.id = id ∧ OwnG stE 37 w' w.heap.size (.slice va vn vc) (l.eraseIdx i)) := by
 have hn := hg.len hs.1
 have HS := Lib.hid hs
 have HG := Lib.hid hg
 have HL := Lib.hid hs.1
 have HPB := Lib.hid hpb
 clear hs hg hpb
 obtain ⟨bi, hbi⟩ : ∃ bi, w.heap.size = bi := ⟨_, rfl⟩
 obtain ⟨W1, hW1⟩ : ∃ W1, w.alloc (.cells #[.int .i64 id] 3) = W1 := ⟨_, rfl⟩
 have hb1 : Below w.heap.size w W1 := by rw [← hW1]; (repeat' (first | (with_reducible first | exact Below.refl _ _ | assumption | exact Bw.out (by assumption) | refine bw_alloc ?_ _ | refine bw_step ?_ (by assumption) | refine Below.alloc ?_ ?_ _ | refine Below.drew ?_ | refine below_drewN ?_ _ | refine Below.setCell ?_ ?_ _ | refine below_step ?_ (by assumption) ?_ | exact Nat.le_refl _) | omega | (simp; omega) | (simp; done)))
 have q1 : Row W1 bi [.int .i64 id] := by rw [← hW1, ← hbi]; (repeat' (first | (with_reducible assumption) | (with_reducible refine Row.new' _ _ _ (by first | rfl | (simp; done) | omega)) | (with_reducible first | refine Row.alloc ?_ _ | refine Row.drew ?_ | refine Row.step ?_ (by assumption) | refine Row.drewN ?_ _) | (with_reducible refine Row.set2' ?_ _ _; first | exact ⟨_, _, by assumption⟩ | exact ⟨_, _, Row.alloc (by assumption) _⟩) | (with_reducible refine Row.other ?_ (by first | omega | (simp; omega)) _)))
 have HB1 := Lib.hid hb1
 have HQ1 := Lib.hid q1
 have HS1 := Lib.hid (HS.out.step hb1)
 have HID := Lib.hid hid
 clear hb1 q1
 go_enter Tryz.func17, Tryz.ntmps17
 go_wp2_with fail
 refine (sValid_yes b n cap l W1 HS1.out HG.out).mono ?_
 rintro e w2 ⟨rfl, hb2⟩
 have HS2 := Lib.hid (HS1.out.step hb2)
 have HQ2 := Lib.hid (HQ1.out.step hb2)
 have HB2 : Hid (Below w.heap.size w w2) := HB1.out.trans (hb2.mono HB1.out.size)
 have c0 := HQ2.out.cell 0 rfl
 clear hb2
 go_wp2_with fail
 refine (isID_p id HID.out w2).mono ?_
 rintro e w2' ⟨rfl, rfl⟩
 go_wp2_with fail
 refine (findT_any b n cap l id w2' (by omega) HS2.out).mono ?_
 rintro e w3 ⟨i, ok, rfl, hyes, hno, hb3⟩
 have HS3 := Lib.hid (HS2.out.step hb3)
 have HQ3 := Lib.hid (HQ2.out.step hb3)
 have HB3 : Hid (Below w.heap.size w w3) := HB2.out.trans (hb3.mono HB2.out.size)
 clear hb3
 cases ok with
 | false =>
  clear hyes hno
  go_wp2_with fail
  refine bodyPost_ret (v := .tuple #[.slice none 0 0, .int .i64 4]) (by simp [results, Tryz.results17, go_sem]) rfl ?_
  exact ⟨none, 0, 0, 4, rfl, HB3.out, (fun h => by cases h)⟩
 | true =>
  obtain ⟨s, hsi, hsid⟩ := hyes rfl
  have hil : i < n := by have := (List.getElem?_eq_some_iff.1 hsi).1; rw [HL.out] at this; exact this
  have HSI := Lib.hid hsi
  have HSD := Lib.hid hsid
  have hb3s := HB3.out.size
  have hbl := HQ3.out.lt
  have hch := changed_any (fun x => x) 42 #[.pointer (some ⟨bi, 0, none⟩)] (enters_of Tryz.func42 (by kernel_rfl) rfl) (fun _ => False) (fun _ W => Row W bi [.int .i64 id]) b n cap l w3 HPB.out HS3.out (by omega) (fun k h => h.elim) (fun W hb => HQ3.out.step hb) (fun j x g cur W hx hc hgl ho hJ =>
   (removes_any id bi j g n w3.heap.size x cur W (by have := HID.out; omega) (HG.out.each x (List.mem_of_getElem? hx)).2.2.2.2.2.1 hJ hc ho).mono (fun e W' h => by
    obtain ⟨rfl, h2, h3⟩ := h
    exact ⟨rfl, h2, hJ.ch h3 (by omega), h3.mono (fun k _ h => .inl h)⟩))
  clear hsi hsid hyes hno
  go_wp2_with fail
  refine hch.mono ?_
  rintro e w4 ⟨g, rfl, ho4, -, hc4⟩
  rw [List.map_id'] at ho4
  have HO4 := Lib.hid ho4
  have HC4 := Lib.hid hc4.toBelow
  clear hch ho4 hc4
  go_wp2_with fail
  refine (delete_any w3.heap.size g n n i l w4 hil (by omega) HO4.out).mono ?_
  rintro e w5 ⟨rfl, ho5, hc5⟩
  have HO5 := Lib.hid ho5
  have HB5 : Hid (Below w.heap.size w w5) := (hc5.below HC4.out (fun k hk => by have := HO4.out.form.choose_spec.2.1; omega) HC4.out.size) |> fun h => HB3.out.trans (h.mono HB3.out.size)
  clear ho5 hc5
  go_wp2_with fail
  refine bodyPost_ret (v := .tuple #[.slice (some ⟨g, 0, none⟩) (n - 1) n, .int .i64 0]) (by simp [results, Tryz.results17, go_sem]) rfl ?_
  exact ⟨_, _, _, 0, rfl, HB5.out, fun _ => ⟨i, s, HSI.out, HSD.out, HO5.out.mono hb3s⟩⟩
/-- A stay that is in a room meets another one there. -/
def meetB (s t : StayV) : Bool := t.inn && (decide (t.rm = s.rm) && (decide (t.fr < s.un) && decide (s.fr < t.un)))
set_option maxRecDepth 100000 in
set_option maxHeartbeats 3200000 in
theorem meets_any (s t : StayV) (bs : Nat) (w : World) (hr : Row w bs (stE.c s)) :
  Calls Tryz.prog 34 #[.agg (stE.c t).toArray, .pointer (some ⟨bs, 0, none⟩)] w fun e w' => e = .returned (.bool (meetB s t)) ∧ Below w.heap.size w w' := by
 show Calls Tryz.prog _ #[.agg #[.int .i64 t.id, .int .i64 t.kd, .int .i64 t.fr, .int .i64 t.un, .int .i64 t.ps, .int .i64 t.rm, .int .i64 t.wt, .bool t.ac, .bool t.inn], _] _ _
 have c2 := hr.cell 2 rfl
 have c3 := hr.cell 3 rfl
 have c5 := hr.cell 5 rfl
 have hl := hr.lt
 clear hr
 obtain ⟨inn, hin⟩ : ∃ inn, t.inn = inn := ⟨_, rfl⟩
 rw [hin]
 have HIN := Lib.hid hin
 clear hin
 cases inn with
 | false =>
  go_enter Tryz.func34, Tryz.ntmps34
  go_wp2_with fail
  go_ret
  exact ⟨by unfold meetB; rw [HIN.out]; rfl, by (repeat' (first | (with_reducible first | exact Below.refl _ _ | assumption | exact Bw.out (by assumption) | refine bw_alloc ?_ _ | refine bw_step ?_ (by assumption) | refine Below.alloc ?_ ?_ _ | refine Below.drew ?_ | refine below_drewN ?_ _ | refine Below.setCell ?_ ?_ _ | refine below_step ?_ (by assumption) ?_ | exact Nat.le_refl _) | omega | (simp; omega) | (simp; done)))⟩
 | true =>
  by_cases h1 : t.rm = s.rm
  ·
   by_cases h2 : t.fr < s.un
   ·
    obtain ⟨q, hq⟩ : ∃ q, decide (s.fr < t.un) = q := ⟨_, rfl⟩
    have HQ := Lib.hid hq
    clear hq
    go_enter Tryz.func34, Tryz.ntmps34
    go_wp2_with fail
    go_ret
    exact ⟨by unfold meetB; rw [HIN.out, decide_eq_true h1, decide_eq_true h2, HQ.out]; rfl, by (repeat' (first | (with_reducible first | exact Below.refl _ _ | assumption | exact Bw.out (by assumption) | refine bw_alloc ?_ _ | refine bw_step ?_ (by assumption) | refine Below.alloc ?_ ?_ _ | refine Below.drew ?_ | refine below_drewN ?_ _ | refine Below.setCell ?_ ?_ _ | refine below_step ?_ (by assumption) ?_ | exact Nat.le_refl _) | omega | (simp; omega) | (simp; done)))⟩
   ·
    skip
    go_enter Tryz.func34, Tryz.ntmps34
    go_wp2_with fail
    go_ret
    exact ⟨by unfold meetB; rw [HIN.out, decide_eq_true h1, decide_eq_false (show ¬ t.fr < s.un by omega)]; rfl, by (repeat' (first | (with_reducible first | exact Below.refl _ _ | assumption | exact Bw.out (by assumption) | refine bw_alloc ?_ _ | refine bw_step ?_ (by assumption) | refine Below.alloc ?_ ?_ _ | refine Below.drew ?_ | refine below_drewN ?_ _ | refine Below.setCell ?_ ?_ _ | refine below_step ?_ (by assumption) ?_ | exact Nat.le_refl _) | omega | (simp; omega) | (simp; done)))⟩
  ·
   skip
   go_enter Tryz.func34, Tryz.ntmps34
   go_wp2_with fail
   go_ret
   exact ⟨by unfold meetB; rw [HIN.out, decide_eq_false (show ¬ t.rm = s.rm from h1)]; rfl, by (repeat' (first | (with_reducible first | exact Below.refl _ _ | assumption | exact Bw.out (by assumption) | refine bw_alloc ?_ _ | refine bw_step ?_ (by assumption) | refine Below.alloc ?_ ?_ _ | refine Below.drew ?_ | refine below_drewN ?_ _ | refine Below.setCell ?_ ?_ _ | refine below_step ?_ (by assumption) ?_ | exact Nat.le_refl _) | omega | (simp; omega) | (simp; done)))⟩
end
section
set_option linter.unusedSimpArgs false
set_option linter.unusedVariables false
open Go.RowKit Go.Shelf
/-- The stay with a number arrives. -/
def arrF (id : Int) (x : StayV) : StayV := { x with inn := x.inn || decide (x.id = id) }
set_option maxRecDepth 100000 in
set_option maxHeartbeats 6400000 in
theorem Arrive_any (a b : Option Addr) (m mc n cap : Nat) (RL : List RoomV) (l : List StayV) (id : Int) (w : World) (hm : m ≤ 1000) (hr : SlM w a m RL) (hv : validM RL = true) (hpb : PlA b) (hs : SlG stE w b n l) (hg : GoodL l) (hid : 1 ≤ id ∧ id ≤ 1000000) :
  Calls Tryz.prog 13 #[.slice a m mc, .slice b n cap, .int .i64 id] w fun e w' => ∃ (va : Option Addr) (vn vc : Nat) (er : Int), e = .returned (.tuple #[.slice va vn vc, .int .i64 er]) ∧ Below w.heap.size w w' ∧ (er = 0 → vn = n ∧ OwnG stE 37 w' w.heap.size (.slice va vn vc) (l.map (arrF id))) ∧
   ((∃ s ∈ l, s.id = id) → (∀ s ∈ l, s.id = id → s.inn = false ∧ (∃ r ∈ RL, r.id = s.rm) ∧ (∀ r ∈ RL, r.id = s.rm → suitB s r = true) ∧ ∀ t ∈ l, meetB s t = false) → er = 0) := by
 have hn := hg.len hs.1
 have HS := Lib.hid hs
 have HG := Lib.hid hg
 have HL := Lib.hid hs.1
 have HPB := Lib.hid hpb
 have HR := Lib.hid hr
 have HV := Lib.hid hv
 clear hs hg hpb hr hv
 obtain ⟨bi, hbi⟩ : ∃ bi, w.heap.size = bi := ⟨_, rfl⟩
 obtain ⟨W1, hW1⟩ : ∃ W1, w.alloc (.cells #[.int .i64 id] 3) = W1 := ⟨_, rfl⟩
 have hb1 : Below w.heap.size w W1 := by rw [← hW1]; (repeat' (first | (with_reducible first | exact Below.refl _ _ | assumption | exact Bw.out (by assumption) | refine bw_alloc ?_ _ | refine bw_step ?_ (by assumption) | refine Below.alloc ?_ ?_ _ | refine Below.drew ?_ | refine below_drewN ?_ _ | refine Below.setCell ?_ ?_ _ | refine below_step ?_ (by assumption) ?_ | exact Nat.le_refl _) | omega | (simp; omega) | (simp; done)))
 have q1 : Row W1 bi [.int .i64 id] := by rw [← hW1, ← hbi]; (repeat' (first | (with_reducible assumption) | (with_reducible refine Row.new' _ _ _ (by first | rfl | (simp; done) | omega)) | (with_reducible first | refine Row.alloc ?_ _ | refine Row.drew ?_ | refine Row.step ?_ (by assumption) | refine Row.drewN ?_ _) | (with_reducible refine Row.set2' ?_ _ _; first | exact ⟨_, _, by assumption⟩ | exact ⟨_, _, Row.alloc (by assumption) _⟩) | (with_reducible refine Row.other ?_ (by first | omega | (simp; omega)) _)))
 have HB1 := Lib.hid hb1
 have HQ1 := Lib.hid q1
 have HS1 := Lib.hid (HS.out.step hb1)
 have HR1 := Lib.hid (HR.out.step hb1)
 have HID := Lib.hid hid
 clear hb1 q1
 go_enter Tryz.func13, Tryz.ntmps13
 go_wp2_with fail
 refine (rvalid_p a m mc RL W1 (by omega) HR1.out true HV.out).mono ?_
 rintro e w1 ⟨rfl, hb1⟩
 have HSa := Lib.hid (HS1.out.step hb1)
 have HRa := Lib.hid (HR1.out.step hb1)
 have HQa := Lib.hid (HQ1.out.step hb1)
 have HBa : Hid (Below w.heap.size w w1) := HB1.out.trans (hb1.mono HB1.out.size)
 clear hb1
 go_wp2_with fail
 refine (sValid_yes b n cap l w1 HSa.out HG.out).mono ?_
 rintro e w2 ⟨rfl, hb2⟩
 have HS2 := Lib.hid (HSa.out.step hb2)
 have HR2 := Lib.hid (HRa.out.step hb2)
 have HQ2 := Lib.hid (HQa.out.step hb2)
 have HB2 : Hid (Below w.heap.size w w2) := HBa.out.trans (hb2.mono HBa.out.size)
 have c0 := HQ2.out.cell 0 rfl
 clear hb2
 go_wp2_with fail
 refine (isID_p id HID.out w2).mono ?_
 rintro e w2' ⟨rfl, rfl⟩
 go_wp2_with fail
 refine (findT_any b n cap l id w2' (by omega) HS2.out).mono ?_
 rintro e w3 ⟨i, ok, rfl, hyes, hno, hb3⟩
 have HS3 := Lib.hid (HS2.out.step hb3)
 have HR3 := Lib.hid (HR2.out.step hb3)
 have HQ3 := Lib.hid (HQ2.out.step hb3)
 have HB3 : Hid (Below w.heap.size w w3) := HB2.out.trans (hb3.mono HB2.out.size)
 clear hb3
 cases ok with
 | false =>
  have HNO := Lib.hid (hno rfl)
  clear hyes hno
  go_wp2_with fail
  refine bodyPost_ret (v := .tuple #[.slice none 0 0, .int .i64 4]) (by simp [results, Tryz.results13, go_sem]) rfl ?_
  exact ⟨none, 0, 0, 4, rfl, HB3.out, (fun h => by cases h), fun ⟨s, hs, h⟩ => absurd h (HNO.out s hs)⟩
 | true =>
  obtain ⟨s, hsi, hsid⟩ := hyes rfl
  have hil : i < n := by have := (List.getElem?_eq_some_iff.1 hsi).1; rw [HL.out] at this; exact this
  obtain ⟨s', gs, off1, hsx, rfl, hlb1, x0, x1, x2, x3, x4, x5, x6, x7, x8⟩ := slT_get HS3.out hil
  have hss : s' = s := by have := hsx.out; rw [hsi] at this; cases this; rfl
  subst hss
  have HSM : Hid (s' ∈ l) := List.mem_of_getElem? hsi
  have HSD := Lib.hid hsid
  have i1 : (0 : Int) ≤ (i : Int) := by omega
  have i2 : (i : Int) < (n : Int) := by omega
  clear hsi hsid hyes hno hsx
  obtain ⟨inn, hin⟩ : ∃ inn, s'.inn = inn := ⟨_, rfl⟩
  rw [hin] at x8
  have HIN := Lib.hid hin
  clear hin
  cases inn with
  | true =>
   go_wp2_with fail
   refine bodyPost_ret (v := .tuple #[.slice none 0 0, .int .i64 6]) (by simp [results, Tryz.results13, go_sem]) rfl ?_
   exact ⟨none, 0, 0, 6, rfl, HB3.out, (fun h => by cases h), fun _ h => by have := (h s' HSM.out HSD.out).1; rw [HIN.out] at this; cases this⟩
  | false =>
   obtain ⟨bs, hbs⟩ : ∃ bs, w3.heap.size = bs := ⟨_, rfl⟩
   obtain ⟨w4, hw4⟩ : ∃ w4, w3.alloc (.cells #[.int .i64 s'.id, .int .i64 s'.kd, .int .i64 s'.fr, .int .i64 s'.un, .int .i64 s'.ps, .int .i64 s'.rm, .int .i64 s'.wt, .bool s'.ac, .bool false] 37) = w4 := ⟨_, rfl⟩
   have hb4 : Below w3.heap.size w3 w4 := by rw [← hw4]; exact (Below.refl _ _).alloc (Nat.le_refl _) _
   have hr4 : Row w4 bs (stE.c s') := by
    rw [← hw4, ← hbs]
    show Row _ _ [.int .i64 s'.id, .int .i64 s'.kd, .int .i64 s'.fr, .int .i64 s'.un, .int .i64 s'.ps, .int .i64 s'.rm, .int .i64 s'.wt, .bool s'.ac, .bool s'.inn]
    rw [HIN.out]
    exact Row.new' _ _ _ rfl
   have HRB := Lib.hid hr4
   have HS4 := Lib.hid (HS3.out.step hb4)
   have HR4 := Lib.hid (HR3.out.step hb4)
   have HQ4 := Lib.hid (HQ3.out.step hb4)
   have HB4 : Hid (Below w.heap.size w w4) := HB3.out.trans (hb4.mono HB3.out.size)
   have HW4 := Lib.hid hw4
   clear hb4 hr4 hw4
   go_wp2_with fail
   rw [HW4.out]
   clear HW4
   refine (findM_any a m mc RL s'.rm w4 (by omega) HR4.out).mono ?_
   rintro e w5 ⟨j, ok, rfl, hyes, hno, hb5⟩
   have HS5 := Lib.hid (HS4.out.step hb5)
   have HR5 := Lib.hid (HR4.out.step hb5)
   have HQ5 := Lib.hid (HQ4.out.step hb5)
   have HRB5 := Lib.hid (HRB.out.step hb5)
   have HB5 : Hid (Below w.heap.size w w5) := HB4.out.trans (hb5.mono HB4.out.size)
   clear hb5
   cases ok with
   | false =>
    have HNO := Lib.hid (hno rfl)
    clear hyes hno
    go_wp2_with fail
    refine bodyPost_ret (v := .tuple #[.slice none 0 0, .int .i64 30]) (by simp [results, Tryz.results13, go_sem]) rfl ?_
    exact ⟨none, 0, 0, 30, rfl, HB5.out, (fun h => by cases h), fun _ h => by obtain ⟨r, hr, hh⟩ := (h s' HSM.out HSD.out).2.1; exact absurd hh (HNO.out r hr)⟩
   | true =>
    obtain ⟨r, hrj, hrid⟩ := hyes rfl
    have hjl : j < m := by have := (List.getElem?_eq_some_iff.1 hrj).1; rw [HR5.out.1.1] at this; exact this
    obtain ⟨r', gr, off2, hrx, hrin, rfl, hlb2, y0, y1, y2, y3, y4, y5⟩ := slM_get HR5.out hjl
    have hrr : r' = r := by have := hrx.out; rw [hrj] at this; cases this; rfl
    subst hrr
    have HRM : Hid (r' ∈ RL) := List.mem_of_getElem? hrj
    have HRD := Lib.hid hrid
    have j1 : (0 : Int) ≤ (j : Int) := by omega
    have j2 : (j : Int) < (m : Int) := by omega
    have n0 := HRB5.out.cell 0 rfl
    have n1 := HRB5.out.cell 1 rfl
    have n2 := HRB5.out.cell 2 rfl
    have n3 := HRB5.out.cell 3 rfl
    have n4 := HRB5.out.cell 4 rfl
    have n5 := HRB5.out.cell 5 rfl
    have n6 := HRB5.out.cell 6 rfl
    have n7 := HRB5.out.cell 7 rfl
    have n8 := HRB5.out.cell 8 rfl
    obtain ⟨p, hp⟩ : ∃ p, suitB s' r' = p := ⟨_, rfl⟩
    have HP := Lib.hid hp
    have hFT := Fits_p s' r' p hp w5.drew (HG.out.each s' HSM.out) (show r'.In w5.drew from hrin.out.step (Below.refl _ _).drew) ((validM_in HV.out).2.1 r' HRM.out)
    have HFT := Lib.hid hFT
    clear hrj hrid hyes hno hrx hp hFT x0 x1 x2 x3 x4 x5 x6 x7 x8 c0
    go_upto_region 12 with fail
    refine AnyJ.beginP (fun w' : World => w'.cell? ⟨bs, 0, none⟩ = some (.int .i64 s'.id) ∧ w'.cell? ⟨bs, 1, none⟩ = some (.int .i64 s'.kd) ∧ w'.cell? ⟨bs, 2, none⟩ = some (.int .i64 s'.fr) ∧ w'.cell? ⟨bs, 3, none⟩ = some (.int .i64 s'.un) ∧ w'.cell? ⟨bs, 4, none⟩ = some (.int .i64 s'.ps) ∧ w'.cell? ⟨bs, 5, none⟩ = some (.int .i64 s'.rm) ∧ w'.cell? ⟨bs, 6, none⟩ = some (.int .i64 s'.wt) ∧ w'.cell? ⟨bs, 7, none⟩ = some (.bool s'.ac) ∧ w'.cell? ⟨bs, 8, none⟩ = some (.bool s'.inn) ∧ w'.cell? ⟨gr, off2 + j * 6, none⟩ = some (.int .i64 r'.id) ∧ w'.cell? ⟨gr, off2 + j * 6 + 1, none⟩ = some (.int .i64 r'.ho) ∧ w'.cell? ⟨gr, off2 + j * 6 + 2, none⟩ = some (.int .i64 r'.kd) ∧ w'.cell? ⟨gr, off2 + j * 6 + 3, none⟩ = some (.int .i64 r'.jn) ∧ w'.cell? ⟨gr, off2 + j * 6 + 4, none⟩ = some (.bool r'.ac) ∧ w'.cell? ⟨gr, off2 + j * 6 + 5, none⟩ = some (.slice r'.ba r'.bl.length r'.bc)) (fun _ => true) (by kernel_rfl) ⟨n0, n1, n2, n3, n4, n5, n6, n7, n8, y0, y1, y2, y3, y4, y5⟩ (fun hS => ?_)
    refine AnyJ.takeD (i := 0) (d := some 57) (v := ?_) rfl (by kernel_rfl) (by kernel_rfl) (by kernel_rfl) (by kernel_rfl) (by kernel_rfl) (fun _ _ _ h => h) (Or.inl ⟨by kernel_rfl, ?_⟩) hS ?_
    rotate_left
    ·
     intro w' hS
     obtain ⟨e0, e1, e2, e3, e4, e5, e6, e7, e8, f0, f1, f2, f3, f4, f5⟩ := hS
     go_simp
     try with_reducible rfl
    refine AnyJ.takeD (i := 1) (d := some 58) (v := ?_) rfl (by kernel_rfl) (by kernel_rfl) (by kernel_rfl) (by kernel_rfl) (by kernel_rfl) (fun _ _ _ h => h) (Or.inl ⟨by kernel_rfl, ?_⟩) hS ?_
    rotate_left
    ·
     intro w' hS
     obtain ⟨e0, e1, e2, e3, e4, e5, e6, e7, e8, f0, f1, f2, f3, f4, f5⟩ := hS
     go_simp
     try with_reducible rfl
    refine AnyJ.takeD (i := 2) (d := some 59) (v := ?_) rfl (by kernel_rfl) (by kernel_rfl) (by kernel_rfl) (by kernel_rfl) (by kernel_rfl) (fun _ _ _ h => h) (Or.inl ⟨by kernel_rfl, ?_⟩) hS ?_
    rotate_left
    ·
     intro w' hS
     obtain ⟨e0, e1, e2, e3, e4, e5, e6, e7, e8, f0, f1, f2, f3, f4, f5⟩ := hS
     go_simp
     try with_reducible rfl
    refine AnyJ.takeD (i := 3) (d := some 60) (v := .pointer (some ⟨gr, off2 + j * 6, none⟩)) rfl (by kernel_rfl) (by kernel_rfl) (by kernel_rfl) (by kernel_rfl) (by kernel_rfl) (fun _ _ _ h => h) (Or.inl ⟨by kernel_rfl, ?_⟩) hS ?_
    ·
     intro w' hS
     go_simp
     try omega
    refine AnyJ.takeD (i := 4) (d := some 61) (v := ?_) rfl (by kernel_rfl) (by kernel_rfl) (by kernel_rfl) (by kernel_rfl) (by kernel_rfl) (fun _ _ _ h => h) (Or.inl ⟨by kernel_rfl, ?_⟩) hS ?_
    rotate_left
    ·
     intro w' hS
     obtain ⟨e0, e1, e2, e3, e4, e5, e6, e7, e8, f0, f1, f2, f3, f4, f5⟩ := hS
     go_simp
     try with_reducible rfl
    refine AnyJ.one (i := 5) (by kernel_rfl) rfl (fun Kz hKz => ?_)
    go_simp
    refine HFT.out.mono ?_
    rintro e w6 ⟨rfl, hb6⟩
    have hS6 : w6.cell? ⟨bs, 0, none⟩ = some (.int .i64 s'.id) ∧ w6.cell? ⟨bs, 1, none⟩ = some (.int .i64 s'.kd) ∧ w6.cell? ⟨bs, 2, none⟩ = some (.int .i64 s'.fr) ∧ w6.cell? ⟨bs, 3, none⟩ = some (.int .i64 s'.un) ∧ w6.cell? ⟨bs, 4, none⟩ = some (.int .i64 s'.ps) ∧ w6.cell? ⟨bs, 5, none⟩ = some (.int .i64 s'.rm) ∧ w6.cell? ⟨bs, 6, none⟩ = some (.int .i64 s'.wt) ∧ w6.cell? ⟨bs, 7, none⟩ = some (.bool s'.ac) ∧ w6.cell? ⟨bs, 8, none⟩ = some (.bool s'.inn) ∧ w6.cell? ⟨gr, off2 + j * 6, none⟩ = some (.int .i64 r'.id) ∧ w6.cell? ⟨gr, off2 + j * 6 + 1, none⟩ = some (.int .i64 r'.ho) ∧ w6.cell? ⟨gr, off2 + j * 6 + 2, none⟩ = some (.int .i64 r'.kd) ∧ w6.cell? ⟨gr, off2 + j * 6 + 3, none⟩ = some (.int .i64 r'.jn) ∧ w6.cell? ⟨gr, off2 + j * 6 + 4, none⟩ = some (.bool r'.ac) ∧ w6.cell? ⟨gr, off2 + j * 6 + 5, none⟩ = some (.slice r'.ba r'.bl.length r'.bc) := by
     obtain ⟨e0, e1, e2, e3, e4, e5, e6, e7, e8, f0, f1, f2, f3, f4, f5⟩ := hS
     refine ⟨?_, ?_, ?_, ?_, ?_, ?_, ?_, ?_, ?_, ?_, ?_, ?_, ?_, ?_, ?_⟩ <;> exact (hb6.cell (World.block_lt_of_cell? _ _ (by assumption))).trans (by assumption)
    refine hKz _ _ (fun _ => hS6) ?_
    have hb56 : Below w5.heap.size w5 w6 := (Below.refl _ _).drew.trans hb6
    have HS6 := Lib.hid (HS5.out.step hb56)
    have HQ6 := Lib.hid (HQ5.out.step hb56)
    have HRB6 := Lib.hid (HRB5.out.step hb56)
    have HB6 : Hid (Below w.heap.size w w6) := HB5.out.trans (hb56.mono HB5.out.size)
    clear hKz Kz hb6 hb56 n0 n1 n2 n3 n4 n5 n6 n7 n8 y0 y1 y2 y3 y4 y5
    replace hS := hS6
    refine AnyJ.takeD (i := 6) (d := some 56) (v := ?_) rfl (by kernel_rfl) (by kernel_rfl) (by kernel_rfl) (by kernel_rfl) (by kernel_rfl) (fun _ _ _ h => h) (Or.inl ⟨by kernel_rfl, ?_⟩) hS ?_
    rotate_left
    ·
     intro w' hS
     obtain ⟨e0, e1, e2, e3, e4, e5, e6, e7, e8, f0, f1, f2, f3, f4, f5⟩ := hS
     go_simp
     try with_reducible rfl
    refine AnyJ.takeD (i := 7) (d := some 63) (v := ?_) rfl (by kernel_rfl) (by kernel_rfl) (by kernel_rfl) (by kernel_rfl) (by kernel_rfl) (fun _ _ _ h => h) (Or.inl ⟨by kernel_rfl, ?_⟩) hS ?_
    rotate_left
    ·
     intro w' hS
     obtain ⟨e0, e1, e2, e3, e4, e5, e6, e7, e8, f0, f1, f2, f3, f4, f5⟩ := hS
     go_simp
     try with_reducible rfl
    refine AnyJ.takeD (i := 8) (d := some 64) (v := ?_) rfl (by kernel_rfl) (by kernel_rfl) (by kernel_rfl) (by kernel_rfl) (by kernel_rfl) (fun _ _ _ h => h) (Or.inl ⟨by kernel_rfl, ?_⟩) hS ?_
    rotate_left
    ·
     intro w' hS
     obtain ⟨e0, e1, e2, e3, e4, e5, e6, e7, e8, f0, f1, f2, f3, f4, f5⟩ := hS
     go_simp
     try with_reducible rfl
    refine AnyJ.one (i := 9) (by kernel_rfl) rfl (fun Kz hKz => ?_)
    go_simp
    refine hKz _ _ (fun _ => hS6) ?_
    clear hKz Kz
    refine AnyJ.one (i := 10) (by kernel_rfl) rfl (fun Kz hKz => ?_)
    go_simp
    refine hKz _ _ (fun _ => hS6) ?_
    clear hKz Kz
    refine AnyJ.done (by kernel_rfl) ?_ _
    try simp only [Act.put, List.setIfInBounds_toArray, List.set_cons_zero, List.set_cons_succ]
    clear hS hS6
    cases p with
    | false =>
     go_wp2_with fail
     refine bodyPost_ret (v := .tuple #[.slice none 0 0, .int .i64 30]) (by simp [results, Tryz.results13, go_sem]) rfl ?_
     exact ⟨none, 0, 0, 30, rfl, HB6.out, (fun h => by cases h), fun _ h => by have := (h s' HSM.out HSD.out).2.2.1 r' HRM.out HRD.out; rw [HP.out] at this; cases this⟩
    | true =>
     obtain ⟨q, hq⟩ : ∃ q, l.any (meetB s') = q := ⟨_, rfl⟩
     have HQQ := Lib.hid hq
     have hco := hasT_any (some ⟨gs, off1, none⟩) n cap l w6 (by omega) HS6.out 34 #[.pointer (some ⟨bs, 0, none⟩)] (enters_of Tryz.func34 (by kernel_rfl) rfl) (meetB s') (fun W x _ hb => meets_any s' x bs W (HRB6.out.step hb)) q hq
     have HCO := Lib.hid hco
     clear hq hco
     go_wp2_with fail
     refine HCO.out.mono ?_
     rintro e w7 ⟨rfl, hb7⟩
     have HS7 := Lib.hid (HS6.out.step hb7)
     have HQ7 := Lib.hid (HQ6.out.step hb7)
     have HB7 : Hid (Below w.heap.size w w7) := HB6.out.trans (hb7.mono HB6.out.size)
     clear hb7
     cases q with
     | true =>
      go_wp2_with fail
      refine bodyPost_ret (v := .tuple #[.slice none 0 0, .int .i64 30]) (by simp [results, Tryz.results13, go_sem]) rfl ?_
      exact ⟨none, 0, 0, 30, rfl, HB7.out, (fun h => by cases h), fun _ h => by
       obtain ⟨t, ht, hh⟩ := List.any_eq_true.1 HQQ.out
       rw [(h s' HSM.out HSD.out).2.2.2 t ht] at hh
       cases hh⟩
     | false =>
      have hb7s := HB7.out.size
      have hbl := HQ7.out.lt
      have hch := changed_any (arrF id) 37 #[.pointer (some ⟨bi, 0, none⟩)] (enters_of Tryz.func37 (by kernel_rfl) rfl) (fun _ => False) (fun _ W => Row W bi [.int .i64 id]) (some ⟨gs, off1, none⟩) n cap l w7 HPB.out HS7.out (by omega) (fun k h => h.elim) (fun W hb => HQ7.out.step hb) (fun j x g cur W hx hc hgl ho hJ =>
       (arrives_any id bi j g n w7.heap.size x cur W hJ hc ho).mono (fun e W' h => by
        obtain ⟨rfl, h2, h3⟩ := h
        exact ⟨rfl, h2, hJ.ch h3 (by omega), h3.mono (fun k _ h => .inl h)⟩))
      have HCH := Lib.hid hch
      clear hch
      go_wp2_with fail
      refine HCH.out.mono ?_
      rintro e w8 ⟨g, rfl, ho8, -, hc8⟩
      have HO8 := Lib.hid ho8
      have HB8 : Hid (Below w.heap.size w w8) := HB7.out.trans (hc8.toBelow.mono HB7.out.size)
      clear ho8 hc8
      go_wp2_with fail
      refine bodyPost_ret (v := .tuple #[.slice (some ⟨g, 0, none⟩) n n, .int .i64 0]) (by simp [results, Tryz.results13, go_sem]) rfl ?_
      exact ⟨_, _, _, 0, rfl, HB8.out, (fun _ => ⟨rfl, HO8.out.mono hb7s⟩), fun _ _ => rfl⟩
end
section
set_option linter.unusedSimpArgs false
set_option linter.unusedVariables false
open Go.RowKit Go.Shelf
theorem AsgOut.ch {H : List RoomV} {l : List StayV} {n : Nat} {W W' : World} {base base' : Nat} {o : Nat → Prop} {va : Option Addr} {vn vc : Nat} {r : RefV} {ok : Bool} {er : Int} (h : AsgOut H l n W base va vn vc r ok er) (hc : Ch o W W') (hb : base' ≤ base) (ho : ∀ k, o k → k < base) : AsgOut H l n W' base' va vn vc r ok er := by
 obtain ⟨res, lm, h1, h2⟩ := h
 refine ⟨res, lm, h1, ?_⟩
 rcases h2 with h2 | h2 | ⟨h2, out, h3, h4, h5, h6, h7⟩
 ·
  exact .inl h2
 ·
  exact .inr (.inl h2)
 ·
  exact .inr (.inr ⟨h2, out, h3, h4, h5, h6, (h7.ch hc (fun g hg e => by have := (h7.lt hg).1; have := ho _ e; omega)).mono hb⟩)
set_option maxRecDepth 100000 in
set_option maxHeartbeats 6400000 in
theorem Add_any (a b : Option Addr) (m mc n cap : Nat) (RL : List RoomV) (l : List StayV) (s : StayV) (w : World) (hm : m ≤ 1000) (hr : SlM w a m RL) (hv : validM RL = true) (hpb : PlA b) (hs : SlG stE w b n l) (hcap : n ≤ cap) (hg : GoodL l) (hsg : s.Good) (hin : s.inn = false) :
  Calls Tryz.prog 12 #[.slice a m mc, .slice b n cap, .agg (stE.c s).toArray] w fun e w' => ∃ (va : Option Addr) (vn vc : Nat) (r : RefV) (ok : Bool) (er : Int), e = .returned (.tuple #[.slice va vn vc, r.val, .bool ok, .int .i64 er]) ∧ Below w.heap.size w w' ∧
   ((ok = false ∧ er ≠ 0 ∧ ((∃ t ∈ l, t.id = s.id) ∨ n = 3000)) ∨ (GoodL (l ++ [s]) ∧ AsgOut RL (l ++ [s]) (n + 1) w' w.heap.size va vn vc r ok er)) := by
 have hn := hg.len hs.1
 have HS := Lib.hid hs
 have HG := Lib.hid hg
 have HL := Lib.hid hs.1
 have HR := Lib.hid hr
 have HV := Lib.hid hv
 have hwt : s.wt = 0 := hsg.2.2.2.2.2.1
 have HWT := Lib.hid hwt
 have HIN := Lib.hid hin
 have HSG := Lib.hid hsg
 have HISS := Lib.hid (fun W => isStay_yes s hsg W)
 rw [hwt, hin] at HISS
 show Calls Tryz.prog _ #[_, _, .agg #[.int .i64 s.id, .int .i64 s.kd, .int .i64 s.fr, .int .i64 s.un, .int .i64 s.ps, .int .i64 s.rm, .int .i64 s.wt, .bool s.ac, .bool s.inn]] _ _
 rw [hwt, hin]
 clear hs hg hr hv hwt hin hsg
 obtain ⟨bx, hbx⟩ : ∃ bx, w.heap.size = bx := ⟨_, rfl⟩
 obtain ⟨r1, hr1⟩ : ∃ r1, bx + 1 = r1 := ⟨_, rfl⟩
 obtain ⟨W1, hW1⟩ : ∃ W1, (w.alloc (.cells #[.int .i64 s.id, .int .i64 s.kd, .int .i64 s.fr, .int .i64 s.un, .int .i64 s.ps, .int .i64 s.rm, .int .i64 0, .bool s.ac, .bool false] 37)).alloc (.cells #[.int .i64 0, .int .i64 0, .slice none 0 0, .slice none 0 0, .slice none 0 0] 47) = W1 := ⟨_, rfl⟩
 have hb1 : Below w.heap.size w W1 := by rw [← hW1]; (repeat' (first | (with_reducible first | exact Below.refl _ _ | assumption | exact Bw.out (by assumption) | refine bw_alloc ?_ _ | refine bw_step ?_ (by assumption) | refine Below.alloc ?_ ?_ _ | refine Below.drew ?_ | refine below_drewN ?_ _ | refine Below.setCell ?_ ?_ _ | refine below_step ?_ (by assumption) ?_ | exact Nat.le_refl _) | omega | (simp; omega) | (simp; done)))
 have qx : Row W1 bx [.int .i64 s.id, .int .i64 s.kd, .int .i64 s.fr, .int .i64 s.un, .int .i64 s.ps, .int .i64 s.rm, .int .i64 0, .bool s.ac, .bool false] := by rw [← hW1, ← hbx]; (repeat' (first | (with_reducible assumption) | (with_reducible refine Row.new' _ _ _ (by first | rfl | (simp; done) | omega)) | (with_reducible first | refine Row.alloc ?_ _ | refine Row.drew ?_ | refine Row.step ?_ (by assumption) | refine Row.drewN ?_ _) | (with_reducible refine Row.set2' ?_ _ _; first | exact ⟨_, _, by assumption⟩ | exact ⟨_, _, Row.alloc (by assumption) _⟩) | (with_reducible refine Row.other ?_ (by first | omega | (simp; omega)) _)))
 have qr : Row W1 r1 zref.cs := by rw [← hW1, ← hr1, ← hbx]; (repeat' (first | (with_reducible assumption) | (with_reducible refine Row.new' _ _ _ (by first | rfl | (simp; done) | omega)) | (with_reducible first | refine Row.alloc ?_ _ | refine Row.drew ?_ | refine Row.step ?_ (by assumption) | refine Row.drewN ?_ _) | (with_reducible refine Row.set2' ?_ _ _; first | exact ⟨_, _, by assumption⟩ | exact ⟨_, _, Row.alloc (by assumption) _⟩) | (with_reducible refine Row.other ?_ (by first | omega | (simp; omega)) _)))
 have HB1 := Lib.hid hb1
 have HX1 := Lib.hid qx
 have HQ1 := Lib.hid qr
 have HS1 := Lib.hid (HS.out.step hb1)
 have HR1 := Lib.hid (HR.out.step hb1)
 have m0 := qx.cell 0 rfl
 clear hb1 qx qr
 go_enter Tryz.func12, Tryz.ntmps12
 go_wp2_with fail
 refine (findT_any b n cap l s.id W1 (by omega) HS1.out).mono ?_
 rintro e w2 ⟨i, twice, rfl, hyes, hno, hb2⟩
 have HS2 := Lib.hid (HS1.out.step hb2)
 have HR2 := Lib.hid (HR1.out.step hb2)
 have HQ2 := Lib.hid (HQ1.out.step hb2)
 have HX2 := Lib.hid (HX1.out.step hb2)
 have HB2 : Hid (Below w.heap.size w w2) := HB1.out.trans (hb2.mono HB1.out.size)
 have HYES := Lib.hid hyes
 have HNO := Lib.hid hno
 clear hb2 hyes hno m0
 go_wp2_with fail
 refine (rvalid_p a m mc RL w2 (by omega) HR2.out true HV.out).mono ?_
 rintro e wa ⟨rfl, hb2⟩
 have HSa := Lib.hid (HS2.out.step hb2)
 have HRa := Lib.hid (HR2.out.step hb2)
 have HQa := Lib.hid (HQ2.out.step hb2)
 have HXa := Lib.hid (HX2.out.step hb2)
 have HBa : Hid (Below w.heap.size w wa) := HB2.out.trans (hb2.mono HB2.out.size)
 clear hb2
 go_wp2_with fail
 refine (sValid_yes b n cap l wa HSa.out HG.out).mono ?_
 rintro e wb ⟨rfl, hb2⟩
 have HSb := Lib.hid (HSa.out.step hb2)
 have HRb := Lib.hid (HRa.out.step hb2)
 have HQb := Lib.hid (HQa.out.step hb2)
 have HXb := Lib.hid (HXa.out.step hb2)
 have HBb : Hid (Below w.heap.size w wb) := HBa.out.trans (hb2.mono HBa.out.size)
 have n0 := HXb.out.cell 0 rfl
 have n1 := HXb.out.cell 1 rfl
 have n2 := HXb.out.cell 2 rfl
 have n3 := HXb.out.cell 3 rfl
 have n4 := HXb.out.cell 4 rfl
 have n5 := HXb.out.cell 5 rfl
 have n6 := HXb.out.cell 6 rfl
 have n7 := HXb.out.cell 7 rfl
 have n8 := HXb.out.cell 8 rfl
 clear hb2
 go_wp2_with fail
 refine (HISS.out wb).mono ?_
 rintro e w3 ⟨rfl, hb2⟩
 have HS3 := Lib.hid (HSb.out.step hb2)
 have HR3 := Lib.hid (HRb.out.step hb2)
 have HQ3 := Lib.hid (HQb.out.step hb2)
 have HX3 := Lib.hid (HXb.out.step hb2)
 have HB3 : Hid (Below w.heap.size w w3) := HBb.out.trans (hb2.mono HBb.out.size)
 clear hb2 n0 n1 n2 n3 n4 n5 n6 n7 n8
 cases twice with
 | true =>
  have q := HQ3.out
  have u0 := q.cell 0 rfl
  have v0 := q.frozen 0
  have u1 := q.cell 1 rfl
  have v1 := q.frozen 1
  have u2 := q.cell 2 rfl
  have v2 := q.frozen 2
  have u3 := q.cell 3 rfl
  have v3 := q.frozen 3
  have u4 := q.cell 4 rfl
  have v4 := q.frozen 4
  have rl := q.lt
  go_wp2_with fail
  refine bodyPost_ret (v := .tuple #[.slice none 0 0, zref.val, .bool false, .int .i64 5]) (by simp [results, Tryz.results12, go_sem, u0, u1, u2, u3, u4, rl]) rfl ?_
  refine ⟨none, 0, 0, zref, false, 5, rfl, ?_, .inl ⟨rfl, by decide, .inl ((HYES.out (by trivial)).elim (fun t ht => ⟨t, List.mem_of_getElem? ht.1, ht.2⟩))⟩⟩
  exact ((((HB3.out.setCell (by show _ ≤ r1; omega) _).setCell (by show _ ≤ r1; omega) _).setCell (by show _ ≤ r1; omega) _).setCell (by show _ ≤ r1; omega) _).setCell (by show _ ≤ r1; omega) _
 | false =>
  have HNO2 := Lib.hid (HNO.out (by trivial))
  by_cases h3 : 3000 ≤ (n : Int)
  ·
   skip
   have q := HQ3.out
   have u0 := q.cell 0 rfl
   have v0 := q.frozen 0
   have u1 := q.cell 1 rfl
   have v1 := q.frozen 1
   have u2 := q.cell 2 rfl
   have v2 := q.frozen 2
   have u3 := q.cell 3 rfl
   have v3 := q.frozen 3
   have u4 := q.cell 4 rfl
   have v4 := q.frozen 4
   have rl := q.lt
   go_wp2_with fail
   refine bodyPost_ret (v := .tuple #[.slice none 0 0, zref.val, .bool false, .int .i64 2]) (by simp [results, Tryz.results12, go_sem, u0, u1, u2, u3, u4, rl]) rfl ?_
   refine ⟨none, 0, 0, zref, false, 2, rfl, ?_, .inl ⟨rfl, by decide, .inr (by omega)⟩⟩
   exact ((((HB3.out.setCell (by show _ ≤ r1; omega) _).setCell (by show _ ≤ r1; omega) _).setCell (by show _ ≤ r1; omega) _).setCell (by show _ ≤ r1; omega) _).setCell (by show _ ≤ r1; omega) _
  ·
   have HGN : Hid (GoodL (l ++ [s])) := by
    refine ⟨fun x hx => ?_, ?_, by rw [List.length_append, HL.out]; simp; omega⟩
    ·
     rcases List.mem_append.1 hx with hx | hx
     ·
      exact HG.out.each x hx
     ·
      simp at hx; subst hx; exact HSG.out
    ·
     rw [List.map_append]
     refine List.nodup_append.2 ⟨HG.out.ids, by simp, fun x hx y hy e => ?_⟩
     simp at hy
     obtain ⟨t, ht, rfl⟩ := List.mem_map.1 hx
     exact HNO2.out t ht (e.trans hy)
   have n0 := HX3.out.cell 0 rfl
   have n1 := HX3.out.cell 1 rfl
   have n2 := HX3.out.cell 2 rfl
   have n3 := HX3.out.cell 3 rfl
   have n4 := HX3.out.cell 4 rfl
   have n5 := HX3.out.cell 5 rfl
   have n6 := HX3.out.cell 6 rfl
   have n7 := HX3.out.cell 7 rfl
   have n8 := HX3.out.cell 8 rfl
   have i3 : (0 : Int) ≤ (n : Int) := by omega
   have i4 : (n : Int) ≤ (cap : Int) := by omega
   have h3' : ¬ ((n : Int) = 3000) := by omega
   clear h3
   rcases hpb with rfl | ⟨gb, off, rfl⟩
   ·
    have hl : l = [] := by
     have := HS.out.2
     cases l with
     | nil => rfl
     | cons y r => obtain ⟨_, _, e, _⟩ := this 0 y rfl; cases e
    have hn0 : n = 0 := by rw [← HL.out, hl]; rfl
    subst hn0
    go_upto_region 3 with fail
    refine AnyJ.beginP (fun w' : World => w'.cell? ⟨bx, 0, none⟩ = some (.int .i64 s.id) ∧ w'.cell? ⟨bx, 1, none⟩ = some (.int .i64 s.kd) ∧ w'.cell? ⟨bx, 2, none⟩ = some (.int .i64 s.fr) ∧ w'.cell? ⟨bx, 3, none⟩ = some (.int .i64 s.un) ∧ w'.cell? ⟨bx, 4, none⟩ = some (.int .i64 s.ps) ∧ w'.cell? ⟨bx, 5, none⟩ = some (.int .i64 s.rm) ∧ w'.cell? ⟨bx, 6, none⟩ = some (.int .i64 0) ∧ w'.cell? ⟨bx, 7, none⟩ = some (.bool s.ac) ∧ w'.cell? ⟨bx, 8, none⟩ = some (.bool false)) (fun _ => true) (by kernel_rfl) ⟨n0, n1, n2, n3, n4, n5, n6, n7, n8⟩ (fun hS => ?_)
    refine AnyJ.takeD (i := 0) (d := some 20) (v := ?_) rfl (by kernel_rfl) (by kernel_rfl) (by kernel_rfl) (by kernel_rfl) (by kernel_rfl) (fun _ _ _ h => h) (Or.inl ⟨by kernel_rfl, ?_⟩) hS ?_
    rotate_left
    ·
     intro w' hS
     obtain ⟨f0, f1, f2, f3, f4, f5, f6, f7, f8⟩ := hS
     go_simp
     try with_reducible rfl
    refine AnyJ.takeD (i := 1) (d := some 21) (v := ?_) rfl (by kernel_rfl) (by kernel_rfl) (by kernel_rfl) (by kernel_rfl) (by kernel_rfl) (fun _ _ _ h => h) (Or.inl ⟨by kernel_rfl, ?_⟩) hS ?_
    rotate_left
    ·
     intro w' hS
     obtain ⟨f0, f1, f2, f3, f4, f5, f6, f7, f8⟩ := hS
     go_simp
     try with_reducible rfl
    refine AnyJ.takeD (i := 2) (d := some 22) (v := ?_) rfl (by kernel_rfl) (by kernel_rfl) (by kernel_rfl) (by kernel_rfl) (by kernel_rfl) (fun _ _ _ h => h) (Or.inl ⟨by kernel_rfl, ?_⟩) hS ?_
    rotate_left
    ·
     intro w' hS
     obtain ⟨f0, f1, f2, f3, f4, f5, f6, f7, f8⟩ := hS
     go_simp
     try with_reducible rfl
    refine AnyJ.takeD (i := 3) (d := some 23) (v := .int .i64 (0 : Int)) rfl (by kernel_rfl) (by kernel_rfl) (by kernel_rfl) (by kernel_rfl) (by kernel_rfl) (fun _ _ _ h => h) (Or.inl ⟨by kernel_rfl, ?_⟩) hS ?_
    ·
     intro w' hS
     go_simp
     try (first | omega | rfl | simp [i3, i4, i3])
    refine AnyJ.takeD (i := 4) (d := some 24) (v := ?_) rfl (by kernel_rfl) (by kernel_rfl) (by kernel_rfl) (by kernel_rfl) (by kernel_rfl) (fun _ _ _ h => h) (Or.inl ⟨by kernel_rfl, ?_⟩) hS ?_
    rotate_left
    ·
     intro w' hS
     obtain ⟨f0, f1, f2, f3, f4, f5, f6, f7, f8⟩ := hS
     go_simp
     try with_reducible rfl
    refine AnyJ.takeD (i := 5) (d := some 25) (v := .int .i64 (0 : Int)) rfl (by kernel_rfl) (by kernel_rfl) (by kernel_rfl) (by kernel_rfl) (by kernel_rfl) (fun _ _ _ h => h) (Or.inl ⟨by kernel_rfl, ?_⟩) hS ?_
    ·
     intro w' hS
     go_simp
     try (first | omega | rfl | simp [i3, i4, i3])
    refine AnyJ.takeD (i := 6) (d := some 26) (v := .slice none 0 0) rfl (by kernel_rfl) (by kernel_rfl) (by kernel_rfl) (by kernel_rfl) (by kernel_rfl) (fun _ _ _ h => h) (Or.inl ⟨by kernel_rfl, ?_⟩) hS ?_
    ·
     intro w' hS
     go_simp
     try (first | omega | rfl | simp [i3, i4, i3])
    refine AnyJ.takeD (i := 7) (d := some 27) (v := ?_) rfl (by kernel_rfl) (by kernel_rfl) (by kernel_rfl) (by kernel_rfl) (by kernel_rfl) (fun _ _ _ h => h) (Or.inl ⟨by kernel_rfl, ?_⟩) hS ?_
    rotate_left
    ·
     intro w' hS
     obtain ⟨f0, f1, f2, f3, f4, f5, f6, f7, f8⟩ := hS
     go_simp
     try with_reducible rfl
    obtain ⟨wd, hwd⟩ : ∃ wd, w3.drew = wd := ⟨_, rfl⟩
    have hbd : Below w3.heap.size w3 wd := by rw [← hwd]; exact (Below.refl _ _).drew
    rw [hwd] at hS ⊢
    have HSd := Lib.hid (HS3.out.step hbd)
    have HRd := Lib.hid (HR3.out.step hbd)
    have HQd := Lib.hid (HQ3.out.step hbd)
    have HBd : Hid (Below w.heap.size w wd) := HB3.out.trans (hbd.mono HB3.out.size)
    clear hwd hbd n0 n1 n2 n3 n4 n5 n6 n7 n8
    obtain ⟨w4, hw4⟩ : ∃ w4, wd.alloc (.cells #[.int .i64 s.id, .int .i64 s.kd, .int .i64 s.fr, .int .i64 s.un, .int .i64 s.ps, .int .i64 s.rm, .int .i64 0, .bool s.ac, .bool false] 37) = w4 := ⟨_, rfl⟩
    have hb4 : Below wd.heap.size wd w4 := by rw [← hw4]; exact (Below.refl _ _).alloc (Nat.le_refl _) _
    obtain ⟨g4, hg4⟩ : ∃ g4, wd.heap.size = g4 := ⟨_, rfl⟩
    have hsl : SlG stE w4 (some ⟨g4, 0, none⟩) 1 [s] := SlG.row (rest := []) (by
     rw [← hw4, ← hg4]
     show Row _ _ [.int .i64 s.id, .int .i64 s.kd, .int .i64 s.fr, .int .i64 s.un, .int .i64 s.ps, .int .i64 s.rm, .int .i64 s.wt, .bool s.ac, .bool s.inn]
     rw [HWT.out, HIN.out]
     exact Row.new' _ _ _ rfl) rfl
    have hS4 : w4.cell? ⟨bx, 0, none⟩ = some (.int .i64 s.id) ∧ w4.cell? ⟨bx, 1, none⟩ = some (.int .i64 s.kd) ∧ w4.cell? ⟨bx, 2, none⟩ = some (.int .i64 s.fr) ∧ w4.cell? ⟨bx, 3, none⟩ = some (.int .i64 s.un) ∧ w4.cell? ⟨bx, 4, none⟩ = some (.int .i64 s.ps) ∧ w4.cell? ⟨bx, 5, none⟩ = some (.int .i64 s.rm) ∧ w4.cell? ⟨bx, 6, none⟩ = some (.int .i64 0) ∧ w4.cell? ⟨bx, 7, none⟩ = some (.bool s.ac) ∧ w4.cell? ⟨bx, 8, none⟩ = some (.bool false) := by
     obtain ⟨f0, f1, f2, f3, f4, f5, f6, f7, f8⟩ := hS
     refine ⟨?_, ?_, ?_, ?_, ?_, ?_, ?_, ?_, ?_⟩ <;> exact (hb4.cell (World.block_lt_of_cell? _ _ (by assumption))).trans (by assumption)
    refine AnyJ.one (i := 8) (by kernel_rfl) rfl (fun Kz hKz => ?_)
    go_simp
    try rw [hw4]
    try rw [hg4]
    refine hKz _ _ (fun _ => hS4) ?_
    have HS4 := Lib.hid (HSd.out.step hb4)
    have HR4 := Lib.hid (HRd.out.step hb4)
    have HQ4 := Lib.hid (HQd.out.step hb4)
    have HB4 : Hid (Below w.heap.size w w4) := HBd.out.trans (hb4.mono HBd.out.size)
    have hsz4 := HB4.out.size
    clear hKz Kz hw4 hg4 hb4 hS
    refine AnyJ.one (i := 9) (by kernel_rfl) rfl (fun Kz hKz => ?_)
    refine step_append_clip stI rfl (.tmp 26) (.tmp 28) 26 rfl Tryz.underlying26 (sa := none) (n := 0) (l := l) (by simp [Act.eval, Act.put]) HS4.out (xa := some ⟨g4, 0, none⟩) (m := 1) (c := 1) (ys := [s]) (by simp [Act.eval, Act.put]) hsl (by omega) (by omega) (by omega) ?_
    intro g cp w5 ho5 hg5
    have hb5 : Below w4.heap.size w4 w5 := ⟨hg5.os, hg5.tape, hg5.output, hg5.size, fun k hk => hg5.block k hk (by simp)⟩
    have hS5 : w5.cell? ⟨bx, 0, none⟩ = some (.int .i64 s.id) ∧ w5.cell? ⟨bx, 1, none⟩ = some (.int .i64 s.kd) ∧ w5.cell? ⟨bx, 2, none⟩ = some (.int .i64 s.fr) ∧ w5.cell? ⟨bx, 3, none⟩ = some (.int .i64 s.un) ∧ w5.cell? ⟨bx, 4, none⟩ = some (.int .i64 s.ps) ∧ w5.cell? ⟨bx, 5, none⟩ = some (.int .i64 s.rm) ∧ w5.cell? ⟨bx, 6, none⟩ = some (.int .i64 0) ∧ w5.cell? ⟨bx, 7, none⟩ = some (.bool s.ac) ∧ w5.cell? ⟨bx, 8, none⟩ = some (.bool false) := by
     obtain ⟨f0, f1, f2, f3, f4, f5, f6, f7, f8⟩ := hS4
     refine ⟨?_, ?_, ?_, ?_, ?_, ?_, ?_, ?_, ?_⟩ <;> exact (hb5.cell (World.block_lt_of_cell? _ _ (by assumption))).trans (by assumption)
    have HO5 := Lib.hid ho5
    have HR5 := Lib.hid (HR4.out.step hb5)
    have HQ5 := Lib.hid (HQ4.out.step hb5)
    have HB5 : Hid (Below w.heap.size w w5) := HB4.out.trans (hb5.mono HB4.out.size)
    refine hKz _ _ (fun _ => hS5) ?_
    clear hKz Kz ho5 hg5 hb5 hS4 hsl
    refine AnyJ.one (i := 10) (by kernel_rfl) rfl (fun Kz hKz => ?_)
    go_simp
    refine (Assign_any a (some ⟨g, 0, none⟩) m mc (0 + 1) cp RL (l ++ [s]) w5 hm HR5.out HV.out (.inr ⟨g, 0, rfl⟩) HO5.out.sl HGN.out).mono ?_
    rintro e w6 ⟨va, vn, vc, r, ok, er, rfl, hA, hb6⟩
    have hS6 : w6.cell? ⟨bx, 0, none⟩ = some (.int .i64 s.id) ∧ w6.cell? ⟨bx, 1, none⟩ = some (.int .i64 s.kd) ∧ w6.cell? ⟨bx, 2, none⟩ = some (.int .i64 s.fr) ∧ w6.cell? ⟨bx, 3, none⟩ = some (.int .i64 s.un) ∧ w6.cell? ⟨bx, 4, none⟩ = some (.int .i64 s.ps) ∧ w6.cell? ⟨bx, 5, none⟩ = some (.int .i64 s.rm) ∧ w6.cell? ⟨bx, 6, none⟩ = some (.int .i64 0) ∧ w6.cell? ⟨bx, 7, none⟩ = some (.bool s.ac) ∧ w6.cell? ⟨bx, 8, none⟩ = some (.bool false) := by
     obtain ⟨f0, f1, f2, f3, f4, f5, f6, f7, f8⟩ := hS5
     refine ⟨?_, ?_, ?_, ?_, ?_, ?_, ?_, ?_, ?_⟩ <;> exact (hb6.cell (World.block_lt_of_cell? _ _ (by assumption))).trans (by assumption)
    have HA6 := Lib.hid hA
    have HQ6 := Lib.hid (HQ5.out.step hb6)
    have HB6 : Hid (Below w.heap.size w w6) := HB5.out.trans (hb6.mono HB5.out.size)
    have hsz5 := HB5.out.size
    refine hKz _ _ (fun _ => hS6) ?_
    clear hKz Kz hA hb6 hS5
    have hS := hS6
    refine AnyJ.takeD (i := 11) (d := some 31) (v := ?_) rfl (by kernel_rfl) (by kernel_rfl) (by kernel_rfl) (by kernel_rfl) (by kernel_rfl) (fun _ _ _ h => h) (Or.inl ⟨by kernel_rfl, ?_⟩) hS ?_
    rotate_left
    ·
     intro w' hS
     obtain ⟨f0, f1, f2, f3, f4, f5, f6, f7, f8⟩ := hS
     go_simp
     try with_reducible rfl
    refine AnyJ.takeD (i := 12) (d := some 32) (v := ?_) rfl (by kernel_rfl) (by kernel_rfl) (by kernel_rfl) (by kernel_rfl) (by kernel_rfl) (fun _ _ _ h => h) (Or.inl ⟨by kernel_rfl, ?_⟩) hS ?_
    rotate_left
    ·
     intro w' hS
     obtain ⟨f0, f1, f2, f3, f4, f5, f6, f7, f8⟩ := hS
     go_simp
     try with_reducible rfl
    refine AnyJ.takeD (i := 13) (d := some 33) (v := ?_) rfl (by kernel_rfl) (by kernel_rfl) (by kernel_rfl) (by kernel_rfl) (by kernel_rfl) (fun _ _ _ h => h) (Or.inl ⟨by kernel_rfl, ?_⟩) hS ?_
    rotate_left
    ·
     intro w' hS
     obtain ⟨f0, f1, f2, f3, f4, f5, f6, f7, f8⟩ := hS
     go_simp
     try with_reducible rfl
    refine AnyJ.takeD (i := 14) (d := some 34) (v := ?_) rfl (by kernel_rfl) (by kernel_rfl) (by kernel_rfl) (by kernel_rfl) (by kernel_rfl) (fun _ _ _ h => h) (Or.inl ⟨by kernel_rfl, ?_⟩) hS ?_
    rotate_left
    ·
     intro w' hS
     obtain ⟨f0, f1, f2, f3, f4, f5, f6, f7, f8⟩ := hS
     go_simp
     try with_reducible rfl
    refine AnyJ.one (i := 15) (by kernel_rfl) rfl (fun Kz hKz => ?_)
    go_simp
    refine hKz _ _ (fun _ => hS6) ?_
    clear hKz Kz
    have q := HQ6.out
    have u0 := q.cell 0 rfl
    have v0 := q.frozen 0
    have u1 := q.cell 1 rfl
    have v1 := q.frozen 1
    have u2 := q.cell 2 rfl
    have v2 := q.frozen 2
    have u3 := q.cell 3 rfl
    have v3 := q.frozen 3
    have u4 := q.cell 4 rfl
    have v4 := q.frozen 4
    have rl := q.lt
    obtain ⟨w7, hw7⟩ : ∃ w7, ((((w6.setCell ⟨r1, 0, none⟩ (.int .i64 r.kd)).setCell ⟨r1, 1, none⟩ (.int .i64 r.ni)).setCell ⟨r1, 2, none⟩ (.slice r.sa r.sn r.sc)).setCell ⟨r1, 3, none⟩ (.slice r.ra r.rn r.rc)).setCell ⟨r1, 4, none⟩ (.slice r.ba r.bn r.bc) = w7 := ⟨_, rfl⟩
    have hc7 : Ch (fun k => k = r1) w6 w7 := by rw [← hw7]; exact (((((Ch.refl (fun k => k = r1) w6).setCell (p := ⟨r1, 0, none⟩) rfl _).setCell (p := ⟨r1, 1, none⟩) rfl _).setCell (p := ⟨r1, 2, none⟩) rfl _).setCell (p := ⟨r1, 3, none⟩) rfl _).setCell (p := ⟨r1, 4, none⟩) rfl _
    have hq7 : Row w7 r1 r.cs := by rw [← hw7]; exact ((((q.setc 0 _).setc 1 _).setc 2 _).setc 3 _).setc 4 _
    have hS7 : w7.cell? ⟨bx, 0, none⟩ = some (.int .i64 s.id) ∧ w7.cell? ⟨bx, 1, none⟩ = some (.int .i64 s.kd) ∧ w7.cell? ⟨bx, 2, none⟩ = some (.int .i64 s.fr) ∧ w7.cell? ⟨bx, 3, none⟩ = some (.int .i64 s.un) ∧ w7.cell? ⟨bx, 4, none⟩ = some (.int .i64 s.ps) ∧ w7.cell? ⟨bx, 5, none⟩ = some (.int .i64 s.rm) ∧ w7.cell? ⟨bx, 6, none⟩ = some (.int .i64 0) ∧ w7.cell? ⟨bx, 7, none⟩ = some (.bool s.ac) ∧ w7.cell? ⟨bx, 8, none⟩ = some (.bool false) := by
     obtain ⟨f0, f1, f2, f3, f4, f5, f6, f7, f8⟩ := hS6
     refine ⟨?_, ?_, ?_, ?_, ?_, ?_, ?_, ?_, ?_⟩ <;> exact (World.cell?_of_block (hc7.2.2.2.2 bx (World.block_lt_of_cell? _ _ (by assumption)) (by omega))).trans (by assumption)
    refine AnyJ.one (i := 16) (by kernel_rfl) rfl (fun Kz hKz => ?_)
    go_simp
    try rw [hw7]
    refine hKz _ _ (fun _ => hS7) ?_
    clear hKz Kz hw7 u0 u1 u2 u3 u4 v0 v1 v2 v3 v4 rl q
    refine AnyJ.one (i := 17) (by kernel_rfl) rfl (fun Kz hKz => ?_)
    go_simp
    refine hKz _ _ (fun _ => hS7) ?_
    clear hKz Kz
    refine AnyJ.one (i := 18) (by kernel_rfl) rfl (fun Kz hKz => ?_)
    go_simp
    refine hKz _ _ (fun _ => hS7) ?_
    clear hKz Kz
    refine AnyJ.done (by kernel_rfl) ?_ _
    try simp only [Act.put, List.setIfInBounds_toArray, List.set_cons_zero, List.set_cons_succ]
    have u0 := hq7.cell 0 rfl
    have u1 := hq7.cell 1 rfl
    have u2 := hq7.cell 2 rfl
    have u3 := hq7.cell 3 rfl
    have u4 := hq7.cell 4 rfl
    have HB7 : Hid (Below w.heap.size w w7) := hc7.below HB6.out (fun k hk => by omega) HB6.out.size
    have HA7 : Hid (AsgOut RL (l ++ [s]) (0 + 1) w7 w.heap.size va vn vc r ok er) := HA6.out.ch hc7 hsz5 (fun k hk => by have := HQ5.out.lt; omega)
    clear hS hS6 hS7 hc7 hq7
    go_wp2_with fail
    refine bodyPost_ret (v := .tuple #[.slice va vn vc, r.val, .bool ok, .int .i64 er]) (by simp [results, Tryz.results12, go_sem, u0, u1, u2, u3, u4]) rfl ?_
    exact ⟨va, vn, vc, r, ok, er, rfl, HB7.out, .inr ⟨HGN.out, HA7.out⟩⟩
   ·
    skip
    go_upto_region 3 with fail
    refine AnyJ.beginP (fun w' : World => w'.cell? ⟨bx, 0, none⟩ = some (.int .i64 s.id) ∧ w'.cell? ⟨bx, 1, none⟩ = some (.int .i64 s.kd) ∧ w'.cell? ⟨bx, 2, none⟩ = some (.int .i64 s.fr) ∧ w'.cell? ⟨bx, 3, none⟩ = some (.int .i64 s.un) ∧ w'.cell? ⟨bx, 4, none⟩ = some (.int .i64 s.ps) ∧ w'.cell? ⟨bx, 5, none⟩ = some (.int .i64 s.rm) ∧ w'.cell? ⟨bx, 6, none⟩ = some (.int .i64 0) ∧ w'.cell? ⟨bx, 7, none⟩ = some (.bool s.ac) ∧ w'.cell? ⟨bx, 8, none⟩ = some (.bool false)) (fun _ => true) (by kernel_rfl) ⟨n0, n1, n2, n3, n4, n5, n6, n7, n8⟩ (fun hS => ?_)
    refine AnyJ.takeD (i := 0) (d := some 20) (v := ?_) rfl (by kernel_rfl) (by kernel_rfl) (by kernel_rfl) (by kernel_rfl) (by kernel_rfl) (fun _ _ _ h => h) (Or.inl ⟨by kernel_rfl, ?_⟩) hS ?_
    rotate_left
    ·
     intro w' hS
     obtain ⟨f0, f1, f2, f3, f4, f5, f6, f7, f8⟩ := hS
     go_simp
     try with_reducible rfl
    refine AnyJ.takeD (i := 1) (d := some 21) (v := ?_) rfl (by kernel_rfl) (by kernel_rfl) (by kernel_rfl) (by kernel_rfl) (by kernel_rfl) (fun _ _ _ h => h) (Or.inl ⟨by kernel_rfl, ?_⟩) hS ?_
    rotate_left
    ·
     intro w' hS
     obtain ⟨f0, f1, f2, f3, f4, f5, f6, f7, f8⟩ := hS
     go_simp
     try with_reducible rfl
    refine AnyJ.takeD (i := 2) (d := some 22) (v := ?_) rfl (by kernel_rfl) (by kernel_rfl) (by kernel_rfl) (by kernel_rfl) (by kernel_rfl) (fun _ _ _ h => h) (Or.inl ⟨by kernel_rfl, ?_⟩) hS ?_
    rotate_left
    ·
     intro w' hS
     obtain ⟨f0, f1, f2, f3, f4, f5, f6, f7, f8⟩ := hS
     go_simp
     try with_reducible rfl
    refine AnyJ.takeD (i := 3) (d := some 23) (v := .int .i64 (n : Int)) rfl (by kernel_rfl) (by kernel_rfl) (by kernel_rfl) (by kernel_rfl) (by kernel_rfl) (fun _ _ _ h => h) (Or.inl ⟨by kernel_rfl, ?_⟩) hS ?_
    ·
     intro w' hS
     go_simp
     try (first | omega | rfl | simp [i3, i4, i4])
    refine AnyJ.takeD (i := 4) (d := some 24) (v := ?_) rfl (by kernel_rfl) (by kernel_rfl) (by kernel_rfl) (by kernel_rfl) (by kernel_rfl) (fun _ _ _ h => h) (Or.inl ⟨by kernel_rfl, ?_⟩) hS ?_
    rotate_left
    ·
     intro w' hS
     obtain ⟨f0, f1, f2, f3, f4, f5, f6, f7, f8⟩ := hS
     go_simp
     try with_reducible rfl
    refine AnyJ.takeD (i := 5) (d := some 25) (v := .int .i64 (n : Int)) rfl (by kernel_rfl) (by kernel_rfl) (by kernel_rfl) (by kernel_rfl) (by kernel_rfl) (fun _ _ _ h => h) (Or.inl ⟨by kernel_rfl, ?_⟩) hS ?_
    ·
     intro w' hS
     go_simp
     try (first | omega | rfl | simp [i3, i4, i4])
    refine AnyJ.takeD (i := 6) (d := some 26) (v := .slice (some ⟨gb, off, none⟩) n n) rfl (by kernel_rfl) (by kernel_rfl) (by kernel_rfl) (by kernel_rfl) (by kernel_rfl) (fun _ _ _ h => h) (Or.inl ⟨by kernel_rfl, ?_⟩) hS ?_
    ·
     intro w' hS
     go_simp
     try (first | omega | rfl | simp [i3, i4, i4])
    refine AnyJ.takeD (i := 7) (d := some 27) (v := ?_) rfl (by kernel_rfl) (by kernel_rfl) (by kernel_rfl) (by kernel_rfl) (by kernel_rfl) (fun _ _ _ h => h) (Or.inl ⟨by kernel_rfl, ?_⟩) hS ?_
    rotate_left
    ·
     intro w' hS
     obtain ⟨f0, f1, f2, f3, f4, f5, f6, f7, f8⟩ := hS
     go_simp
     try with_reducible rfl
    obtain ⟨wd, hwd⟩ : ∃ wd, w3.drew = wd := ⟨_, rfl⟩
    have hbd : Below w3.heap.size w3 wd := by rw [← hwd]; exact (Below.refl _ _).drew
    rw [hwd] at hS ⊢
    have HSd := Lib.hid (HS3.out.step hbd)
    have HRd := Lib.hid (HR3.out.step hbd)
    have HQd := Lib.hid (HQ3.out.step hbd)
    have HBd : Hid (Below w.heap.size w wd) := HB3.out.trans (hbd.mono HB3.out.size)
    clear hwd hbd n0 n1 n2 n3 n4 n5 n6 n7 n8
    obtain ⟨w4, hw4⟩ : ∃ w4, wd.alloc (.cells #[.int .i64 s.id, .int .i64 s.kd, .int .i64 s.fr, .int .i64 s.un, .int .i64 s.ps, .int .i64 s.rm, .int .i64 0, .bool s.ac, .bool false] 37) = w4 := ⟨_, rfl⟩
    have hb4 : Below wd.heap.size wd w4 := by rw [← hw4]; exact (Below.refl _ _).alloc (Nat.le_refl _) _
    obtain ⟨g4, hg4⟩ : ∃ g4, wd.heap.size = g4 := ⟨_, rfl⟩
    have hsl : SlG stE w4 (some ⟨g4, 0, none⟩) 1 [s] := SlG.row (rest := []) (by
     rw [← hw4, ← hg4]
     show Row _ _ [.int .i64 s.id, .int .i64 s.kd, .int .i64 s.fr, .int .i64 s.un, .int .i64 s.ps, .int .i64 s.rm, .int .i64 s.wt, .bool s.ac, .bool s.inn]
     rw [HWT.out, HIN.out]
     exact Row.new' _ _ _ rfl) rfl
    have hS4 : w4.cell? ⟨bx, 0, none⟩ = some (.int .i64 s.id) ∧ w4.cell? ⟨bx, 1, none⟩ = some (.int .i64 s.kd) ∧ w4.cell? ⟨bx, 2, none⟩ = some (.int .i64 s.fr) ∧ w4.cell? ⟨bx, 3, none⟩ = some (.int .i64 s.un) ∧ w4.cell? ⟨bx, 4, none⟩ = some (.int .i64 s.ps) ∧ w4.cell? ⟨bx, 5, none⟩ = some (.int .i64 s.rm) ∧ w4.cell? ⟨bx, 6, none⟩ = some (.int .i64 0) ∧ w4.cell? ⟨bx, 7, none⟩ = some (.bool s.ac) ∧ w4.cell? ⟨bx, 8, none⟩ = some (.bool false) := by
     obtain ⟨f0, f1, f2, f3, f4, f5, f6, f7, f8⟩ := hS
     refine ⟨?_, ?_, ?_, ?_, ?_, ?_, ?_, ?_, ?_⟩ <;> exact (hb4.cell (World.block_lt_of_cell? _ _ (by assumption))).trans (by assumption)
    refine AnyJ.one (i := 8) (by kernel_rfl) rfl (fun Kz hKz => ?_)
    go_simp
    try rw [hw4]
    try rw [hg4]
    refine hKz _ _ (fun _ => hS4) ?_
    have HS4 := Lib.hid (HSd.out.step hb4)
    have HR4 := Lib.hid (HRd.out.step hb4)
    have HQ4 := Lib.hid (HQd.out.step hb4)
    have HB4 : Hid (Below w.heap.size w w4) := HBd.out.trans (hb4.mono HBd.out.size)
    have hsz4 := HB4.out.size
    clear hKz Kz hw4 hg4 hb4 hS
    refine AnyJ.one (i := 9) (by kernel_rfl) rfl (fun Kz hKz => ?_)
    refine step_append_clip stI rfl (.tmp 26) (.tmp 28) 26 rfl Tryz.underlying26 (sa := (some ⟨gb, off, none⟩)) (n := n) (l := l) (by simp [Act.eval, Act.put]) HS4.out (xa := some ⟨g4, 0, none⟩) (m := 1) (c := 1) (ys := [s]) (by simp [Act.eval, Act.put]) hsl (by omega) (by omega) (by omega) ?_
    intro g cp w5 ho5 hg5
    have hb5 : Below w4.heap.size w4 w5 := ⟨hg5.os, hg5.tape, hg5.output, hg5.size, fun k hk => hg5.block k hk (by simp)⟩
    have hS5 : w5.cell? ⟨bx, 0, none⟩ = some (.int .i64 s.id) ∧ w5.cell? ⟨bx, 1, none⟩ = some (.int .i64 s.kd) ∧ w5.cell? ⟨bx, 2, none⟩ = some (.int .i64 s.fr) ∧ w5.cell? ⟨bx, 3, none⟩ = some (.int .i64 s.un) ∧ w5.cell? ⟨bx, 4, none⟩ = some (.int .i64 s.ps) ∧ w5.cell? ⟨bx, 5, none⟩ = some (.int .i64 s.rm) ∧ w5.cell? ⟨bx, 6, none⟩ = some (.int .i64 0) ∧ w5.cell? ⟨bx, 7, none⟩ = some (.bool s.ac) ∧ w5.cell? ⟨bx, 8, none⟩ = some (.bool false) := by
     obtain ⟨f0, f1, f2, f3, f4, f5, f6, f7, f8⟩ := hS4
     refine ⟨?_, ?_, ?_, ?_, ?_, ?_, ?_, ?_, ?_⟩ <;> exact (hb5.cell (World.block_lt_of_cell? _ _ (by assumption))).trans (by assumption)
    have HO5 := Lib.hid ho5
    have HR5 := Lib.hid (HR4.out.step hb5)
    have HQ5 := Lib.hid (HQ4.out.step hb5)
    have HB5 : Hid (Below w.heap.size w w5) := HB4.out.trans (hb5.mono HB4.out.size)
    refine hKz _ _ (fun _ => hS5) ?_
    clear hKz Kz ho5 hg5 hb5 hS4 hsl
    refine AnyJ.one (i := 10) (by kernel_rfl) rfl (fun Kz hKz => ?_)
    go_simp
    refine (Assign_any a (some ⟨g, 0, none⟩) m mc (n + 1) cp RL (l ++ [s]) w5 hm HR5.out HV.out (.inr ⟨g, 0, rfl⟩) HO5.out.sl HGN.out).mono ?_
    rintro e w6 ⟨va, vn, vc, r, ok, er, rfl, hA, hb6⟩
    have hS6 : w6.cell? ⟨bx, 0, none⟩ = some (.int .i64 s.id) ∧ w6.cell? ⟨bx, 1, none⟩ = some (.int .i64 s.kd) ∧ w6.cell? ⟨bx, 2, none⟩ = some (.int .i64 s.fr) ∧ w6.cell? ⟨bx, 3, none⟩ = some (.int .i64 s.un) ∧ w6.cell? ⟨bx, 4, none⟩ = some (.int .i64 s.ps) ∧ w6.cell? ⟨bx, 5, none⟩ = some (.int .i64 s.rm) ∧ w6.cell? ⟨bx, 6, none⟩ = some (.int .i64 0) ∧ w6.cell? ⟨bx, 7, none⟩ = some (.bool s.ac) ∧ w6.cell? ⟨bx, 8, none⟩ = some (.bool false) := by
     obtain ⟨f0, f1, f2, f3, f4, f5, f6, f7, f8⟩ := hS5
     refine ⟨?_, ?_, ?_, ?_, ?_, ?_, ?_, ?_, ?_⟩ <;> exact (hb6.cell (World.block_lt_of_cell? _ _ (by assumption))).trans (by assumption)
    have HA6 := Lib.hid hA
    have HQ6 := Lib.hid (HQ5.out.step hb6)
    have HB6 : Hid (Below w.heap.size w w6) := HB5.out.trans (hb6.mono HB5.out.size)
    have hsz5 := HB5.out.size
    refine hKz _ _ (fun _ => hS6) ?_
    clear hKz Kz hA hb6 hS5
    have hS := hS6
    refine AnyJ.takeD (i := 11) (d := some 31) (v := ?_) rfl (by kernel_rfl) (by kernel_rfl) (by kernel_rfl) (by kernel_rfl) (by kernel_rfl) (fun _ _ _ h => h) (Or.inl ⟨by kernel_rfl, ?_⟩) hS ?_
    rotate_left
    ·
     intro w' hS
     obtain ⟨f0, f1, f2, f3, f4, f5, f6, f7, f8⟩ := hS
     go_simp
     try with_reducible rfl
    refine AnyJ.takeD (i := 12) (d := some 32) (v := ?_) rfl (by kernel_rfl) (by kernel_rfl) (by kernel_rfl) (by kernel_rfl) (by kernel_rfl) (fun _ _ _ h => h) (Or.inl ⟨by kernel_rfl, ?_⟩) hS ?_
    rotate_left
    ·
     intro w' hS
     obtain ⟨f0, f1, f2, f3, f4, f5, f6, f7, f8⟩ := hS
     go_simp
     try with_reducible rfl
    refine AnyJ.takeD (i := 13) (d := some 33) (v := ?_) rfl (by kernel_rfl) (by kernel_rfl) (by kernel_rfl) (by kernel_rfl) (by kernel_rfl) (fun _ _ _ h => h) (Or.inl ⟨by kernel_rfl, ?_⟩) hS ?_
    rotate_left
    ·
     intro w' hS
     obtain ⟨f0, f1, f2, f3, f4, f5, f6, f7, f8⟩ := hS
     go_simp
     try with_reducible rfl
    refine AnyJ.takeD (i := 14) (d := some 34) (v := ?_) rfl (by kernel_rfl) (by kernel_rfl) (by kernel_rfl) (by kernel_rfl) (by kernel_rfl) (fun _ _ _ h => h) (Or.inl ⟨by kernel_rfl, ?_⟩) hS ?_
    rotate_left
    ·
     intro w' hS
     obtain ⟨f0, f1, f2, f3, f4, f5, f6, f7, f8⟩ := hS
     go_simp
     try with_reducible rfl
    refine AnyJ.one (i := 15) (by kernel_rfl) rfl (fun Kz hKz => ?_)
    go_simp
    refine hKz _ _ (fun _ => hS6) ?_
    clear hKz Kz
    have q := HQ6.out
    have u0 := q.cell 0 rfl
    have v0 := q.frozen 0
    have u1 := q.cell 1 rfl
    have v1 := q.frozen 1
    have u2 := q.cell 2 rfl
    have v2 := q.frozen 2
    have u3 := q.cell 3 rfl
    have v3 := q.frozen 3
    have u4 := q.cell 4 rfl
    have v4 := q.frozen 4
    have rl := q.lt
    obtain ⟨w7, hw7⟩ : ∃ w7, ((((w6.setCell ⟨r1, 0, none⟩ (.int .i64 r.kd)).setCell ⟨r1, 1, none⟩ (.int .i64 r.ni)).setCell ⟨r1, 2, none⟩ (.slice r.sa r.sn r.sc)).setCell ⟨r1, 3, none⟩ (.slice r.ra r.rn r.rc)).setCell ⟨r1, 4, none⟩ (.slice r.ba r.bn r.bc) = w7 := ⟨_, rfl⟩
    have hc7 : Ch (fun k => k = r1) w6 w7 := by rw [← hw7]; exact (((((Ch.refl (fun k => k = r1) w6).setCell (p := ⟨r1, 0, none⟩) rfl _).setCell (p := ⟨r1, 1, none⟩) rfl _).setCell (p := ⟨r1, 2, none⟩) rfl _).setCell (p := ⟨r1, 3, none⟩) rfl _).setCell (p := ⟨r1, 4, none⟩) rfl _
    have hq7 : Row w7 r1 r.cs := by rw [← hw7]; exact ((((q.setc 0 _).setc 1 _).setc 2 _).setc 3 _).setc 4 _
    have hS7 : w7.cell? ⟨bx, 0, none⟩ = some (.int .i64 s.id) ∧ w7.cell? ⟨bx, 1, none⟩ = some (.int .i64 s.kd) ∧ w7.cell? ⟨bx, 2, none⟩ = some (.int .i64 s.fr) ∧ w7.cell? ⟨bx, 3, none⟩ = some (.int .i64 s.un) ∧ w7.cell? ⟨bx, 4, none⟩ = some (.int .i64 s.ps) ∧ w7.cell? ⟨bx, 5, none⟩ = some (.int .i64 s.rm) ∧ w7.cell? ⟨bx, 6, none⟩ = some (.int .i64 0) ∧ w7.cell? ⟨bx, 7, none⟩ = some (.bool s.ac) ∧ w7.cell? ⟨bx, 8, none⟩ = some (.bool false) := by
     obtain ⟨f0, f1, f2, f3, f4, f5, f6, f7, f8⟩ := hS6
     refine ⟨?_, ?_, ?_, ?_, ?_, ?_, ?_, ?_, ?_⟩ <;> exact (World.cell?_of_block (hc7.2.2.2.2 bx (World.block_lt_of_cell? _ _ (by assumption)) (by omega))).trans (by assumption)
    refine AnyJ.one (i := 16) (by kernel_rfl) rfl (fun Kz hKz => ?_)
    go_simp
    try rw [hw7]
    refine hKz _ _ (fun _ => hS7) ?_
    clear hKz Kz hw7 u0 u1 u2 u3 u4 v0 v1 v2 v3 v4 rl q
    refine AnyJ.one (i := 17) (by kernel_rfl) rfl (fun Kz hKz => ?_)
    go_simp
    refine hKz _ _ (fun _ => hS7) ?_
    clear hKz Kz
    refine AnyJ.one (i := 18) (by kernel_rfl) rfl (fun Kz hKz => ?_)
    go_simp
    refine hKz _ _ (fun _ => hS7) ?_
    clear hKz Kz
    refine AnyJ.done (by kernel_rfl) ?_ _
    try simp only [Act.put, List.setIfInBounds_toArray, List.set_cons_zero, List.set_cons_succ]
    have u0 := hq7.cell 0 rfl
    have u1 := hq7.cell 1 rfl
    have u2 := hq7.cell 2 rfl
    have u3 := hq7.cell 3 rfl
    have u4 := hq7.cell 4 rfl
    have HB7 : Hid (Below w.heap.size w w7) := hc7.below HB6.out (fun k hk => by omega) HB6.out.size
    have HA7 : Hid (AsgOut RL (l ++ [s]) (n + 1) w7 w.heap.size va vn vc r ok er) := HA6.out.ch hc7 hsz5 (fun k hk => by have := HQ5.out.lt; omega)
    clear hS hS6 hS7 hc7 hq7
    go_wp2_with fail
    refine bodyPost_ret (v := .tuple #[.slice va vn vc, r.val, .bool ok, .int .i64 er]) (by simp [results, Tryz.results12, go_sem, u0, u1, u2, u3, u4]) rfl ?_
    exact ⟨va, vn, vc, r, ok, er, rfl, HB7.out, .inr ⟨HGN.out, HA7.out⟩⟩
end
section
set_option linter.unusedSimpArgs false
set_option linter.unusedVariables false
open Go.RowKit Go.Shelf
/-- The stay with a number has other nights. -/
def extF (id fr un : Int) (x : StayV) : StayV := if x.id = id then { x with fr := fr, un := un } else x
theorem extF_yes {id fr un : Int} {x : StayV} (h : x.id = id) : extF id fr un x = { x with fr := fr, un := un } := if_pos h
theorem extF_no {id fr un : Int} {x : StayV} (h : x.id ≠ id) : extF id fr un x = x := if_neg h
theorem extF_id (id fr un : Int) (x : StayV) : (extF id fr un x).id = x.id := by unfold extF; split <;> rfl
theorem extF_good {id fr un : Int} {x : StayV} (h : x.Good) (hf : 0 ≤ fr ∧ fr < un ∧ un ≤ 366 ∧ un - fr ≤ 60) : (extF id fr un x).Good := by
 unfold extF
 split
 ·
  exact ⟨hf, h.2⟩
 ·
  exact h
theorem ext_goodL {id fr un : Int} {l : List StayV} (h : GoodL l) (hf : 0 ≤ fr ∧ fr < un ∧ un ≤ 366 ∧ un - fr ≤ 60) : GoodL (l.map (extF id fr un)) := by
 refine ⟨fun y hy => ?_, ?_, by rw [List.length_map]; exact h.few⟩
 ·
  obtain ⟨x, hx, rfl⟩ := List.mem_map.1 hy
  exact extF_good (h.each x hx) hf
 ·
  rw [List.map_map, show StayV.id ∘ extF id fr un = StayV.id from funext (extF_id id fr un)]
  exact h.ids
/-- What the loop over the stays holds. -/
def ExtJ (id fr un : Int) (bp bm bf bu : Nat) (l : List StayV) (i : Nat) (W : World) : Prop := Row W bp [.int .i64 id, .int .i64 0] ∧ Row W bf [.int .i64 fr] ∧ Row W bu [.int .i64 un] ∧ ∃ mv, Row W bm [.bool mv] ∧ (mv = false → ∀ (k : Nat) (x : StayV), k < i → l[k]? = some x → x.id = id → x.inn = true → x.fr = fr)
theorem ext_step {id fr un : Int} {bp bm bf bu base g n i : Nat} {l cur : List StayV} {x : StayV} {W : World} (hmp : bm ≠ bp) (hmf : bm ≠ bf) (hmu : bm ≠ bu) (h1 : bp < base) (h2 : bm < base) (h3 : bf < base) (h4 : bu < base) (hid1 : 1 ≤ x.id) (hx : l[i]? = some x) (hc : cur[i]? = some x) (hgl : base ≤ g) (ho : OwnG stE 37 W base (.slice (some ⟨g, 0, none⟩) n n) cur) (hJ : ExtJ id fr un bp bm bf bu l i W) :
  Calls Tryz.prog 40 #[.pointer (some ⟨g, i * 9, none⟩), .pointer (some ⟨bp, 0, none⟩), .pointer (some ⟨bm, 0, none⟩), .pointer (some ⟨bf, 0, none⟩), .pointer (some ⟨bu, 0, none⟩)] W fun e W' => e = .returned (.tuple #[]) ∧ OwnG stE 37 W' base (.slice (some ⟨g, 0, none⟩) n n) (cur.set i (extF id fr un x)) ∧ ExtJ id fr un bp bm bf bu l (i + 1) W' ∧ Ch (fun k => k = g ∨ k = bm) W W' := by
 obtain ⟨rp, rf, ru, mv, rm, hmv⟩ := hJ
 by_cases hid : x.id = id
 ·
  refine (extends_yes id fr un bp bm bf bu i g n base x cur W mv hid rp rm rf ru h2 h3 h4 hmf hmu hc ho).mono ?_
  rintro e W' ⟨rfl, ho', rm', hch⟩
  rw [extF_yes hid]
  refine ⟨rfl, ho', ⟨rp.ch hch (by omega), rf.ch hch (by omega), ru.ch hch (by omega), _, rm', fun hf k y hk hy hyid hyin => ?_⟩, hch⟩
  rw [Bool.or_eq_false_iff] at hf
  rcases Nat.lt_succ_iff_lt_or_eq.1 hk with hk | rfl
  ·
   exact hmv hf.1 k y hk hy hyid hyin
  ·
   rw [hx] at hy
   cases hy
   have := hf.2
   rw [hyin, Bool.true_and] at this
   simpa using this
 ·
  refine (extends_no id fr un bp bm bf bu i g n base x cur W hid hid1 rp hc ho).mono ?_
  rintro e W' ⟨rfl, hb⟩
  rw [extF_no hid]
  have hset : cur.set i x = cur := by
   apply List.ext_getElem?
   intro j
   by_cases e : i = j
   ·
    subst e
    rw [List.getElem?_set_self (List.getElem?_eq_some_iff.1 hc).1, hc]
   ·
    rw [List.getElem?_set_ne e]
  rw [hset]
  refine ⟨rfl, ho.step hb, ⟨rp.step hb, rf.step hb, ru.step hb, mv, rm.step hb, fun hf k y hk hy hyid hyin => ?_⟩, Ch.ofB hb⟩
  rcases Nat.lt_succ_iff_lt_or_eq.1 hk with hk | rfl
  ·
   exact hmv hf k y hk hy hyid hyin
  ·
   rw [hx] at hy
   cases hy
   exact absurd hyid hid
set_option maxRecDepth 100000 in
set_option maxHeartbeats 6400000 in
theorem Extend_any (a b : Option Addr) (m mc n cap : Nat) (RL : List RoomV) (l : List StayV) (id fr un : Int) (w : World) (hm : m ≤ 1000) (hr : SlM w a m RL) (hv : validM RL = true) (hpb : PlA b) (hs : SlG stE w b n l) (hg : GoodL l) (hid : 1 ≤ id ∧ id ≤ 1000000) (hf : 0 ≤ fr ∧ fr < un ∧ un ≤ 366 ∧ un - fr ≤ 60) :
  Calls Tryz.prog 16 #[.slice a m mc, .slice b n cap, .int .i64 id, .int .i64 fr, .int .i64 un] w fun e w' => ∃ (va : Option Addr) (vn vc : Nat) (r : RefV) (ok : Bool) (er : Int), e = .returned (.tuple #[.slice va vn vc, r.val, .bool ok, .int .i64 er]) ∧ Below w.heap.size w w' ∧
   ((ok = false ∧ er ≠ 0) ∨ ((∀ x ∈ l, x.id = id → x.inn = true → x.fr = fr) ∧ AsgOut RL (l.map (extF id fr un)) n w' w.heap.size va vn vc r ok er)) := by
 have hn := hg.len hs.1
 have HS := Lib.hid hs
 have HG := Lib.hid hg
 have HL := Lib.hid hs.1
 have HR := Lib.hid hr
 have HV := Lib.hid hv
 have HPB := Lib.hid hpb
 have HID := Lib.hid hid
 have HFU := Lib.hid hf
 clear hs hg hr hv hpb hid hf
 obtain ⟨bf, hbf⟩ : ∃ bf, w.heap.size = bf := ⟨_, rfl⟩
 obtain ⟨bu, hbu⟩ : ∃ bu, bf + 1 = bu := ⟨_, rfl⟩
 obtain ⟨r1, hr1⟩ : ∃ r1, bu + 1 = r1 := ⟨_, rfl⟩
 obtain ⟨w0, hw0⟩ : ∃ w0, ((w.alloc (.cells #[.int .i64 fr] 3)).alloc (.cells #[.int .i64 un] 3)).alloc (.cells #[.int .i64 0, .int .i64 0, .slice none 0 0, .slice none 0 0, .slice none 0 0] 47) = w0 := ⟨_, rfl⟩
 have hb1 : Below w.heap.size w w0 := by rw [← hw0]; (repeat' (first | (with_reducible first | exact Below.refl _ _ | assumption | exact Bw.out (by assumption) | refine bw_alloc ?_ _ | refine bw_step ?_ (by assumption) | refine Below.alloc ?_ ?_ _ | refine Below.drew ?_ | refine below_drewN ?_ _ | refine Below.setCell ?_ ?_ _ | refine below_step ?_ (by assumption) ?_ | exact Nat.le_refl _) | omega | (simp; omega) | (simp; done)))
 have qf : Row w0 bf [.int .i64 fr] := by rw [← hw0, ← hbf]; (repeat' (first | (with_reducible assumption) | (with_reducible refine Row.new' _ _ _ (by first | rfl | (simp; done) | omega)) | (with_reducible first | refine Row.alloc ?_ _ | refine Row.drew ?_ | refine Row.step ?_ (by assumption) | refine Row.drewN ?_ _) | (with_reducible refine Row.set2' ?_ _ _; first | exact ⟨_, _, by assumption⟩ | exact ⟨_, _, Row.alloc (by assumption) _⟩) | (with_reducible refine Row.other ?_ (by first | omega | (simp; omega)) _)))
 have qu : Row w0 bu [.int .i64 un] := by rw [← hw0, ← hbu, ← hbf]; (repeat' (first | (with_reducible assumption) | (with_reducible refine Row.new' _ _ _ (by first | rfl | (simp; done) | omega)) | (with_reducible first | refine Row.alloc ?_ _ | refine Row.drew ?_ | refine Row.step ?_ (by assumption) | refine Row.drewN ?_ _) | (with_reducible refine Row.set2' ?_ _ _; first | exact ⟨_, _, by assumption⟩ | exact ⟨_, _, Row.alloc (by assumption) _⟩) | (with_reducible refine Row.other ?_ (by first | omega | (simp; omega)) _)))
 have qr : Row w0 r1 zref.cs := by rw [← hw0, ← hr1, ← hbu, ← hbf]; (repeat' (first | (with_reducible assumption) | (with_reducible refine Row.new' _ _ _ (by first | rfl | (simp; done) | omega)) | (with_reducible first | refine Row.alloc ?_ _ | refine Row.drew ?_ | refine Row.step ?_ (by assumption) | refine Row.drewN ?_ _) | (with_reducible refine Row.set2' ?_ _ _; first | exact ⟨_, _, by assumption⟩ | exact ⟨_, _, Row.alloc (by assumption) _⟩) | (with_reducible refine Row.other ?_ (by first | omega | (simp; omega)) _)))
 have HB0 := Lib.hid hb1
 have HF0 := Lib.hid qf
 have HU0 := Lib.hid qu
 have HQ0 := Lib.hid qr
 have HS0 := Lib.hid (HS.out.step hb1)
 have HR0 := Lib.hid (HR.out.step hb1)
 clear hb1 qf qu qr
 go_enter Tryz.func16, Tryz.ntmps16
 go_wp2_with fail
 refine (rvalid_p a m mc RL w0 (by omega) HR0.out true HV.out).mono ?_
 rintro e w1 ⟨rfl, hb2⟩
 have HS1 := Lib.hid (HS0.out.step hb2)
 have HR1 := Lib.hid (HR0.out.step hb2)
 have HQ1 := Lib.hid (HQ0.out.step hb2)
 have HF1 := Lib.hid (HF0.out.step hb2)
 have HU1 := Lib.hid (HU0.out.step hb2)
 have HB1 : Hid (Below w.heap.size w w1) := HB0.out.trans (hb2.mono HB0.out.size)
 clear hb2
 go_wp2_with fail
 refine (sValid_yes b n cap l w1 HS1.out HG.out).mono ?_
 rintro e w2 ⟨rfl, hb2⟩
 have HS2 := Lib.hid (HS1.out.step hb2)
 have HR2 := Lib.hid (HR1.out.step hb2)
 have HQ2 := Lib.hid (HQ1.out.step hb2)
 have HF2 := Lib.hid (HF1.out.step hb2)
 have HU2 := Lib.hid (HU1.out.step hb2)
 have HB2 : Hid (Below w.heap.size w w2) := HB1.out.trans (hb2.mono HB1.out.size)
 clear hb2
 go_wp2_with fail
 refine (isID_p id HID.out w2).mono ?_
 rintro e w2' ⟨rfl, rfl⟩
 go_wp2_with fail
 refine (findT_any b n cap l id w2' (by omega) HS2.out).mono ?_
 rintro e w3 ⟨i, ok, rfl, hyes, hno, hb3⟩
 have HS3 := Lib.hid (HS2.out.step hb3)
 have HR3 := Lib.hid (HR2.out.step hb3)
 have HQ3 := Lib.hid (HQ2.out.step hb3)
 have HF3 := Lib.hid (HF2.out.step hb3)
 have HU3 := Lib.hid (HU2.out.step hb3)
 have HB3 : Hid (Below w.heap.size w w3) := HB2.out.trans (hb3.mono HB2.out.size)
 have HYES := Lib.hid hyes
 clear hb3 hno hyes
 cases ok with
 | false =>
  skip
  have q := HQ3.out
  have u0 := q.cell 0 rfl
  have v0 := q.frozen 0
  have u1 := q.cell 1 rfl
  have v1 := q.frozen 1
  have u2 := q.cell 2 rfl
  have v2 := q.frozen 2
  have u3 := q.cell 3 rfl
  have v3 := q.frozen 3
  have u4 := q.cell 4 rfl
  have v4 := q.frozen 4
  have rl := q.lt
  go_wp2_with fail
  refine bodyPost_ret (v := .tuple #[.slice none 0 0, zref.val, .bool false, .int .i64 4]) (by simp [results, Tryz.results16, go_sem, u0, u1, u2, u3, u4, rl]) rfl ?_
  refine ⟨none, 0, 0, zref, false, 4, rfl, ?_, .inl ⟨rfl, by decide⟩⟩
  exact ((((HB3.out.setCell (by show _ ≤ r1; omega) _).setCell (by show _ ≤ r1; omega) _).setCell (by show _ ≤ r1; omega) _).setCell (by show _ ≤ r1; omega) _).setCell (by show _ ≤ r1; omega) _
 | true =>
  obtain ⟨s, hsi, hsid⟩ := HYES.out (by trivial)
  have hil : i < n := by have := (List.getElem?_eq_some_iff.1 hsi).1; rw [HL.out] at this; exact this
  obtain ⟨s', gs, off1, hsx, rfl, hlb1, x0, x1, x2, x3, x4, x5, x6, x7, x8⟩ := slT_get HS3.out hil
  have hss : s' = s := by have := hsx.out; rw [hsi] at this; cases this; rfl
  subst hss
  have HSM : Hid (s' ∈ l) := List.mem_of_getElem? hsi
  have hwt := (HG.out.each s' HSM.out).2.2.2.2.2.1
  rw [hwt] at x6
  have HWT := Lib.hid hwt
  have i1 : (0 : Int) ≤ (i : Int) := by omega
  have i2 : (i : Int) < (n : Int) := by omega
  clear hsi hsid hsx hwt HYES
  have hsg : ({ s' with fr := fr, un := un } : StayV).Good := ⟨HFU.out, (HG.out.each s' HSM.out).2⟩
  have hiss := fun W => isStay_yes { s' with fr := fr, un := un } hsg W
  dsimp only at hiss
  rw [HWT.out] at hiss
  have HISS := Lib.hid hiss
  obtain ⟨bp, hbp⟩ : ∃ bp, w3.heap.size = bp := ⟨_, rfl⟩
  obtain ⟨w4, hw4⟩ : ∃ w4, (w3.alloc (.cells #[.int .i64 id, .int .i64 0] 66)).alloc (.cells #[.int .i64 s'.id, .int .i64 s'.kd, .int .i64 s'.fr, .int .i64 s'.un, .int .i64 s'.ps, .int .i64 s'.rm, .int .i64 0, .bool s'.ac, .bool s'.inn] 37) = w4 := ⟨_, rfl⟩
  have hb4 : Below w3.heap.size w3 w4 := by rw [← hw4]; exact ((Below.refl _ _).alloc (Nat.le_refl _) _).alloc (by simp) _
  have hrp : Row w4 bp [.int .i64 id, .int .i64 0] := by rw [← hw4, ← hbp]; exact (Row.new' _ [.int .i64 id, .int .i64 0] _ rfl).alloc _
  have hrs : Row w4 (bp + 1) [.int .i64 s'.id, .int .i64 s'.kd, .int .i64 s'.fr, .int .i64 s'.un, .int .i64 s'.ps, .int .i64 s'.rm, .int .i64 0, .bool s'.ac, .bool s'.inn] := by rw [← hw4, ← hbp]; exact Row.new' _ [.int .i64 s'.id, .int .i64 s'.kd, .int .i64 s'.fr, .int .i64 s'.un, .int .i64 s'.ps, .int .i64 s'.rm, .int .i64 0, .bool s'.ac, .bool s'.inn] _ (by simp)
  have hs4 : w4.heap.size = bp + 2 := by rw [← hw4, ← hbp]; simp
  have HS4 := Lib.hid (HS3.out.step hb4)
  have HR4 := Lib.hid (HR3.out.step hb4)
  have HQ4 := Lib.hid (HQ3.out.step hb4)
  have HF4 := Lib.hid (HF3.out.step hb4)
  have HU4 := Lib.hid (HU3.out.step hb4)
  have HB4 : Hid (Below w.heap.size w w4) := HB3.out.trans (hb4.mono HB3.out.size)
  have HP4 := Lib.hid hrp
  have HC4 := Lib.hid hrs
  have HW4 := Lib.hid hw4
  have hfl := HF3.out.lt
  have hul := HU3.out.lt
  have hql := HQ3.out.lt
  have HBP := Lib.hid hbp
  clear hsg hiss hw4 hb4 hrp hrs hbp
  have y0 := HF4.out.cell 0 rfl
  have y1 := HU4.out.cell 0 rfl
  have z0 := HC4.out.cell 0 rfl
  have z1 := HC4.out.cell 1 rfl
  have z2 := HC4.out.cell 2 rfl
  have z3 := HC4.out.cell 3 rfl
  have z4 := HC4.out.cell 4 rfl
  have z5 := HC4.out.cell 5 rfl
  have z6 := HC4.out.cell 6 rfl
  have z7 := HC4.out.cell 7 rfl
  have z8 := HC4.out.cell 8 rfl
  have f2 := HC4.out.frozen 2
  have f3 := HC4.out.frozen 3
  have cl := HC4.out.lt
  obtain ⟨w5, hw5⟩ : ∃ w5, ((w4.setCell ⟨bp + 1, 2, none⟩ (.int .i64 fr)).setCell ⟨bp + 1, 3, none⟩ (.int .i64 un)).drew = w5 := ⟨_, rfl⟩
  have hc5 : Ch (fun k => k = bp + 1) w4 w5 := by rw [← hw5]; exact (((Ch.refl (fun k => k = bp + 1) w4).setCell (p := ⟨bp + 1, 2, none⟩) rfl _).setCell (p := ⟨bp + 1, 3, none⟩) rfl _).drew
  have hrs5 : Row w5 (bp + 1) [.int .i64 s'.id, .int .i64 s'.kd, .int .i64 fr, .int .i64 un, .int .i64 s'.ps, .int .i64 s'.rm, .int .i64 0, .bool s'.ac, .bool s'.inn] := by rw [← hw5]; exact ((HC4.out.setc 2 _).setc 3 _).drew
  have HW5 := Lib.hid hw5
  have hb35 : Below w3.heap.size w3 w5 := hc5.below (by have := HB4.out; exact (show Below w3.heap.size w3 w4 from by rw [← HW4.out]; exact ((Below.refl _ _).alloc (Nat.le_refl _) _).alloc (by simp) _)) (fun k hk => by have := HBP.out; omega) (by have := HBP.out; omega)
  have HS5 := Lib.hid (HS3.out.step hb35)
  have HR5 := Lib.hid (HR3.out.step hb35)
  have HQ5 := Lib.hid (HQ3.out.step hb35)
  have HF5 := Lib.hid (HF3.out.step hb35)
  have HU5 := Lib.hid (HU3.out.step hb35)
  have HB5 : Hid (Below w.heap.size w w5) := HB3.out.trans (hb35.mono HB3.out.size)
  have HP5 := Lib.hid (HP4.out.ch hc5 (by omega))
  have HC5 := Lib.hid hrs5
  clear hw5 hc5 hrs5 hb35
  go_upto_region 8 with fail
  rw [HW4.out, HBP.out]
  clear x0 x1 x2 x3 x4 x5 x6 x7 x8
  go_region
  rw [HW5.out]
  clear y0 y1 z0 z1 z2 z3 z4 z5 z6 z7 z8 f2 f3 cl HW4 HW5
  have z0 := HC5.out.cell 0 rfl
  have z1 := HC5.out.cell 1 rfl
  have z2 := HC5.out.cell 2 rfl
  have z3 := HC5.out.cell 3 rfl
  have z4 := HC5.out.cell 4 rfl
  have z5 := HC5.out.cell 5 rfl
  have z6 := HC5.out.cell 6 rfl
  have z7 := HC5.out.cell 7 rfl
  have z8 := HC5.out.cell 8 rfl
  go_wp2_with fail
  refine (HISS.out w5).mono ?_
  rintro e w6 ⟨rfl, hb6⟩
  have HS6 := Lib.hid (HS5.out.step hb6)
  have HR6 := Lib.hid (HR5.out.step hb6)
  have HQ6 := Lib.hid (HQ5.out.step hb6)
  have HF6 := Lib.hid (HF5.out.step hb6)
  have HU6 := Lib.hid (HU5.out.step hb6)
  have HB6 : Hid (Below w.heap.size w w6) := HB5.out.trans (hb6.mono HB5.out.size)
  have HP6 := Lib.hid (HP5.out.step hb6)
  have hpl := HP6.out.lt
  have hs6 := HB6.out.size
  clear hb6 z0 z1 z2 z3 z4 z5 z6 z7 z8
  obtain ⟨bm, hbm⟩ : ∃ bm, w6.heap.size = bm := ⟨_, rfl⟩
  obtain ⟨w7, hw7⟩ : ∃ w7, w6.alloc (.cells #[.bool false] 4) = w7 := ⟨_, rfl⟩
  have hb7 : Below w6.heap.size w6 w7 := by rw [← hw7]; exact (Below.refl _ _).alloc (Nat.le_refl _) _
  have hrm : Row w7 bm [.bool false] := by rw [← hw7, ← hbm]; exact Row.new' _ _ _ rfl
  have HS7 := Lib.hid (HS6.out.step hb7)
  have HR7 := Lib.hid (HR6.out.step hb7)
  have HQ7 := Lib.hid (HQ6.out.step hb7)
  have HF7 := Lib.hid (HF6.out.step hb7)
  have HU7 := Lib.hid (HU6.out.step hb7)
  have HB7 : Hid (Below w.heap.size w w7) := HB6.out.trans (hb7.mono HB6.out.size)
  have HP7 := Lib.hid (HP6.out.step hb7)
  have HM7 := Lib.hid hrm
  have hfl6 := HF6.out.lt
  have hul6 := HU6.out.lt
  have hql6 := HQ6.out.lt
  have hs7 : w7.heap.size = bm + 1 := by rw [← hw7, ← hbm]; simp
  have hch := changed_any (extF id fr un) 40 #[.pointer (some ⟨bp, 0, none⟩), .pointer (some ⟨bm, 0, none⟩), .pointer (some ⟨bf, 0, none⟩), .pointer (some ⟨bu, 0, none⟩)] (enters_of Tryz.func40 (by kernel_rfl) rfl) (fun k => k = bm) (ExtJ id fr un bp bm bf bu l) (some ⟨gs, off1, none⟩) n cap l w7 HPB.out HS7.out (by omega) (fun k hk => by omega)
   (fun W hb => ⟨HP7.out.step hb, HF7.out.step hb, HU7.out.step hb, false, HM7.out.step hb, fun _ k x hk => absurd hk (Nat.not_lt_zero _)⟩)
   (fun j x g cur W hx hc hgl ho hJ => ext_step (by omega) (by omega) (by omega) (by omega) (by omega) (by omega) (by omega) (HG.out.each x (List.mem_of_getElem? hx)).2.1.1 hx hc hgl ho hJ)
  have HCH := Lib.hid hch
  have HW7 := Lib.hid hw7
  clear hch hb7 hrm hw7
  go_wp2_with fail
  rw [HW7.out]
  refine HCH.out.mono ?_
  rintro e w8 ⟨g, rfl, ho8, ⟨_, _, _, mv, hm8, hmv⟩, hc8⟩
  have HO8 := Lib.hid ho8
  have HMV : Hid (mv = false → ∀ x ∈ l, x.id = id → x.inn = true → x.fr = fr) := fun h x hx h1 h2 => by
   obtain ⟨k, hk⟩ := List.getElem?_of_mem hx
   exact hmv h k x (by have := (List.getElem?_eq_some_iff.1 hk).1; rw [HL.out] at this; exact this) hk h1 h2
  have HQ8 := Lib.hid (HQ7.out.ch hc8 (by omega))
  have HB8 : Hid (Below w.heap.size w w8) := hc8.below HB7.out (fun k hk => by omega) HB7.out.size
  have HR8 : Hid (SlM w8 a m RL) := (HR6.out.stab (sb := bm) (by omega)).ch HR7.out hc8 (by omega)
  have h78 := hc8.size
  have m0 := hm8.cell 0 rfl
  clear ho8 hmv hc8 HCH
  cases mv with
  | true =>
   skip
   have q := HQ8.out
   have u0 := q.cell 0 rfl
   have v0 := q.frozen 0
   have u1 := q.cell 1 rfl
   have v1 := q.frozen 1
   have u2 := q.cell 2 rfl
   have v2 := q.frozen 2
   have u3 := q.cell 3 rfl
   have v3 := q.frozen 3
   have u4 := q.cell 4 rfl
   have v4 := q.frozen 4
   have rl := q.lt
   go_wp2_with fail
   refine bodyPost_ret (v := .tuple #[.slice none 0 0, zref.val, .bool false, .int .i64 6]) (by simp [results, Tryz.results16, go_sem, u0, u1, u2, u3, u4, rl]) rfl ?_
   refine ⟨none, 0, 0, zref, false, 6, rfl, ?_, .inl ⟨rfl, by decide⟩⟩
   exact ((((HB8.out.setCell (by show _ ≤ r1; omega) _).setCell (by show _ ≤ r1; omega) _).setCell (by show _ ≤ r1; omega) _).setCell (by show _ ≤ r1; omega) _).setCell (by show _ ≤ r1; omega) _
  | false =>
   have hgn := ext_goodL (id := id) HG.out HFU.out
   have HGN := Lib.hid hgn
   clear hgn
   go_wp2_with fail
   refine (Assign_any a (some ⟨g, 0, none⟩) m mc n n RL (l.map (extF id fr un)) w8 hm HR8.out HV.out (.inr ⟨g, 0, rfl⟩) HO8.out.sl HGN.out).mono ?_
   rintro e w9 ⟨va, vn, vc, r, ok, er, rfl, hA, hb9⟩
   have HA9 := Lib.hid hA
   have HQ9 := Lib.hid (HQ8.out.step hb9)
   have HB9 : Hid (Below w.heap.size w w9) := HB8.out.trans (hb9.mono HB8.out.size)
   have hs8 := HB8.out.size
   have hq8 := HQ8.out.lt
   have q := HQ9.out
   have u0 := q.cell 0 rfl
   have v0 := q.frozen 0
   have u1 := q.cell 1 rfl
   have v1 := q.frozen 1
   have u2 := q.cell 2 rfl
   have v2 := q.frozen 2
   have u3 := q.cell 3 rfl
   have v3 := q.frozen 3
   have u4 := q.cell 4 rfl
   have v4 := q.frozen 4
   have rl := q.lt
   obtain ⟨wf, hwf⟩ : ∃ wf, ((((w9.setCell ⟨r1, 0, none⟩ (.int .i64 r.kd)).setCell ⟨r1, 1, none⟩ (.int .i64 r.ni)).setCell ⟨r1, 2, none⟩ (.slice r.sa r.sn r.sc)).setCell ⟨r1, 3, none⟩ (.slice r.ra r.rn r.rc)).setCell ⟨r1, 4, none⟩ (.slice r.ba r.bn r.bc) = wf := ⟨_, rfl⟩
   have hcf : Ch (fun k => k = r1) w9 wf := by rw [← hwf]; exact (((((Ch.refl (fun k => k = r1) w9).setCell (p := ⟨r1, 0, none⟩) rfl _).setCell (p := ⟨r1, 1, none⟩) rfl _).setCell (p := ⟨r1, 2, none⟩) rfl _).setCell (p := ⟨r1, 3, none⟩) rfl _).setCell (p := ⟨r1, 4, none⟩) rfl _
   have hqf : Row wf r1 r.cs := by rw [← hwf]; exact ((((q.setc 0 _).setc 1 _).setc 2 _).setc 3 _).setc 4 _
   clear hA hb9
   go_wp2_with fail
   have e0 := hqf.cell 0 rfl
   have e1 := hqf.cell 1 rfl
   have e2 := hqf.cell 2 rfl
   have e3 := hqf.cell 3 rfl
   have e4 := hqf.cell 4 rfl
   try rw [hwf]
   refine bodyPost_ret (v := .tuple #[.slice va vn vc, r.val, .bool ok, .int .i64 er]) (by simp [results, Tryz.results16, go_sem, e0, e1, e2, e3, e4]) rfl ?_
   exact ⟨va, vn, vc, r, ok, er, rfl, hcf.below HB9.out (fun k hk => by omega) HB9.out.size, .inr ⟨HMV.out (by trivial), HA9.out.ch hcf hs8 (fun k hk => by omega)⟩⟩
end
end Go.Proofs.YtlmajlfhjbhdpaaGreat
