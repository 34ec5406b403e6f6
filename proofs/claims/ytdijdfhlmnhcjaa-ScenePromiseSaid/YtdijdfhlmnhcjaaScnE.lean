/-
  Package scene, fifth part: open.
-/
import Derived.Test.YtdijdfhlmnhcjaaScnD
namespace Go.Proofs.Ytdijdfhlmnhcjaa
set_option linter.unusedSimpArgs false
set_option linter.unusedVariables false
open Go.RowKit Go.MapKept

def chanB (sh zs ys : List Int) (i : Nat) : Bool := !decide (zs.getD i 0 ∈ zs.take i) && (inR (zs.getD i 0) 0 ((sh.length : Int) - 1) && inR (ys.getD i 0) 0 (sh.getD (zs.getD i 0).toNat 0))
def cutB (sh zs ys : List Int) : Bool := (List.range zs.length).all (chanB sh zs ys)
def shAt (l : List NightV) (i : Nat) : List Int := (l[i]?.map NightV.zs).getD []
/-- Can a scene happen? -/
def openB (l : List NightV) (nt wd : Int) (zs ys : List Int) : Bool := nightsB l && (inR nt 0 ((l.length : Int) - 1) && (decide (ys.length = zs.length) && (inR wd 0 100000 && cutB (shAt l nt.toNat) zs ys)))
theorem openB_in {l : List NightV} {nt wd : Int} {zs ys : List Int} (h : openB l nt wd zs ys = true) : nightsB l = true ∧ (0 ≤ nt ∧ nt ≤ (l.length : Int) - 1) ∧ ys.length = zs.length ∧ (0 ≤ wd ∧ wd ≤ 100000) ∧ ∀ i, i < zs.length → chanB (shAt l nt.toNat) zs ys i = true := by
  unfold openB at h
  simp only [Bool.and_eq_true, decide_eq_true_eq, inR_iff] at h
  obtain ⟨h1, h2, h3, h4, h5⟩ := h
  refine ⟨h1, h2, h3, h4, fun i hi => ?_⟩
  unfold cutB at h5
  rw [List.all_eq_true] at h5
  exact h5 i (List.mem_range.2 hi)
theorem chanB_in {sh zs ys : List Int} {i : Nat} (h : chanB sh zs ys i = true) : zs.getD i 0 ∉ zs.take i ∧ (0 ≤ zs.getD i 0 ∧ zs.getD i 0 ≤ (sh.length : Int) - 1) ∧ (0 ≤ ys.getD i 0 ∧ ys.getD i 0 ≤ sh.getD (zs.getD i 0).toNat 0) := by
  unfold chanB at h
  simp only [Bool.and_eq_true, Bool.not_eq_true', decide_eq_false_iff_not, inR_iff] at h
  exact h
theorem cutB_bad {sh zs ys : List Int} {i : Nat} (hi : i < zs.length) (h : chanB sh zs ys i = false) : cutB sh zs ys = false := by
  unfold cutB
  rw [List.all_eq_false]
  exact ⟨i, List.mem_range.2 hi, by simp [h]⟩
theorem cutB_good {sh zs ys : List Int} (h : ∀ i, i < zs.length → chanB sh zs ys i = true) : cutB sh zs ys = true := by
  unfold cutB
  rw [List.all_eq_true]
  exact fun i hi => h i (List.mem_range.1 hi)
theorem openB_false {l : List NightV} {nt wd : Int} {zs ys : List Int} (h : nightsB l = false ∨ inR nt 0 ((l.length : Int) - 1) = false ∨ ys.length ≠ zs.length ∨ inR wd 0 100000 = false ∨ cutB (shAt l nt.toNat) zs ys = false) : openB l nt wd zs ys = false := by
  unfold openB
  rcases h with h | h | h | h | h <;> simp [h]
/-- A scene's value; a play's. -/
def scnV (nt wd : Int) (ac : Option Addr) (nc cc : Nat) (as' : Option Addr) (ns cs : Nat) : Value := .agg #[.int .i64 nt, .int .i64 wd, .slice ac nc cc, .slice as' ns cs]
def plyV (nt wd : Int) (ac : Option Addr) (nc cc : Nat) (as' : Option Addr) (ns cs : Nat) (rm sd : Int) (sa : Option Addr) (sn sc : Nat) : Value := .agg #[.int .i64 nt, .int .i64 wd, .slice ac nc cc, .slice as' ns cs, .int .i64 rm, .int .i64 sd, .slice sa sn sc]
def ply0 : Value := plyV 0 0 none 0 0 none 0 0 0 0 none 0 0
theorem shAt_get {l : List NightV} {i : Nat} {x : NightV} (h : l[i]? = some x) : shAt l i = x.zs := by unfold shAt; rw [h]; rfl

theorem Row.put7 {w : World} {b : Nat} {x0 x1 x2 x3 x4 x5 x6 : Value} (h : Row w b [x0, x1, x2, x3, x4, x5, x6]) (v0 v1 v2 v3 v4 v5 v6 : Value) :
    ∃ wB, ((((((w.setCell ⟨b, 0, none⟩ v0).setCell ⟨b, 1, none⟩ v1).setCell ⟨b, 2, none⟩ v2).setCell ⟨b, 3, none⟩ v3).setCell ⟨b, 4, none⟩ v4).setCell ⟨b, 5, none⟩ v5).setCell ⟨b, 6, none⟩ v6 = wB ∧ Row wB b [v0, v1, v2, v3, v4, v5, v6] ∧ (∀ c, c ≠ b → wB.heap[c]? = w.heap[c]?) ∧ (∀ B w0, B ≤ b → Below B w0 w → Below B w0 wB) := by
  have pt : ∀ {w : World} {b : Nat} {cs ds : List Value} (_ : Row w b cs) (i : Nat) (v : Value) (_ : cs.set i v = ds), Row (w.setCell ⟨b, i, none⟩ v) b ds := fun h i v hd => by
    obtain ⟨T, h⟩ := h
    subst hd
    exact ⟨T, by simp [World.setCell, Array.getElem?_modify, h]⟩
  refine ⟨_, rfl, pt (pt (pt (pt (pt (pt (pt h 0 v0 rfl) 1 v1 rfl) 2 v2 rfl) 3 v3 rfl) 4 v4 rfl) 5 v5 rfl) 6 v6 rfl, fun c hc => by simp [World.setCell, Array.getElem?_modify, Ne.symm hc], fun B w0 hB hb => ?_⟩
  exact (((((((hb.setCell hB _).setCell hB _).setCell hB _).setCell hB _).setCell hB _).setCell hB _).setCell hB _)
/-- What open answers. -/
def OpP (l : List NightV) (nt wd : Int) (ac : Option Addr) (nc cc : Nat) (as' : Option Addr) (ns cs : Nat) (w : World) (b : Bool) (e : Ending) (w' : World) : Prop :=
  ∃ pv, e = .returned (.tuple #[pv, .bool b]) ∧ (b = false → pv = ply0) ∧ (b = true → ∀ x, l[nt.toNat]? = some x → pv = plyV nt wd ac nc cc as' ns cs x.rooms x.sold x.at' x.n x.cap) ∧ Below w.heap.size w w'
theorem OpP.yes {l : List NightV} {nt wd : Int} {ac : Option Addr} {nc cc : Nat} {as' : Option Addr} {ns cs : Nat} {rm sd : Int} {sa : Option Addr} {sn sc : Nat} {sz : List Int} {w w' : World} (hx : l[nt.toNat]? = some ⟨rm, sd, sa, sn, sc, sz⟩) (hb : Below w.heap.size w w') : OpP l nt wd ac nc cc as' ns cs w true (.returned (.tuple #[.agg #[.int .i64 nt, .int .i64 wd, .slice ac nc cc, .slice as' ns cs, .int .i64 rm, .int .i64 sd, .slice sa sn sc], .bool true])) w' :=
  ⟨_, rfl, fun h => absurd h (by decide), fun _ x h => by rw [hx] at h; cases h; rfl, hb⟩
theorem OpP.no {l : List NightV} {nt wd : Int} {ac : Option Addr} {nc cc : Nat} {as' : Option Addr} {ns cs : Nat} {w w' : World} (hb : Below w.heap.size w w') : OpP l nt wd ac nc cc as' ns cs w false (.returned (.tuple #[.agg #[.int .i64 0, .int .i64 0, .slice none 0 0, .slice none 0 0, .int .i64 0, .int .i64 0, .slice none 0 0], .bool false])) w' :=
  ⟨_, rfl, fun _ => rfl, fun h => absurd h (by decide), hb⟩


set_option maxRecDepth 100000 in
set_option maxHeartbeats 12800000 in
theorem open_any (a : Option Addr) (n cap : Nat) (l : List NightV) (nt wd : Int) (ac : Option Addr) (nc cc : Nat) (zs : List Int) (as' : Option Addr) (ns cs : Nat) (ys : List Int) (w : World)
    (hn : n ≤ 9223372036854775807) (hnc : nc ≤ 9223372036854775807) (hns : ns ≤ 9223372036854775807) (hs : SlN w a n l) (hz : SlI w ac nc zs) (hy : SlI w as' ns ys) (b : Bool) (hb : openB l nt wd zs ys = b) :
    Calls Try.prog 27 #[.slice a n cap, .agg #[.int .i64 nt, .int .i64 wd, .slice ac nc cc, .slice as' ns cs]] w (OpP l nt wd ac nc cc as' ns cs w b) := by
  have HS := Lib.hid hs
  have HZ := Lib.hid hz
  have HY := Lib.hid hy
  have HL := Lib.hid hs.1
  have HZL := Lib.hid hz.1
  have HYL := Lib.hid hy.1
  have HB := Lib.hid hb
  clear hs hz hy hb
  go_enter Try.func27, Try.ntmps27
  go_wp2_with fail
  refine (share_valid_any a n cap l _ hn (HS.out.below (by (repeat' (first | (with_reducible exact Below.refl _ _) | (with_reducible assumption) | (with_reducible exact Bw.out (by with_reducible assumption)) | (with_reducible refine bw_alloc ?_ _) | (with_reducible refine bw_step ?_ (by with_reducible assumption)) | (with_reducible refine Below.alloc ?_ ?_ _) | (with_reducible refine Below.drew ?_) | (with_reducible refine below_drewN ?_ _) | (with_reducible refine Below.setCell ?_ ?_ _) | (with_reducible refine below_step ?_ (by with_reducible assumption) ?_) | (with_reducible exact Nat.le_refl _) | omega | (simp; omega) | (simp; done)))))).mono ?_
  rintro e w1 ⟨rfl, hb1⟩
  have R_s_1 : Row w1 (w.heap.size) [.int .i64 nt, .int .i64 wd, .slice ac nc cc, .slice as' ns cs] := by (repeat' (first | (with_reducible assumption) | (with_reducible refine Row.new' _ _ _ (by first | rfl | (simp; done) | omega)) | (with_reducible refine Row.alloc ?_ _) | (with_reducible refine Row.drew ?_) | (with_reducible refine Row.drewN ?_ _) | (with_reducible refine Row.step ?_ (by with_reducible assumption)) | (with_reducible refine Row.set2' ?_ _ _; first | exact ⟨_, _, by with_reducible assumption⟩ | exact ⟨_, _, Row.alloc (by with_reducible assumption) _⟩ | exact ⟨_, _, Row.alloc (Row.alloc (by with_reducible assumption) _) _⟩) | (with_reducible refine Row.other ?_ (by first | omega | (simp; done) | (simp; omega)) _)))
  have c_s_0_1 := R_s_1.cell 0 rfl
  have c_s_1_1 := R_s_1.cell 1 rfl
  have c_s_2_1 := R_s_1.cell 2 rfl
  have c_s_3_1 := R_s_1.cell 3 rfl
  have l_s_1 := R_s_1.lt
  have R_r_1 : Row w1 (w.heap.size + 1) [.int .i64 0, .int .i64 0, .slice none 0 0, .slice none 0 0, .int .i64 0, .int .i64 0, .slice none 0 0] := by (repeat' (first | (with_reducible assumption) | (with_reducible refine Row.new' _ _ _ (by first | rfl | (simp; done) | omega)) | (with_reducible refine Row.alloc ?_ _) | (with_reducible refine Row.drew ?_) | (with_reducible refine Row.drewN ?_ _) | (with_reducible refine Row.step ?_ (by with_reducible assumption)) | (with_reducible refine Row.set2' ?_ _ _; first | exact ⟨_, _, by with_reducible assumption⟩ | exact ⟨_, _, Row.alloc (by with_reducible assumption) _⟩ | exact ⟨_, _, Row.alloc (Row.alloc (by with_reducible assumption) _) _⟩) | (with_reducible refine Row.other ?_ (by first | omega | (simp; done) | (simp; omega)) _)))
  have c_r_0_1 := R_r_1.cell 0 rfl
  have c_r_1_1 := R_r_1.cell 1 rfl
  have c_r_2_1 := R_r_1.cell 2 rfl
  have c_r_3_1 := R_r_1.cell 3 rfl
  have c_r_4_1 := R_r_1.cell 4 rfl
  have c_r_5_1 := R_r_1.cell 5 rfl
  have c_r_6_1 := R_r_1.cell 6 rfl
  have z_r_0_1 := R_r_1.frozen 0
  have z_r_1_1 := R_r_1.frozen 1
  have z_r_2_1 := R_r_1.frozen 2
  have z_r_3_1 := R_r_1.frozen 3
  have z_r_4_1 := R_r_1.frozen 4
  have z_r_5_1 := R_r_1.frozen 5
  have z_r_6_1 := R_r_1.frozen 6
  have l_r_1 := R_r_1.lt
  have HB1 : Below w.heap.size w w1 := by (repeat' (first | (with_reducible exact Below.refl _ _) | (with_reducible assumption) | (with_reducible exact Bw.out (by with_reducible assumption)) | (with_reducible refine bw_alloc ?_ _) | (with_reducible refine bw_step ?_ (by with_reducible assumption)) | (with_reducible refine Below.alloc ?_ ?_ _) | (with_reducible refine Below.drew ?_) | (with_reducible refine below_drewN ?_ _) | (with_reducible refine Below.setCell ?_ ?_ _) | (with_reducible refine below_step ?_ (by with_reducible assumption) ?_) | (with_reducible exact Nat.le_refl _) | omega | (simp; omega) | (simp; done)))
  cases h1 : nightsB l with
  | false =>
    have hbf : b = false := by rw [← HB.out]; exact openB_false (Or.inl h1)
    subst hbf
    go_wp2_with fail
    obtain ⟨wB, hwB, RB, _, hBB⟩ := Row.put7 R_r_1 (.int .i64 0) (.int .i64 0) (.slice none 0 0) (.slice none 0 0) (.int .i64 0) (.int .i64 0) (.slice none 0 0)
    rw [hwB]
    have HBB := hBB w.heap.size w (by omega) HB1
    have z0 := RB.cell 0 rfl
    have z1 := RB.cell 1 rfl
    have z2 := RB.cell 2 rfl
    have z3 := RB.cell 3 rfl
    have z4 := RB.cell 4 rfl
    have z5 := RB.cell 5 rfl
    have z6 := RB.cell 6 rfl
    have lB := RB.lt
    clear hwB
    exact bodyPost_ret (v := .tuple #[.agg #[.int .i64 0, .int .i64 0, .slice none 0 0, .slice none 0 0, .int .i64 0, .int .i64 0, .slice none 0 0], .bool false]) (by simp [results, Try.results27, go_sem, z0, z1, z2, z3, z4, z5, z6, lB]) rfl (OpP.no HBB)
  | true =>
    go_wp2_with fail
    cases h2 : inR nt 0 ((n : Int) - 1) with
    | false =>
      have hbf : b = false := by rw [← HB.out]; exact openB_false (Or.inr (Or.inl (by rw [HL.out]; exact h2)))
      subst hbf
      refine (s_within _ _ _ _ false h2).mono ?_
      rintro e w' ⟨rfl, rfl⟩
      go_wp2_with fail
      obtain ⟨wB, hwB, RB, _, hBB⟩ := Row.put7 R_r_1 (.int .i64 0) (.int .i64 0) (.slice none 0 0) (.slice none 0 0) (.int .i64 0) (.int .i64 0) (.slice none 0 0)
      rw [hwB]
      have HBB := hBB w.heap.size w (by omega) HB1
      have z0 := RB.cell 0 rfl
      have z1 := RB.cell 1 rfl
      have z2 := RB.cell 2 rfl
      have z3 := RB.cell 3 rfl
      have z4 := RB.cell 4 rfl
      have z5 := RB.cell 5 rfl
      have z6 := RB.cell 6 rfl
      have lB := RB.lt
      clear hwB
      exact bodyPost_ret (v := .tuple #[.agg #[.int .i64 0, .int .i64 0, .slice none 0 0, .slice none 0 0, .int .i64 0, .int .i64 0, .slice none 0 0], .bool false]) (by simp [results, Try.results27, go_sem, z0, z1, z2, z3, z4, z5, z6, lB]) rfl (OpP.no HBB)
    | true =>
      refine (s_within _ _ _ _ true h2).mono ?_
      rintro e w' ⟨rfl, rfl⟩
      by_cases h3 : ns = nc
      · have h3a : ((ns : Int) != (nc : Int)) = false := by simp [h3]
        have h3b : (ns != nc) = false := by simp [h3]
        have H3 := Lib.hid h3
        clear h3
        go_wp2_with fail
        cases h4 : inR wd 0 100000 with
        | false =>
          have hbf : b = false := by rw [← HB.out]; exact openB_false (Or.inr (Or.inr (Or.inr (Or.inl h4))))
          subst hbf
          refine (s_within _ _ _ _ false h4).mono ?_
          rintro e w' ⟨rfl, rfl⟩
          go_wp2_with fail
          obtain ⟨wB, hwB, RB, _, hBB⟩ := Row.put7 R_r_1 (.int .i64 0) (.int .i64 0) (.slice none 0 0) (.slice none 0 0) (.int .i64 0) (.int .i64 0) (.slice none 0 0)
          rw [hwB]
          have HBB := hBB w.heap.size w (by omega) HB1
          have z0 := RB.cell 0 rfl
          have z1 := RB.cell 1 rfl
          have z2 := RB.cell 2 rfl
          have z3 := RB.cell 3 rfl
          have z4 := RB.cell 4 rfl
          have z5 := RB.cell 5 rfl
          have z6 := RB.cell 6 rfl
          have lB := RB.lt
          clear hwB
          exact bodyPost_ret (v := .tuple #[.agg #[.int .i64 0, .int .i64 0, .slice none 0 0, .slice none 0 0, .int .i64 0, .int .i64 0, .slice none 0 0], .bool false]) (by simp [results, Try.results27, go_sem, z0, z1, z2, z3, z4, z5, z6, lB]) rfl (OpP.no HBB)
        | true =>
          refine (s_within _ _ _ _ true h4).mono ?_
          rintro e w' ⟨rfl, rfl⟩
          have H1 := Lib.hid h1
          have H4 := Lib.hid h4
          have H2 := Lib.hid h2
          obtain ⟨t0, t1⟩ := inR_iff.1 h2
          obtain ⟨i, rfl⟩ := Int.eq_ofNat_of_zero_le t0
          have hin : i < n := by omega
          obtain ⟨x, bb, off, hx, _, hxin, rfl, hbb, c0, c1, c2⟩ := (HS.out.below HB1).get hin
          have HSA : Hid (shAt l ((i : Int)).toNat = x.zs) := by show _ = _; rw [Int.toNat_natCast]; exact shAt_get hx
          have HX : Hid (l[((i : Int)).toNat]? = some x) := by show _ = _; rw [Int.toNat_natCast]; exact hx
          have HXI := Lib.hid (show x.In _ from hxin)
          obtain ⟨rm, sd, sa, sn, sc, sz⟩ := x
          simp only [] at c0 c1 c2
          have i1 : (0 : Int) ≤ (i : Int) := by omega
          have i2 : (i : Int) < (n : Int) := by omega
          clear h1 h2 h4 h3a h3b hx hxin t0 t1
          obtain ⟨w1, hw1⟩ : ∃ W, W = w' := ⟨_, rfl⟩
          subst hw1
          have HK7 : Hid (∀ w', Below w1.heap.size w1 w' → w'.cell? ⟨w.heap.size, 0, none⟩ = some (.int .i64 (i : Int)) ∧ w'.cell? ⟨w.heap.size, 1, none⟩ = some (.int .i64 wd) ∧ w'.cell? ⟨w.heap.size, 2, none⟩ = some (.slice ac nc cc) ∧ w'.cell? ⟨w.heap.size, 3, none⟩ = some (.slice as' ns cs) ∧
            w'.cell? ⟨bb, off + i * 3, none⟩ = some (.int .i64 rm) ∧ w'.cell? ⟨bb, off + i * 3 + 1, none⟩ = some (.int .i64 sd) ∧ w'.cell? ⟨bb, off + i * 3 + 2, none⟩ = some (.slice sa sn sc)) := fun w' hb =>
            ⟨(R_s_1.step hb).cell 0 rfl, (R_s_1.step hb).cell 1 rfl, (R_s_1.step hb).cell 2 rfl, (R_s_1.step hb).cell 3 rfl, (hb.cell (p := ⟨bb, off + i * 3, none⟩) hbb).trans c0, (hb.cell (p := ⟨bb, off + i * 3 + 1, none⟩) hbb).trans c1, (hb.cell (p := ⟨bb, off + i * 3 + 2, none⟩) hbb).trans c2⟩
          go_upto_region 3 with fail
          refine AnyJ.beginP (fun w' : World => w'.cell? ⟨w.heap.size, 0, none⟩ = some (.int .i64 (i : Int)) ∧ w'.cell? ⟨w.heap.size, 1, none⟩ = some (.int .i64 wd) ∧ w'.cell? ⟨w.heap.size, 2, none⟩ = some (.slice ac nc cc) ∧ w'.cell? ⟨w.heap.size, 3, none⟩ = some (.slice as' ns cs) ∧
            w'.cell? ⟨bb, off + i * 3, none⟩ = some (.int .i64 rm) ∧ w'.cell? ⟨bb, off + i * 3 + 1, none⟩ = some (.int .i64 sd) ∧ w'.cell? ⟨bb, off + i * 3 + 2, none⟩ = some (.slice sa sn sc)) (fun j => decide (j ≤ 7)) (by kernel_rfl) (HK7.out _ (Below.refl _ w1).drew) (fun hS => ?_)
          refine AnyJ.takeD (i := 0) (d := some 38) (v := ?_) rfl (by kernel_rfl) (by kernel_rfl) (by kernel_rfl) (by kernel_rfl) (by kernel_rfl) (fun _ _ _ h => h) (Or.inl ⟨by kernel_rfl, ?_⟩) hS ?_
          rotate_left
          · intro w' hS
            obtain ⟨sF0, sF1, sF2, sF3, sF4, sF5, sF6⟩ := hS
            go_simp
            try with_reducible rfl
          refine AnyJ.takeD (i := 1) (d := some 39) (v := ?_) rfl (by kernel_rfl) (by kernel_rfl) (by kernel_rfl) (by kernel_rfl) (by kernel_rfl) (fun _ _ _ h => h) (Or.inl ⟨by kernel_rfl, ?_⟩) hS ?_
          rotate_left
          · intro w' hS
            obtain ⟨sF0, sF1, sF2, sF3, sF4, sF5, sF6⟩ := hS
            go_simp
            try with_reducible rfl
          refine AnyJ.takeD (i := 2) (d := some 40) (v := ?_) rfl (by kernel_rfl) (by kernel_rfl) (by kernel_rfl) (by kernel_rfl) (by kernel_rfl) (fun _ _ _ h => h) (Or.inl ⟨by kernel_rfl, ?_⟩) hS ?_
          rotate_left
          · intro w' hS
            obtain ⟨sF0, sF1, sF2, sF3, sF4, sF5, sF6⟩ := hS
            go_simp
            try with_reducible rfl
          refine AnyJ.takeD (i := 3) (d := some 41) (v := ?_) rfl (by kernel_rfl) (by kernel_rfl) (by kernel_rfl) (by kernel_rfl) (by kernel_rfl) (fun _ _ _ h => h) (Or.inl ⟨by kernel_rfl, ?_⟩) hS ?_
          rotate_left
          · intro w' hS
            obtain ⟨sF0, sF1, sF2, sF3, sF4, sF5, sF6⟩ := hS
            go_simp
            try with_reducible rfl
          refine AnyJ.takeD (i := 4) (d := some 42) (v := ?_) rfl (by kernel_rfl) (by kernel_rfl) (by kernel_rfl) (by kernel_rfl) (by kernel_rfl) (fun _ _ _ h => h) (Or.inl ⟨by kernel_rfl, ?_⟩) hS ?_
          rotate_left
          · intro w' hS
            obtain ⟨sF0, sF1, sF2, sF3, sF4, sF5, sF6⟩ := hS
            go_simp
            try with_reducible rfl
          refine AnyJ.takeD (i := 5) (d := some 43) (v := ?_) rfl (by kernel_rfl) (by kernel_rfl) (by kernel_rfl) (by kernel_rfl) (by kernel_rfl) (fun _ _ _ h => h) (Or.inl ⟨by kernel_rfl, ?_⟩) hS ?_
          rotate_left
          · intro w' hS
            obtain ⟨sF0, sF1, sF2, sF3, sF4, sF5, sF6⟩ := hS
            go_simp
            try with_reducible rfl
          refine AnyJ.takeD (i := 6) (d := some 44) (v := ?_) rfl (by kernel_rfl) (by kernel_rfl) (by kernel_rfl) (by kernel_rfl) (by kernel_rfl) (fun _ _ _ h => h) (Or.inl ⟨by kernel_rfl, ?_⟩) hS ?_
          rotate_left
          · intro w' hS
            obtain ⟨sF0, sF1, sF2, sF3, sF4, sF5, sF6⟩ := hS
            go_simp
            try with_reducible rfl
          clear hS
          refine AnyJ.one (i := 7) (by kernel_rfl) rfl (fun Kz hKz => ?_)
          go_simp
          refine hKz _ _ (fun _ => HK7.out _ (by (repeat' (first | (with_reducible exact Below.refl _ _) | (with_reducible assumption) | (with_reducible exact Bw.out (by with_reducible assumption)) | (with_reducible refine bw_alloc ?_ _) | (with_reducible refine bw_step ?_ (by with_reducible assumption)) | (with_reducible refine Below.alloc ?_ ?_ _) | (with_reducible refine Below.drew ?_) | (with_reducible refine below_drewN ?_ _) | (with_reducible refine Below.setCell ?_ ?_ _) | (with_reducible refine below_step ?_ (by with_reducible assumption) ?_) | (with_reducible exact Nat.le_refl _) | omega | (simp; omega) | (simp; done))))) ?_
          clear hKz Kz
          refine AnyJ.one (i := 8) (by kernel_rfl) rfl (fun Kz hKz => ?_)
          go_simp
          generalize hwA : (w1.alloc _).drew = wP
          have RP : Row wP w1.heap.size [.int .i64 (i : Int), .int .i64 wd, .slice ac nc cc, .slice as' ns cs, .int .i64 rm, .int .i64 sd, .slice sa sn sc] := by rw [← hwA]; exact Row.new' w1 [.int .i64 (i : Int), .int .i64 wd, .slice ac nc cc, .slice as' ns cs, .int .i64 rm, .int .i64 sd, .slice sa sn sc] _ rfl
          have hBA : Below w1.heap.size w1 wP := by rw [← hwA]; (repeat' (first | (with_reducible exact Below.refl _ _) | (with_reducible assumption) | (with_reducible exact Bw.out (by with_reducible assumption)) | (with_reducible refine bw_alloc ?_ _) | (with_reducible refine bw_step ?_ (by with_reducible assumption)) | (with_reducible refine Below.alloc ?_ ?_ _) | (with_reducible refine Below.drew ?_) | (with_reducible refine below_drewN ?_ _) | (with_reducible refine Below.setCell ?_ ?_ _) | (with_reducible refine below_step ?_ (by with_reducible assumption) ?_) | (with_reducible exact Nat.le_refl _) | omega | (simp; omega) | (simp; done)))
          refine hKz _ _ (fun h => absurd h (by decide)) ?_
          clear hKz Kz hwA
          obtain ⟨gP, hgP⟩ : ∃ g, w1.heap.size = g := ⟨_, rfl⟩
          have HRs := Lib.hid R_s_1
          have HRr := Lib.hid R_r_1
          have HB1' := Lib.hid HB1
          have hgs : w.heap.size + 1 < gP := by rw [← hgP]; exact R_r_1.lt
          rw [hgP] at RP hBA
          try rw [hgP]
          have HGP := Lib.hid hgP
          have HBP := Lib.hid hBA
          have HRP := Lib.hid RP
          clear RP hBA
          refine AnyJ.done (by kernel_rfl) ?_ _
          try simp only [Act.put, List.setIfInBounds_toArray, List.set_cons_zero, List.set_cons_succ]
          have hmkm := @run_makeMap Try.prog
          have qP2 := (HRs.out.below HBP.out (show w.heap.size < gP by omega)).cell 2 rfl
          have lsP := (HRs.out.below HBP.out (show w.heap.size < gP by omega)).lt
          clear hgP R_s_1 R_r_1 HB1 c0 c1 c2
          go_wp2_with fail
          clear qP2 lsP
          generalize hW6 : wP.alloc (.map #[] 0) = w6
          have HM0 : Hid (IMap w6 wP.heap.size []) := by show IMap _ _ _; rw [← hW6]; exact imap_made _
          have HB6 : Hid (Below wP.heap.size wP w6) := by show Below _ _ _; rw [← hW6]; (repeat' (first | (with_reducible exact Below.refl _ _) | (with_reducible assumption) | (with_reducible exact Bw.out (by with_reducible assumption)) | (with_reducible refine bw_alloc ?_ _) | (with_reducible refine bw_step ?_ (by with_reducible assumption)) | (with_reducible refine Below.alloc ?_ ?_ _) | (with_reducible refine Below.drew ?_) | (with_reducible refine below_drewN ?_ _) | (with_reducible refine Below.setCell ?_ ?_ _) | (with_reducible refine below_step ?_ (by with_reducible assumption) ?_) | (with_reducible exact Nat.le_refl _) | omega | (simp; omega) | (simp; done)))
          have hgp2 : gP < wP.heap.size := HRP.out.lt
          clear hW6
          obtain ⟨gM, hgM⟩ : ∃ g, wP.heap.size = g := ⟨_, rfl⟩
          rw [hgM] at HM0 HB6 hgp2 ⊢
          clear hgM
          obtain ⟨gS, hgS⟩ : ∃ g, w.heap.size = g := ⟨_, rfl⟩
          rw [hgS] at HRs HRr hgs
          try rw [hgS]
          have HGS := Lib.hid hgS
          clear hgS
          go_loopw [49] (fun vi wr => ∃ (k : Nat) (f : List (Int × Value)), k ≤ nc ∧ vi = .int .i64 k ∧ Hid (∀ j : Nat, j < k → chanB sz zs ys j = true) ∧ Hid (SeenI f (zs.take k)) ∧ Hid (IMap wr gM f) ∧ Hid (Below gM wP wr)) (fun vi _ => nc - (intOf vi).toNat)
          case atStart => exact ⟨0, [], Nat.zero_le _, rfl, fun j hj => absurd hj (Nat.not_lt_zero _), by show SeenI _ _; simpa using SeenI.start, HM0.out, HB6.out⟩
          case round =>
            obtain ⟨k, f, hk, rfl, hA, hF, hI, hB⟩ := hrel
            have hB1 : Hid (Below gP w1 wr) := HBP.out.trans (hB.out.mono (by omega))
            have hB2 : Hid (Below w1.heap.size w1 wr) := by show Below _ _ _; rw [HGP.out]; exact hB1.out
            have hBw : Hid (Below w.heap.size w wr) := HB1'.out.trans (hB2.out.mono HB1'.out.size)
            have hRs : Hid (Row wr gS [.int .i64 (i : Int), .int .i64 wd, .slice ac nc cc, .slice as' ns cs]) := HRs.out.below hB1.out (by omega)
            have hRr : Hid (Row wr (gS + 1) [.int .i64 0, .int .i64 0, .slice none 0 0, .slice none 0 0, .int .i64 0, .int .i64 0, .slice none 0 0]) := HRr.out.below hB1.out (by omega)
            have hRP : Hid (Row wr gP [.int .i64 (i : Int), .int .i64 wd, .slice ac nc cc, .slice as' ns cs, .int .i64 rm, .int .i64 sd, .slice sa sn sc]) := HRP.out.below hB.out hgp2
            by_cases hlt : k < nc
            · obtain ⟨bz, oz, c, rfl, _, qc, hc, _, _⟩ := (HZ.out.below hBw.out).get hlt
              obtain ⟨by', oy, y, hye, _, qy, hyv, _, _⟩ := (HY.out.below hBw.out).get (show k < ns by rw [H3.out]; exact hlt)
              subst hye
              have qP6 := hRP.out.cell 6 rfl
              have qS3 := hRs.out.cell 3 rfl
              have hin2 := (HXI.out.below hB2.out)
              have hsl : sz.length = sn := hin2.2.1
              have hsn : sn ≤ 9223372036854775807 := hin2.1
              have hch : chanB sz zs ys k = (!decide (c ∈ zs.take k) && (inR c 0 ((sn : Int) - 1) && inR y 0 (sz.getD c.toNat 0))) := by
                unfold chanB
                rw [hc.out, hyv.out, hsl]
              have HCH := Lib.hid hch
              have HC := Lib.hid hc.out
              have HIN2 := Lib.hid hin2.2
              have k1 : (0 : Int) ≤ (k : Int) := by omega
              have k2 : (k : Int) < (nc : Int) := by omega
              have k3 : (k : Int) < (ns : Int) := by rw [H3.out]; exact k2
              clear hin2 hsl hch hc hyv
              by_cases hmem : c ∈ zs.take k
              · have HMEM : Hid (c ∈ zs.take k) := hmem
                have HBADE : Hid (chanB sz zs ys k = false) := by show _ = _; rw [HCH.out, decide_eq_true HMEM.out]; rfl
                clear hmem
                go_upto_region 8 with fail
                refine AnyJ.beginP (fun w' : World => w'.cell? ⟨gP, 6, none⟩ = some (.slice sa sn sc) ∧ w'.cell? ⟨gS, 3, none⟩ = some (.slice (some ⟨by', oy, none⟩) ns cs) ∧ w'.cell? ⟨by', oy + k, none⟩ = some (.int .i64 y) ∧ IMap w' gM f) (fun _ => true) (by kernel_rfl) ⟨qP6, qS3, qy, hI.out⟩ (fun hS => ?_)
                refine AnyJ.takeD (i := 0) (d := some 54) (v := ?_) rfl (by kernel_rfl) (by kernel_rfl) (by kernel_rfl) (by kernel_rfl) (by kernel_rfl) (fun _ _ _ h => h) (Or.inl ⟨by kernel_rfl, ?_⟩) hS ?_
                rotate_left
                · intro w' hS
                  obtain ⟨sF0, sF1, sF2, sF3⟩ := hS
                  go_simp
                  try with_reducible rfl
                refine AnyJ.takeD (i := 1) (d := some 55) (v := ?_) rfl (by kernel_rfl) (by kernel_rfl) (by kernel_rfl) (by kernel_rfl) (by kernel_rfl) (fun _ _ _ h => h) (Or.inl ⟨by kernel_rfl, ?_⟩) hS ?_
                rotate_left
                · intro w' hS
                  obtain ⟨sF0, sF1, sF2, sF3⟩ := hS
                  go_simp
                  try with_reducible rfl
                refine AnyJ.takeD (i := 2) (d := some 56) (v := ?_) rfl (by kernel_rfl) (by kernel_rfl) (by kernel_rfl) (by kernel_rfl) (by kernel_rfl) (fun _ _ _ h => h) (Or.inl ⟨by kernel_rfl, ?_⟩) hS ?_
                rotate_left
                · intro w' hS
                  obtain ⟨sF0, sF1, sF2, sF3⟩ := hS
                  have hlk := run_seen sF3 hF.out c
                  rw [decide_eq_true HMEM.out] at hlk
                  go_simp
                  try with_reducible rfl
                refine AnyJ.takeD (i := 3) (d := some 57) (v := ?_) rfl (by kernel_rfl) (by kernel_rfl) (by kernel_rfl) (by kernel_rfl) (by kernel_rfl) (fun _ _ _ h => h) (Or.inl ⟨by kernel_rfl, ?_⟩) hS ?_
                rotate_left
                · intro w' hS
                  obtain ⟨sF0, sF1, sF2, sF3⟩ := hS
                  go_simp
                  try with_reducible rfl
                refine AnyJ.takeD (i := 4) (d := some 58) (v := undef) rfl (by kernel_rfl) (by kernel_rfl) (by kernel_rfl) (by kernel_rfl) (by kernel_rfl) (fun _ _ _ h => h) (Or.inr ⟨by kernel_rfl, rfl⟩) hS ?_
                refine AnyJ.takeD (i := 5) (d := some 59) (v := undef) rfl (by kernel_rfl) (by kernel_rfl) (by kernel_rfl) (by kernel_rfl) (by kernel_rfl) (fun _ _ _ h => h) (Or.inr ⟨by kernel_rfl, rfl⟩) hS ?_
                refine AnyJ.takeD (i := 6) (d := some 60) (v := undef) rfl (by kernel_rfl) (by kernel_rfl) (by kernel_rfl) (by kernel_rfl) (by kernel_rfl) (fun _ _ _ h => h) (Or.inr ⟨by kernel_rfl, rfl⟩) hS ?_
                refine AnyJ.takeD (i := 7) (d := some 61) (v := undef) rfl (by kernel_rfl) (by kernel_rfl) (by kernel_rfl) (by kernel_rfl) (by kernel_rfl) (fun _ _ _ h => h) (Or.inr ⟨by kernel_rfl, rfl⟩) hS ?_
                refine AnyJ.takeD (i := 8) (d := some 62) (v := undef) rfl (by kernel_rfl) (by kernel_rfl) (by kernel_rfl) (by kernel_rfl) (by kernel_rfl) (fun _ _ _ h => h) (Or.inr ⟨by kernel_rfl, rfl⟩) hS ?_
                refine AnyJ.takeD (i := 9) (d := some 63) (v := undef) rfl (by kernel_rfl) (by kernel_rfl) (by kernel_rfl) (by kernel_rfl) (by kernel_rfl) (fun _ _ _ h => h) (Or.inr ⟨by kernel_rfl, rfl⟩) hS ?_
                refine AnyJ.takeD (i := 10) (d := some 64) (v := undef) rfl (by kernel_rfl) (by kernel_rfl) (by kernel_rfl) (by kernel_rfl) (by kernel_rfl) (fun _ _ _ h => h) (Or.inr ⟨by kernel_rfl, rfl⟩) hS ?_
                refine AnyJ.takeD (i := 11) (d := some 65) (v := undef) rfl (by kernel_rfl) (by kernel_rfl) (by kernel_rfl) (by kernel_rfl) (by kernel_rfl) (fun _ _ _ h => h) (Or.inr ⟨by kernel_rfl, rfl⟩) hS ?_
                refine AnyJ.takeD (i := 12) (d := some 66) (v := ?_) rfl (by kernel_rfl) (by kernel_rfl) (by kernel_rfl) (by kernel_rfl) (by kernel_rfl) (fun _ _ _ h => h) (Or.inl ⟨by kernel_rfl, ?_⟩) hS ?_
                rotate_left
                · intro w' hS
                  obtain ⟨sF0, sF1, sF2, sF3⟩ := hS
                  go_simp
                  try with_reducible rfl
                refine AnyJ.takeD (i := 13) (d := some 67) (v := ?_) rfl (by kernel_rfl) (by kernel_rfl) (by kernel_rfl) (by kernel_rfl) (by kernel_rfl) (fun _ _ _ h => h) (Or.inl ⟨by kernel_rfl, ?_⟩) hS ?_
                rotate_left
                · intro w' hS
                  obtain ⟨sF0, sF1, sF2, sF3⟩ := hS
                  go_simp
                  try with_reducible rfl
                refine AnyJ.takeD (i := 14) (d := some 68) (v := undef) rfl (by kernel_rfl) (by kernel_rfl) (by kernel_rfl) (by kernel_rfl) (by kernel_rfl) (fun _ _ _ h => h) (Or.inr ⟨by kernel_rfl, rfl⟩) hS ?_
                refine AnyJ.takeD (i := 15) (d := some 69) (v := undef) rfl (by kernel_rfl) (by kernel_rfl) (by kernel_rfl) (by kernel_rfl) (by kernel_rfl) (fun _ _ _ h => h) (Or.inr ⟨by kernel_rfl, rfl⟩) hS ?_
                refine AnyJ.takeD (i := 16) (d := some 70) (v := undef) rfl (by kernel_rfl) (by kernel_rfl) (by kernel_rfl) (by kernel_rfl) (by kernel_rfl) (fun _ _ _ h => h) (Or.inr ⟨by kernel_rfl, rfl⟩) hS ?_
                refine AnyJ.takeD (i := 17) (d := some 71) (v := undef) rfl (by kernel_rfl) (by kernel_rfl) (by kernel_rfl) (by kernel_rfl) (by kernel_rfl) (fun _ _ _ h => h) (Or.inr ⟨by kernel_rfl, rfl⟩) hS ?_
                refine AnyJ.takeD (i := 18) (d := some 72) (v := undef) rfl (by kernel_rfl) (by kernel_rfl) (by kernel_rfl) (by kernel_rfl) (by kernel_rfl) (fun _ _ _ h => h) (Or.inr ⟨by kernel_rfl, rfl⟩) hS ?_
                refine AnyJ.takeD (i := 19) (d := some 73) (v := undef) rfl (by kernel_rfl) (by kernel_rfl) (by kernel_rfl) (by kernel_rfl) (by kernel_rfl) (fun _ _ _ h => h) (Or.inr ⟨by kernel_rfl, rfl⟩) hS ?_
                refine AnyJ.takeD (i := 20) (d := some 74) (v := undef) rfl (by kernel_rfl) (by kernel_rfl) (by kernel_rfl) (by kernel_rfl) (by kernel_rfl) (fun _ _ _ h => h) (Or.inr ⟨by kernel_rfl, rfl⟩) hS ?_
                refine AnyJ.takeD (i := 21) (d := some 75) (v := undef) rfl (by kernel_rfl) (by kernel_rfl) (by kernel_rfl) (by kernel_rfl) (by kernel_rfl) (fun _ _ _ h => h) (Or.inr ⟨by kernel_rfl, rfl⟩) hS ?_
                refine AnyJ.takeD (i := 22) (d := some 76) (v := undef) rfl (by kernel_rfl) (by kernel_rfl) (by kernel_rfl) (by kernel_rfl) (by kernel_rfl) (fun _ _ _ h => h) (Or.inr ⟨by kernel_rfl, rfl⟩) hS ?_
                refine AnyJ.takeD (i := 23) (d := some 77) (v := undef) rfl (by kernel_rfl) (by kernel_rfl) (by kernel_rfl) (by kernel_rfl) (by kernel_rfl) (fun _ _ _ h => h) (Or.inr ⟨by kernel_rfl, rfl⟩) hS ?_
                refine AnyJ.takeD (i := 24) (d := some 78) (v := undef) rfl (by kernel_rfl) (by kernel_rfl) (by kernel_rfl) (by kernel_rfl) (by kernel_rfl) (fun _ _ _ h => h) (Or.inr ⟨by kernel_rfl, rfl⟩) hS ?_
                refine AnyJ.takeD (i := 25) (d := some 79) (v := undef) rfl (by kernel_rfl) (by kernel_rfl) (by kernel_rfl) (by kernel_rfl) (by kernel_rfl) (fun _ _ _ h => h) (Or.inr ⟨by kernel_rfl, rfl⟩) hS ?_
                refine AnyJ.takeD (i := 26) (d := some 80) (v := undef) rfl (by kernel_rfl) (by kernel_rfl) (by kernel_rfl) (by kernel_rfl) (by kernel_rfl) (fun _ _ _ h => h) (Or.inr ⟨by kernel_rfl, rfl⟩) hS ?_
                refine AnyJ.takeD (i := 27) (d := some 81) (v := ?_) rfl (by kernel_rfl) (by kernel_rfl) (by kernel_rfl) (by kernel_rfl) (by kernel_rfl) (fun _ _ _ h => h) (Or.inl ⟨by kernel_rfl, ?_⟩) hS ?_
                rotate_left
                · intro w' hS
                  obtain ⟨sF0, sF1, sF2, sF3⟩ := hS
                  go_simp
                  try with_reducible rfl
                refine AnyJ.done (by kernel_rfl) ?_ _
                try simp only [Act.put, List.setIfInBounds_toArray, List.set_cons_zero, List.set_cons_succ]
                clear hS
                have hbf : b = false := by rw [← HB.out]; exact openB_false (Or.inr (Or.inr (Or.inr (Or.inr (by rw [HSA.out]; exact cutB_bad (by rw [HZL.out]; exact hlt) HBADE.out)))))
                subst hbf
                have hgb : w.heap.size ≤ gS + 1 := by have := HGS.out; omega
                have f0 := hRr.out.frozen 0
                have f1 := hRr.out.frozen 1
                have f2 := hRr.out.frozen 2
                have f3 := hRr.out.frozen 3
                have f4 := hRr.out.frozen 4
                have f5 := hRr.out.frozen 5
                have f6 := hRr.out.frozen 6
                have g0 := hRr.out.cell 0 rfl
                have g1 := hRr.out.cell 1 rfl
                have g2 := hRr.out.cell 2 rfl
                have g3 := hRr.out.cell 3 rfl
                have g4 := hRr.out.cell 4 rfl
                have g5 := hRr.out.cell 5 rfl
                have g6 := hRr.out.cell 6 rfl
                have lr := hRr.out.lt
                go_wp2_with fail
                obtain ⟨wB, hwB, RB, _, hBB⟩ := Row.put7 hRr.out (.int .i64 0) (.int .i64 0) (.slice none 0 0) (.slice none 0 0) (.int .i64 0) (.int .i64 0) (.slice none 0 0)
                rw [hwB]
                have HBB := hBB w.heap.size w (by exact hgb) hBw.out
                have z0 := RB.cell 0 rfl
                have z1 := RB.cell 1 rfl
                have z2 := RB.cell 2 rfl
                have z3 := RB.cell 3 rfl
                have z4 := RB.cell 4 rfl
                have z5 := RB.cell 5 rfl
                have z6 := RB.cell 6 rfl
                have lB := RB.lt
                clear hwB
                exact bodyPost_ret (v := .tuple #[.agg #[.int .i64 0, .int .i64 0, .slice none 0 0, .slice none 0 0, .int .i64 0, .int .i64 0, .slice none 0 0], .bool false]) (by simp [results, Try.results27, go_sem, z0, z1, z2, z3, z4, z5, z6, lB]) rfl (OpP.no HBB.drew)
              · have HMEM : Hid (¬ c ∈ zs.take k) := hmem
                clear hmem
                cases h5 : inR c 0 ((sn : Int) - 1) with
                | false =>
                  have HBADE : Hid (chanB sz zs ys k = false) := by show _ = _; rw [HCH.out, decide_eq_false HMEM.out, h5]; rfl
                  have hW : IntKind.i64.wrap ((sn : Int) - 1) = (sn : Int) - 1 := IntWalk.i64_in _ (by omega)
                  go_upto_region 8 with fail
                  refine AnyJ.beginP (fun w' : World => w'.cell? ⟨gP, 6, none⟩ = some (.slice sa sn sc) ∧ w'.cell? ⟨gS, 3, none⟩ = some (.slice (some ⟨by', oy, none⟩) ns cs) ∧ w'.cell? ⟨by', oy + k, none⟩ = some (.int .i64 y) ∧ IMap w' gM f) (fun _ => true) (by kernel_rfl) ⟨qP6, qS3, qy, hI.out⟩ (fun hS => ?_)
                  refine AnyJ.takeD (i := 0) (d := some 54) (v := ?_) rfl (by kernel_rfl) (by kernel_rfl) (by kernel_rfl) (by kernel_rfl) (by kernel_rfl) (fun _ _ _ h => h) (Or.inl ⟨by kernel_rfl, ?_⟩) hS ?_
                  rotate_left
                  · intro w' hS
                    obtain ⟨sF0, sF1, sF2, sF3⟩ := hS
                    go_simp
                    try with_reducible rfl
                  refine AnyJ.takeD (i := 1) (d := some 55) (v := ?_) rfl (by kernel_rfl) (by kernel_rfl) (by kernel_rfl) (by kernel_rfl) (by kernel_rfl) (fun _ _ _ h => h) (Or.inl ⟨by kernel_rfl, ?_⟩) hS ?_
                  rotate_left
                  · intro w' hS
                    obtain ⟨sF0, sF1, sF2, sF3⟩ := hS
                    go_simp
                    try with_reducible rfl
                  refine AnyJ.takeD (i := 2) (d := some 56) (v := ?_) rfl (by kernel_rfl) (by kernel_rfl) (by kernel_rfl) (by kernel_rfl) (by kernel_rfl) (fun _ _ _ h => h) (Or.inl ⟨by kernel_rfl, ?_⟩) hS ?_
                  rotate_left
                  · intro w' hS
                    obtain ⟨sF0, sF1, sF2, sF3⟩ := hS
                    have hlk := run_seen sF3 hF.out c
                    rw [decide_eq_false HMEM.out] at hlk
                    go_simp
                    try with_reducible rfl
                  refine AnyJ.takeD (i := 3) (d := some 57) (v := ?_) rfl (by kernel_rfl) (by kernel_rfl) (by kernel_rfl) (by kernel_rfl) (by kernel_rfl) (fun _ _ _ h => h) (Or.inl ⟨by kernel_rfl, ?_⟩) hS ?_
                  rotate_left
                  · intro w' hS
                    obtain ⟨sF0, sF1, sF2, sF3⟩ := hS
                    go_simp
                    try with_reducible rfl
                  refine AnyJ.takeD (i := 4) (d := some 58) (v := ?_) rfl (by kernel_rfl) (by kernel_rfl) (by kernel_rfl) (by kernel_rfl) (by kernel_rfl) (fun _ _ _ h => h) (Or.inl ⟨by kernel_rfl, ?_⟩) hS ?_
                  rotate_left
                  · intro w' hS
                    obtain ⟨sF0, sF1, sF2, sF3⟩ := hS
                    go_simp
                    try with_reducible rfl
                  refine AnyJ.takeD (i := 5) (d := some 59) (v := ?_) rfl (by kernel_rfl) (by kernel_rfl) (by kernel_rfl) (by kernel_rfl) (by kernel_rfl) (fun _ _ _ h => h) (Or.inl ⟨by kernel_rfl, ?_⟩) hS ?_
                  rotate_left
                  · intro w' hS
                    obtain ⟨sF0, sF1, sF2, sF3⟩ := hS
                    go_simp
                    try with_reducible rfl
                  refine AnyJ.takeD (i := 6) (d := some 60) (v := ?_) rfl (by kernel_rfl) (by kernel_rfl) (by kernel_rfl) (by kernel_rfl) (by kernel_rfl) (fun _ _ _ h => h) (Or.inl ⟨by kernel_rfl, ?_⟩) hS ?_
                  rotate_left
                  · intro w' hS
                    obtain ⟨sF0, sF1, sF2, sF3⟩ := hS
                    go_simp
                    try with_reducible rfl
                  refine AnyJ.takeD (i := 7) (d := some 61) (v := ?_) rfl (by kernel_rfl) (by kernel_rfl) (by kernel_rfl) (by kernel_rfl) (by kernel_rfl) (fun _ _ _ h => h) (Or.inl ⟨by kernel_rfl, ?_⟩) hS ?_
                  rotate_left
                  · intro w' hS
                    obtain ⟨sF0, sF1, sF2, sF3⟩ := hS
                    go_simp
                    try with_reducible rfl
                  refine AnyJ.takeD (i := 8) (d := some 62) (v := ?_) rfl (by kernel_rfl) (by kernel_rfl) (by kernel_rfl) (by kernel_rfl) (by kernel_rfl) (fun _ _ _ h => h) (Or.inl ⟨by kernel_rfl, ?_⟩) hS ?_
                  rotate_left
                  · intro w' hS
                    obtain ⟨sF0, sF1, sF2, sF3⟩ := hS
                    go_simp
                    try with_reducible rfl
                  refine AnyJ.takeD (i := 9) (d := some 63) (v := ?_) rfl (by kernel_rfl) (by kernel_rfl) (by kernel_rfl) (by kernel_rfl) (by kernel_rfl) (fun _ _ _ h => h) (Or.inl ⟨by kernel_rfl, ?_⟩) hS ?_
                  rotate_left
                  · intro w' hS
                    obtain ⟨sF0, sF1, sF2, sF3⟩ := hS
                    go_simp
                    try with_reducible rfl
                  refine AnyJ.one (i := 10) (by kernel_rfl) rfl (fun Kz hKz => ?_)
                  go_simp
                  refine (s_within _ _ _ _ false (by assumption)).mono ?_
                  rintro e w' ⟨rfl, rfl⟩
                  refine hKz _ _ (fun _ => hS) ?_
                  clear hKz Kz
                  refine AnyJ.takeD (i := 11) (d := some 65) (v := ?_) rfl (by kernel_rfl) (by kernel_rfl) (by kernel_rfl) (by kernel_rfl) (by kernel_rfl) (fun _ _ _ h => h) (Or.inl ⟨by kernel_rfl, ?_⟩) hS ?_
                  rotate_left
                  · intro w' hS
                    obtain ⟨sF0, sF1, sF2, sF3⟩ := hS
                    go_simp
                    try with_reducible rfl
                  refine AnyJ.takeD (i := 12) (d := some 66) (v := ?_) rfl (by kernel_rfl) (by kernel_rfl) (by kernel_rfl) (by kernel_rfl) (by kernel_rfl) (fun _ _ _ h => h) (Or.inl ⟨by kernel_rfl, ?_⟩) hS ?_
                  rotate_left
                  · intro w' hS
                    obtain ⟨sF0, sF1, sF2, sF3⟩ := hS
                    go_simp
                    try with_reducible rfl
                  refine AnyJ.takeD (i := 13) (d := some 67) (v := ?_) rfl (by kernel_rfl) (by kernel_rfl) (by kernel_rfl) (by kernel_rfl) (by kernel_rfl) (fun _ _ _ h => h) (Or.inl ⟨by kernel_rfl, ?_⟩) hS ?_
                  rotate_left
                  · intro w' hS
                    obtain ⟨sF0, sF1, sF2, sF3⟩ := hS
                    go_simp
                    try with_reducible rfl
                  refine AnyJ.takeD (i := 14) (d := some 68) (v := undef) rfl (by kernel_rfl) (by kernel_rfl) (by kernel_rfl) (by kernel_rfl) (by kernel_rfl) (fun _ _ _ h => h) (Or.inr ⟨by kernel_rfl, rfl⟩) hS ?_
                  refine AnyJ.takeD (i := 15) (d := some 69) (v := undef) rfl (by kernel_rfl) (by kernel_rfl) (by kernel_rfl) (by kernel_rfl) (by kernel_rfl) (fun _ _ _ h => h) (Or.inr ⟨by kernel_rfl, rfl⟩) hS ?_
                  refine AnyJ.takeD (i := 16) (d := some 70) (v := undef) rfl (by kernel_rfl) (by kernel_rfl) (by kernel_rfl) (by kernel_rfl) (by kernel_rfl) (fun _ _ _ h => h) (Or.inr ⟨by kernel_rfl, rfl⟩) hS ?_
                  refine AnyJ.takeD (i := 17) (d := some 71) (v := undef) rfl (by kernel_rfl) (by kernel_rfl) (by kernel_rfl) (by kernel_rfl) (by kernel_rfl) (fun _ _ _ h => h) (Or.inr ⟨by kernel_rfl, rfl⟩) hS ?_
                  refine AnyJ.takeD (i := 18) (d := some 72) (v := undef) rfl (by kernel_rfl) (by kernel_rfl) (by kernel_rfl) (by kernel_rfl) (by kernel_rfl) (fun _ _ _ h => h) (Or.inr ⟨by kernel_rfl, rfl⟩) hS ?_
                  refine AnyJ.takeD (i := 19) (d := some 73) (v := undef) rfl (by kernel_rfl) (by kernel_rfl) (by kernel_rfl) (by kernel_rfl) (by kernel_rfl) (fun _ _ _ h => h) (Or.inr ⟨by kernel_rfl, rfl⟩) hS ?_
                  refine AnyJ.takeD (i := 20) (d := some 74) (v := undef) rfl (by kernel_rfl) (by kernel_rfl) (by kernel_rfl) (by kernel_rfl) (by kernel_rfl) (fun _ _ _ h => h) (Or.inr ⟨by kernel_rfl, rfl⟩) hS ?_
                  refine AnyJ.takeD (i := 21) (d := some 75) (v := undef) rfl (by kernel_rfl) (by kernel_rfl) (by kernel_rfl) (by kernel_rfl) (by kernel_rfl) (fun _ _ _ h => h) (Or.inr ⟨by kernel_rfl, rfl⟩) hS ?_
                  refine AnyJ.takeD (i := 22) (d := some 76) (v := undef) rfl (by kernel_rfl) (by kernel_rfl) (by kernel_rfl) (by kernel_rfl) (by kernel_rfl) (fun _ _ _ h => h) (Or.inr ⟨by kernel_rfl, rfl⟩) hS ?_
                  refine AnyJ.takeD (i := 23) (d := some 77) (v := undef) rfl (by kernel_rfl) (by kernel_rfl) (by kernel_rfl) (by kernel_rfl) (by kernel_rfl) (fun _ _ _ h => h) (Or.inr ⟨by kernel_rfl, rfl⟩) hS ?_
                  refine AnyJ.takeD (i := 24) (d := some 78) (v := undef) rfl (by kernel_rfl) (by kernel_rfl) (by kernel_rfl) (by kernel_rfl) (by kernel_rfl) (fun _ _ _ h => h) (Or.inr ⟨by kernel_rfl, rfl⟩) hS ?_
                  refine AnyJ.takeD (i := 25) (d := some 79) (v := undef) rfl (by kernel_rfl) (by kernel_rfl) (by kernel_rfl) (by kernel_rfl) (by kernel_rfl) (fun _ _ _ h => h) (Or.inr ⟨by kernel_rfl, rfl⟩) hS ?_
                  refine AnyJ.takeD (i := 26) (d := some 80) (v := undef) rfl (by kernel_rfl) (by kernel_rfl) (by kernel_rfl) (by kernel_rfl) (by kernel_rfl) (fun _ _ _ h => h) (Or.inr ⟨by kernel_rfl, rfl⟩) hS ?_
                  refine AnyJ.takeD (i := 27) (d := some 81) (v := ?_) rfl (by kernel_rfl) (by kernel_rfl) (by kernel_rfl) (by kernel_rfl) (by kernel_rfl) (fun _ _ _ h => h) (Or.inl ⟨by kernel_rfl, ?_⟩) hS ?_
                  rotate_left
                  · intro w' hS
                    obtain ⟨sF0, sF1, sF2, sF3⟩ := hS
                    go_simp
                    try with_reducible rfl
                  refine AnyJ.done (by kernel_rfl) ?_ _
                  try simp only [Act.put, List.setIfInBounds_toArray, List.set_cons_zero, List.set_cons_succ]
                  clear hS
                  clear hW
                  have hbf : b = false := by rw [← HB.out]; exact openB_false (Or.inr (Or.inr (Or.inr (Or.inr (by rw [HSA.out]; exact cutB_bad (by rw [HZL.out]; exact hlt) HBADE.out)))))
                  subst hbf
                  have hgb : w.heap.size ≤ gS + 1 := by have := HGS.out; omega
                  have f0 := hRr.out.frozen 0
                  have f1 := hRr.out.frozen 1
                  have f2 := hRr.out.frozen 2
                  have f3 := hRr.out.frozen 3
                  have f4 := hRr.out.frozen 4
                  have f5 := hRr.out.frozen 5
                  have f6 := hRr.out.frozen 6
                  have g0 := hRr.out.cell 0 rfl
                  have g1 := hRr.out.cell 1 rfl
                  have g2 := hRr.out.cell 2 rfl
                  have g3 := hRr.out.cell 3 rfl
                  have g4 := hRr.out.cell 4 rfl
                  have g5 := hRr.out.cell 5 rfl
                  have g6 := hRr.out.cell 6 rfl
                  have lr := hRr.out.lt
                  go_wp2_with fail
                  obtain ⟨wB, hwB, RB, _, hBB⟩ := Row.put7 hRr.out (.int .i64 0) (.int .i64 0) (.slice none 0 0) (.slice none 0 0) (.int .i64 0) (.int .i64 0) (.slice none 0 0)
                  rw [hwB]
                  have HBB := hBB w.heap.size w (by exact hgb) hBw.out
                  have z0 := RB.cell 0 rfl
                  have z1 := RB.cell 1 rfl
                  have z2 := RB.cell 2 rfl
                  have z3 := RB.cell 3 rfl
                  have z4 := RB.cell 4 rfl
                  have z5 := RB.cell 5 rfl
                  have z6 := RB.cell 6 rfl
                  have lB := RB.lt
                  clear hwB
                  exact bodyPost_ret (v := .tuple #[.agg #[.int .i64 0, .int .i64 0, .slice none 0 0, .slice none 0 0, .int .i64 0, .int .i64 0, .slice none 0 0], .bool false]) (by simp [results, Try.results27, go_sem, z0, z1, z2, z3, z4, z5, z6, lB]) rfl (OpP.no HBB.drew)
                | true =>
                  obtain ⟨c0, c1⟩ := inR_iff.1 h5
                  obtain ⟨cn, rfl⟩ := Int.eq_ofNat_of_zero_le c0
                  have hcn : cn < sn := by omega
                  have hcn2 : (cn : Int) < (sn : Int) := by omega
                  obtain ⟨bh, oh, h, hsa, _, qh, hh, _, _⟩ := HIN2.out.get hcn
                  subst hsa
                  have HH := Lib.hid hh.out
                  clear hh c1
                  cases h6 : inR y 0 h with
                  | false =>
                    have HBADE : Hid (chanB sz zs ys k = false) := by show _ = _; rw [HCH.out, decide_eq_false HMEM.out, h5, Int.toNat_natCast, HH.out, h6]; rfl
                    have hW : IntKind.i64.wrap ((sn : Int) - 1) = (sn : Int) - 1 := IntWalk.i64_in _ (by omega)
                    go_upto_region 8 with fail
                    refine AnyJ.beginP (fun w' : World => w'.cell? ⟨gP, 6, none⟩ = some (.slice (some ⟨bh, oh, none⟩) sn sc) ∧ w'.cell? ⟨gS, 3, none⟩ = some (.slice (some ⟨by', oy, none⟩) ns cs) ∧ w'.cell? ⟨by', oy + k, none⟩ = some (.int .i64 y) ∧ w'.cell? ⟨bh, oh + cn, none⟩ = some (.int .i64 h) ∧ IMap w' gM f) (fun _ => true) (by kernel_rfl) ⟨qP6, qS3, qy, qh, hI.out⟩ (fun hS => ?_)
                    refine AnyJ.takeD (i := 0) (d := some 54) (v := ?_) rfl (by kernel_rfl) (by kernel_rfl) (by kernel_rfl) (by kernel_rfl) (by kernel_rfl) (fun _ _ _ h => h) (Or.inl ⟨by kernel_rfl, ?_⟩) hS ?_
                    rotate_left
                    · intro w' hS
                      obtain ⟨sF0, sF1, sF2, sF3, sF4⟩ := hS
                      go_simp
                      try with_reducible rfl
                    refine AnyJ.takeD (i := 1) (d := some 55) (v := ?_) rfl (by kernel_rfl) (by kernel_rfl) (by kernel_rfl) (by kernel_rfl) (by kernel_rfl) (fun _ _ _ h => h) (Or.inl ⟨by kernel_rfl, ?_⟩) hS ?_
                    rotate_left
                    · intro w' hS
                      obtain ⟨sF0, sF1, sF2, sF3, sF4⟩ := hS
                      go_simp
                      try with_reducible rfl
                    refine AnyJ.takeD (i := 2) (d := some 56) (v := ?_) rfl (by kernel_rfl) (by kernel_rfl) (by kernel_rfl) (by kernel_rfl) (by kernel_rfl) (fun _ _ _ h => h) (Or.inl ⟨by kernel_rfl, ?_⟩) hS ?_
                    rotate_left
                    · intro w' hS
                      obtain ⟨sF0, sF1, sF2, sF3, sF4⟩ := hS
                      have hlk := run_seen sF4 hF.out (cn : Int)
                      rw [decide_eq_false HMEM.out] at hlk
                      go_simp
                      try with_reducible rfl
                    refine AnyJ.takeD (i := 3) (d := some 57) (v := ?_) rfl (by kernel_rfl) (by kernel_rfl) (by kernel_rfl) (by kernel_rfl) (by kernel_rfl) (fun _ _ _ h => h) (Or.inl ⟨by kernel_rfl, ?_⟩) hS ?_
                    rotate_left
                    · intro w' hS
                      obtain ⟨sF0, sF1, sF2, sF3, sF4⟩ := hS
                      go_simp
                      try with_reducible rfl
                    refine AnyJ.takeD (i := 4) (d := some 58) (v := ?_) rfl (by kernel_rfl) (by kernel_rfl) (by kernel_rfl) (by kernel_rfl) (by kernel_rfl) (fun _ _ _ h => h) (Or.inl ⟨by kernel_rfl, ?_⟩) hS ?_
                    rotate_left
                    · intro w' hS
                      obtain ⟨sF0, sF1, sF2, sF3, sF4⟩ := hS
                      go_simp
                      try with_reducible rfl
                    refine AnyJ.takeD (i := 5) (d := some 59) (v := ?_) rfl (by kernel_rfl) (by kernel_rfl) (by kernel_rfl) (by kernel_rfl) (by kernel_rfl) (fun _ _ _ h => h) (Or.inl ⟨by kernel_rfl, ?_⟩) hS ?_
                    rotate_left
                    · intro w' hS
                      obtain ⟨sF0, sF1, sF2, sF3, sF4⟩ := hS
                      go_simp
                      try with_reducible rfl
                    refine AnyJ.takeD (i := 6) (d := some 60) (v := ?_) rfl (by kernel_rfl) (by kernel_rfl) (by kernel_rfl) (by kernel_rfl) (by kernel_rfl) (fun _ _ _ h => h) (Or.inl ⟨by kernel_rfl, ?_⟩) hS ?_
                    rotate_left
                    · intro w' hS
                      obtain ⟨sF0, sF1, sF2, sF3, sF4⟩ := hS
                      go_simp
                      try with_reducible rfl
                    refine AnyJ.takeD (i := 7) (d := some 61) (v := ?_) rfl (by kernel_rfl) (by kernel_rfl) (by kernel_rfl) (by kernel_rfl) (by kernel_rfl) (fun _ _ _ h => h) (Or.inl ⟨by kernel_rfl, ?_⟩) hS ?_
                    rotate_left
                    · intro w' hS
                      obtain ⟨sF0, sF1, sF2, sF3, sF4⟩ := hS
                      go_simp
                      try with_reducible rfl
                    refine AnyJ.takeD (i := 8) (d := some 62) (v := ?_) rfl (by kernel_rfl) (by kernel_rfl) (by kernel_rfl) (by kernel_rfl) (by kernel_rfl) (fun _ _ _ h => h) (Or.inl ⟨by kernel_rfl, ?_⟩) hS ?_
                    rotate_left
                    · intro w' hS
                      obtain ⟨sF0, sF1, sF2, sF3, sF4⟩ := hS
                      go_simp
                      try with_reducible rfl
                    refine AnyJ.takeD (i := 9) (d := some 63) (v := ?_) rfl (by kernel_rfl) (by kernel_rfl) (by kernel_rfl) (by kernel_rfl) (by kernel_rfl) (fun _ _ _ h => h) (Or.inl ⟨by kernel_rfl, ?_⟩) hS ?_
                    rotate_left
                    · intro w' hS
                      obtain ⟨sF0, sF1, sF2, sF3, sF4⟩ := hS
                      go_simp
                      try with_reducible rfl
                    refine AnyJ.one (i := 10) (by kernel_rfl) rfl (fun Kz hKz => ?_)
                    go_simp
                    refine (s_within _ _ _ _ true (by assumption)).mono ?_
                    rintro e w' ⟨rfl, rfl⟩
                    refine hKz _ _ (fun _ => hS) ?_
                    clear hKz Kz
                    refine AnyJ.takeD (i := 11) (d := some 65) (v := ?_) rfl (by kernel_rfl) (by kernel_rfl) (by kernel_rfl) (by kernel_rfl) (by kernel_rfl) (fun _ _ _ h => h) (Or.inl ⟨by kernel_rfl, ?_⟩) hS ?_
                    rotate_left
                    · intro w' hS
                      obtain ⟨sF0, sF1, sF2, sF3, sF4⟩ := hS
                      go_simp
                      try with_reducible rfl
                    refine AnyJ.takeD (i := 12) (d := some 66) (v := ?_) rfl (by kernel_rfl) (by kernel_rfl) (by kernel_rfl) (by kernel_rfl) (by kernel_rfl) (fun _ _ _ h => h) (Or.inl ⟨by kernel_rfl, ?_⟩) hS ?_
                    rotate_left
                    · intro w' hS
                      obtain ⟨sF0, sF1, sF2, sF3, sF4⟩ := hS
                      go_simp
                      try with_reducible rfl
                    refine AnyJ.takeD (i := 13) (d := some 67) (v := ?_) rfl (by kernel_rfl) (by kernel_rfl) (by kernel_rfl) (by kernel_rfl) (by kernel_rfl) (fun _ _ _ h => h) (Or.inl ⟨by kernel_rfl, ?_⟩) hS ?_
                    rotate_left
                    · intro w' hS
                      obtain ⟨sF0, sF1, sF2, sF3, sF4⟩ := hS
                      go_simp
                      try with_reducible rfl
                    refine AnyJ.takeD (i := 14) (d := some 68) (v := ?_) rfl (by kernel_rfl) (by kernel_rfl) (by kernel_rfl) (by kernel_rfl) (by kernel_rfl) (fun _ _ _ h => h) (Or.inl ⟨by kernel_rfl, ?_⟩) hS ?_
                    rotate_left
                    · intro w' hS
                      obtain ⟨sF0, sF1, sF2, sF3, sF4⟩ := hS
                      go_simp
                      try with_reducible rfl
                    refine AnyJ.takeD (i := 15) (d := some 69) (v := ?_) rfl (by kernel_rfl) (by kernel_rfl) (by kernel_rfl) (by kernel_rfl) (by kernel_rfl) (fun _ _ _ h => h) (Or.inl ⟨by kernel_rfl, ?_⟩) hS ?_
                    rotate_left
                    · intro w' hS
                      obtain ⟨sF0, sF1, sF2, sF3, sF4⟩ := hS
                      go_simp
                      try with_reducible rfl
                    refine AnyJ.takeD (i := 16) (d := some 70) (v := ?_) rfl (by kernel_rfl) (by kernel_rfl) (by kernel_rfl) (by kernel_rfl) (by kernel_rfl) (fun _ _ _ h => h) (Or.inl ⟨by kernel_rfl, ?_⟩) hS ?_
                    rotate_left
                    · intro w' hS
                      obtain ⟨sF0, sF1, sF2, sF3, sF4⟩ := hS
                      go_simp
                      try with_reducible rfl
                    refine AnyJ.takeD (i := 17) (d := some 71) (v := ?_) rfl (by kernel_rfl) (by kernel_rfl) (by kernel_rfl) (by kernel_rfl) (by kernel_rfl) (fun _ _ _ h => h) (Or.inl ⟨by kernel_rfl, ?_⟩) hS ?_
                    rotate_left
                    · intro w' hS
                      obtain ⟨sF0, sF1, sF2, sF3, sF4⟩ := hS
                      go_simp
                      try with_reducible rfl
                    refine AnyJ.takeD (i := 18) (d := some 72) (v := ?_) rfl (by kernel_rfl) (by kernel_rfl) (by kernel_rfl) (by kernel_rfl) (by kernel_rfl) (fun _ _ _ h => h) (Or.inl ⟨by kernel_rfl, ?_⟩) hS ?_
                    rotate_left
                    · intro w' hS
                      obtain ⟨sF0, sF1, sF2, sF3, sF4⟩ := hS
                      go_simp
                      try with_reducible rfl
                    refine AnyJ.takeD (i := 19) (d := some 73) (v := ?_) rfl (by kernel_rfl) (by kernel_rfl) (by kernel_rfl) (by kernel_rfl) (by kernel_rfl) (fun _ _ _ h => h) (Or.inl ⟨by kernel_rfl, ?_⟩) hS ?_
                    rotate_left
                    · intro w' hS
                      obtain ⟨sF0, sF1, sF2, sF3, sF4⟩ := hS
                      go_simp
                      try with_reducible rfl
                    refine AnyJ.takeD (i := 20) (d := some 74) (v := ?_) rfl (by kernel_rfl) (by kernel_rfl) (by kernel_rfl) (by kernel_rfl) (by kernel_rfl) (fun _ _ _ h => h) (Or.inl ⟨by kernel_rfl, ?_⟩) hS ?_
                    rotate_left
                    · intro w' hS
                      obtain ⟨sF0, sF1, sF2, sF3, sF4⟩ := hS
                      go_simp
                      try with_reducible rfl
                    refine AnyJ.takeD (i := 21) (d := some 75) (v := ?_) rfl (by kernel_rfl) (by kernel_rfl) (by kernel_rfl) (by kernel_rfl) (by kernel_rfl) (fun _ _ _ h => h) (Or.inl ⟨by kernel_rfl, ?_⟩) hS ?_
                    rotate_left
                    · intro w' hS
                      obtain ⟨sF0, sF1, sF2, sF3, sF4⟩ := hS
                      go_simp
                      try with_reducible rfl
                    refine AnyJ.takeD (i := 22) (d := some 76) (v := ?_) rfl (by kernel_rfl) (by kernel_rfl) (by kernel_rfl) (by kernel_rfl) (by kernel_rfl) (fun _ _ _ h => h) (Or.inl ⟨by kernel_rfl, ?_⟩) hS ?_
                    rotate_left
                    · intro w' hS
                      obtain ⟨sF0, sF1, sF2, sF3, sF4⟩ := hS
                      go_simp
                      try with_reducible rfl
                    refine AnyJ.takeD (i := 23) (d := some 77) (v := ?_) rfl (by kernel_rfl) (by kernel_rfl) (by kernel_rfl) (by kernel_rfl) (by kernel_rfl) (fun _ _ _ h => h) (Or.inl ⟨by kernel_rfl, ?_⟩) hS ?_
                    rotate_left
                    · intro w' hS
                      obtain ⟨sF0, sF1, sF2, sF3, sF4⟩ := hS
                      go_simp
                      try with_reducible rfl
                    refine AnyJ.takeD (i := 24) (d := some 78) (v := ?_) rfl (by kernel_rfl) (by kernel_rfl) (by kernel_rfl) (by kernel_rfl) (by kernel_rfl) (fun _ _ _ h => h) (Or.inl ⟨by kernel_rfl, ?_⟩) hS ?_
                    rotate_left
                    · intro w' hS
                      obtain ⟨sF0, sF1, sF2, sF3, sF4⟩ := hS
                      go_simp
                      try with_reducible rfl
                    refine AnyJ.one (i := 25) (by kernel_rfl) rfl (fun Kz hKz => ?_)
                    go_simp
                    refine (s_within _ _ _ _ false (by assumption)).mono ?_
                    rintro e w' ⟨rfl, rfl⟩
                    refine hKz _ _ (fun _ => hS) ?_
                    clear hKz Kz
                    refine AnyJ.takeD (i := 26) (d := some 80) (v := ?_) rfl (by kernel_rfl) (by kernel_rfl) (by kernel_rfl) (by kernel_rfl) (by kernel_rfl) (fun _ _ _ h => h) (Or.inl ⟨by kernel_rfl, ?_⟩) hS ?_
                    rotate_left
                    · intro w' hS
                      obtain ⟨sF0, sF1, sF2, sF3, sF4⟩ := hS
                      go_simp
                      try with_reducible rfl
                    refine AnyJ.takeD (i := 27) (d := some 81) (v := ?_) rfl (by kernel_rfl) (by kernel_rfl) (by kernel_rfl) (by kernel_rfl) (by kernel_rfl) (fun _ _ _ h => h) (Or.inl ⟨by kernel_rfl, ?_⟩) hS ?_
                    rotate_left
                    · intro w' hS
                      obtain ⟨sF0, sF1, sF2, sF3, sF4⟩ := hS
                      go_simp
                      try with_reducible rfl
                    refine AnyJ.done (by kernel_rfl) ?_ _
                    try simp only [Act.put, List.setIfInBounds_toArray, List.set_cons_zero, List.set_cons_succ]
                    clear hS
                    clear hW
                    have hbf : b = false := by rw [← HB.out]; exact openB_false (Or.inr (Or.inr (Or.inr (Or.inr (by rw [HSA.out]; exact cutB_bad (by rw [HZL.out]; exact hlt) HBADE.out)))))
                    subst hbf
                    have hgb : w.heap.size ≤ gS + 1 := by have := HGS.out; omega
                    have f0 := hRr.out.frozen 0
                    have f1 := hRr.out.frozen 1
                    have f2 := hRr.out.frozen 2
                    have f3 := hRr.out.frozen 3
                    have f4 := hRr.out.frozen 4
                    have f5 := hRr.out.frozen 5
                    have f6 := hRr.out.frozen 6
                    have g0 := hRr.out.cell 0 rfl
                    have g1 := hRr.out.cell 1 rfl
                    have g2 := hRr.out.cell 2 rfl
                    have g3 := hRr.out.cell 3 rfl
                    have g4 := hRr.out.cell 4 rfl
                    have g5 := hRr.out.cell 5 rfl
                    have g6 := hRr.out.cell 6 rfl
                    have lr := hRr.out.lt
                    go_wp2_with fail
                    obtain ⟨wB, hwB, RB, _, hBB⟩ := Row.put7 hRr.out (.int .i64 0) (.int .i64 0) (.slice none 0 0) (.slice none 0 0) (.int .i64 0) (.int .i64 0) (.slice none 0 0)
                    rw [hwB]
                    have HBB := hBB w.heap.size w (by exact hgb) hBw.out
                    have z0 := RB.cell 0 rfl
                    have z1 := RB.cell 1 rfl
                    have z2 := RB.cell 2 rfl
                    have z3 := RB.cell 3 rfl
                    have z4 := RB.cell 4 rfl
                    have z5 := RB.cell 5 rfl
                    have z6 := RB.cell 6 rfl
                    have lB := RB.lt
                    clear hwB
                    exact bodyPost_ret (v := .tuple #[.agg #[.int .i64 0, .int .i64 0, .slice none 0 0, .slice none 0 0, .int .i64 0, .int .i64 0, .slice none 0 0], .bool false]) (by simp [results, Try.results27, go_sem, z0, z1, z2, z3, z4, z5, z6, lB]) rfl (OpP.no HBB.drew)
                  | true =>
                    have HGOOD : Hid (chanB sz zs ys k = true) := by show _ = _; rw [HCH.out, decide_eq_false HMEM.out, h5, Int.toNat_natCast, HH.out, h6]; rfl
                    have hW : IntKind.i64.wrap ((sn : Int) - 1) = (sn : Int) - 1 := IntWalk.i64_in _ (by omega)
                    go_upto_region 8 with fail
                    refine AnyJ.beginP (fun w' : World => w'.cell? ⟨gP, 6, none⟩ = some (.slice (some ⟨bh, oh, none⟩) sn sc) ∧ w'.cell? ⟨gS, 3, none⟩ = some (.slice (some ⟨by', oy, none⟩) ns cs) ∧ w'.cell? ⟨by', oy + k, none⟩ = some (.int .i64 y) ∧ w'.cell? ⟨bh, oh + cn, none⟩ = some (.int .i64 h) ∧ IMap w' gM f) (fun _ => true) (by kernel_rfl) ⟨qP6, qS3, qy, qh, hI.out⟩ (fun hS => ?_)
                    refine AnyJ.takeD (i := 0) (d := some 54) (v := ?_) rfl (by kernel_rfl) (by kernel_rfl) (by kernel_rfl) (by kernel_rfl) (by kernel_rfl) (fun _ _ _ h => h) (Or.inl ⟨by kernel_rfl, ?_⟩) hS ?_
                    rotate_left
                    · intro w' hS
                      obtain ⟨sF0, sF1, sF2, sF3, sF4⟩ := hS
                      go_simp
                      try with_reducible rfl
                    refine AnyJ.takeD (i := 1) (d := some 55) (v := ?_) rfl (by kernel_rfl) (by kernel_rfl) (by kernel_rfl) (by kernel_rfl) (by kernel_rfl) (fun _ _ _ h => h) (Or.inl ⟨by kernel_rfl, ?_⟩) hS ?_
                    rotate_left
                    · intro w' hS
                      obtain ⟨sF0, sF1, sF2, sF3, sF4⟩ := hS
                      go_simp
                      try with_reducible rfl
                    refine AnyJ.takeD (i := 2) (d := some 56) (v := ?_) rfl (by kernel_rfl) (by kernel_rfl) (by kernel_rfl) (by kernel_rfl) (by kernel_rfl) (fun _ _ _ h => h) (Or.inl ⟨by kernel_rfl, ?_⟩) hS ?_
                    rotate_left
                    · intro w' hS
                      obtain ⟨sF0, sF1, sF2, sF3, sF4⟩ := hS
                      have hlk := run_seen sF4 hF.out (cn : Int)
                      rw [decide_eq_false HMEM.out] at hlk
                      go_simp
                      try with_reducible rfl
                    refine AnyJ.takeD (i := 3) (d := some 57) (v := ?_) rfl (by kernel_rfl) (by kernel_rfl) (by kernel_rfl) (by kernel_rfl) (by kernel_rfl) (fun _ _ _ h => h) (Or.inl ⟨by kernel_rfl, ?_⟩) hS ?_
                    rotate_left
                    · intro w' hS
                      obtain ⟨sF0, sF1, sF2, sF3, sF4⟩ := hS
                      go_simp
                      try with_reducible rfl
                    refine AnyJ.takeD (i := 4) (d := some 58) (v := ?_) rfl (by kernel_rfl) (by kernel_rfl) (by kernel_rfl) (by kernel_rfl) (by kernel_rfl) (fun _ _ _ h => h) (Or.inl ⟨by kernel_rfl, ?_⟩) hS ?_
                    rotate_left
                    · intro w' hS
                      obtain ⟨sF0, sF1, sF2, sF3, sF4⟩ := hS
                      go_simp
                      try with_reducible rfl
                    refine AnyJ.takeD (i := 5) (d := some 59) (v := ?_) rfl (by kernel_rfl) (by kernel_rfl) (by kernel_rfl) (by kernel_rfl) (by kernel_rfl) (fun _ _ _ h => h) (Or.inl ⟨by kernel_rfl, ?_⟩) hS ?_
                    rotate_left
                    · intro w' hS
                      obtain ⟨sF0, sF1, sF2, sF3, sF4⟩ := hS
                      go_simp
                      try with_reducible rfl
                    refine AnyJ.takeD (i := 6) (d := some 60) (v := ?_) rfl (by kernel_rfl) (by kernel_rfl) (by kernel_rfl) (by kernel_rfl) (by kernel_rfl) (fun _ _ _ h => h) (Or.inl ⟨by kernel_rfl, ?_⟩) hS ?_
                    rotate_left
                    · intro w' hS
                      obtain ⟨sF0, sF1, sF2, sF3, sF4⟩ := hS
                      go_simp
                      try with_reducible rfl
                    refine AnyJ.takeD (i := 7) (d := some 61) (v := ?_) rfl (by kernel_rfl) (by kernel_rfl) (by kernel_rfl) (by kernel_rfl) (by kernel_rfl) (fun _ _ _ h => h) (Or.inl ⟨by kernel_rfl, ?_⟩) hS ?_
                    rotate_left
                    · intro w' hS
                      obtain ⟨sF0, sF1, sF2, sF3, sF4⟩ := hS
                      go_simp
                      try with_reducible rfl
                    refine AnyJ.takeD (i := 8) (d := some 62) (v := ?_) rfl (by kernel_rfl) (by kernel_rfl) (by kernel_rfl) (by kernel_rfl) (by kernel_rfl) (fun _ _ _ h => h) (Or.inl ⟨by kernel_rfl, ?_⟩) hS ?_
                    rotate_left
                    · intro w' hS
                      obtain ⟨sF0, sF1, sF2, sF3, sF4⟩ := hS
                      go_simp
                      try with_reducible rfl
                    refine AnyJ.takeD (i := 9) (d := some 63) (v := ?_) rfl (by kernel_rfl) (by kernel_rfl) (by kernel_rfl) (by kernel_rfl) (by kernel_rfl) (fun _ _ _ h => h) (Or.inl ⟨by kernel_rfl, ?_⟩) hS ?_
                    rotate_left
                    · intro w' hS
                      obtain ⟨sF0, sF1, sF2, sF3, sF4⟩ := hS
                      go_simp
                      try with_reducible rfl
                    refine AnyJ.one (i := 10) (by kernel_rfl) rfl (fun Kz hKz => ?_)
                    go_simp
                    refine (s_within _ _ _ _ true (by assumption)).mono ?_
                    rintro e w' ⟨rfl, rfl⟩
                    refine hKz _ _ (fun _ => hS) ?_
                    clear hKz Kz
                    refine AnyJ.takeD (i := 11) (d := some 65) (v := ?_) rfl (by kernel_rfl) (by kernel_rfl) (by kernel_rfl) (by kernel_rfl) (by kernel_rfl) (fun _ _ _ h => h) (Or.inl ⟨by kernel_rfl, ?_⟩) hS ?_
                    rotate_left
                    · intro w' hS
                      obtain ⟨sF0, sF1, sF2, sF3, sF4⟩ := hS
                      go_simp
                      try with_reducible rfl
                    refine AnyJ.takeD (i := 12) (d := some 66) (v := ?_) rfl (by kernel_rfl) (by kernel_rfl) (by kernel_rfl) (by kernel_rfl) (by kernel_rfl) (fun _ _ _ h => h) (Or.inl ⟨by kernel_rfl, ?_⟩) hS ?_
                    rotate_left
                    · intro w' hS
                      obtain ⟨sF0, sF1, sF2, sF3, sF4⟩ := hS
                      go_simp
                      try with_reducible rfl
                    refine AnyJ.takeD (i := 13) (d := some 67) (v := ?_) rfl (by kernel_rfl) (by kernel_rfl) (by kernel_rfl) (by kernel_rfl) (by kernel_rfl) (fun _ _ _ h => h) (Or.inl ⟨by kernel_rfl, ?_⟩) hS ?_
                    rotate_left
                    · intro w' hS
                      obtain ⟨sF0, sF1, sF2, sF3, sF4⟩ := hS
                      go_simp
                      try with_reducible rfl
                    refine AnyJ.takeD (i := 14) (d := some 68) (v := ?_) rfl (by kernel_rfl) (by kernel_rfl) (by kernel_rfl) (by kernel_rfl) (by kernel_rfl) (fun _ _ _ h => h) (Or.inl ⟨by kernel_rfl, ?_⟩) hS ?_
                    rotate_left
                    · intro w' hS
                      obtain ⟨sF0, sF1, sF2, sF3, sF4⟩ := hS
                      go_simp
                      try with_reducible rfl
                    refine AnyJ.takeD (i := 15) (d := some 69) (v := ?_) rfl (by kernel_rfl) (by kernel_rfl) (by kernel_rfl) (by kernel_rfl) (by kernel_rfl) (fun _ _ _ h => h) (Or.inl ⟨by kernel_rfl, ?_⟩) hS ?_
                    rotate_left
                    · intro w' hS
                      obtain ⟨sF0, sF1, sF2, sF3, sF4⟩ := hS
                      go_simp
                      try with_reducible rfl
                    refine AnyJ.takeD (i := 16) (d := some 70) (v := ?_) rfl (by kernel_rfl) (by kernel_rfl) (by kernel_rfl) (by kernel_rfl) (by kernel_rfl) (fun _ _ _ h => h) (Or.inl ⟨by kernel_rfl, ?_⟩) hS ?_
                    rotate_left
                    · intro w' hS
                      obtain ⟨sF0, sF1, sF2, sF3, sF4⟩ := hS
                      go_simp
                      try with_reducible rfl
                    refine AnyJ.takeD (i := 17) (d := some 71) (v := ?_) rfl (by kernel_rfl) (by kernel_rfl) (by kernel_rfl) (by kernel_rfl) (by kernel_rfl) (fun _ _ _ h => h) (Or.inl ⟨by kernel_rfl, ?_⟩) hS ?_
                    rotate_left
                    · intro w' hS
                      obtain ⟨sF0, sF1, sF2, sF3, sF4⟩ := hS
                      go_simp
                      try with_reducible rfl
                    refine AnyJ.takeD (i := 18) (d := some 72) (v := ?_) rfl (by kernel_rfl) (by kernel_rfl) (by kernel_rfl) (by kernel_rfl) (by kernel_rfl) (fun _ _ _ h => h) (Or.inl ⟨by kernel_rfl, ?_⟩) hS ?_
                    rotate_left
                    · intro w' hS
                      obtain ⟨sF0, sF1, sF2, sF3, sF4⟩ := hS
                      go_simp
                      try with_reducible rfl
                    refine AnyJ.takeD (i := 19) (d := some 73) (v := ?_) rfl (by kernel_rfl) (by kernel_rfl) (by kernel_rfl) (by kernel_rfl) (by kernel_rfl) (fun _ _ _ h => h) (Or.inl ⟨by kernel_rfl, ?_⟩) hS ?_
                    rotate_left
                    · intro w' hS
                      obtain ⟨sF0, sF1, sF2, sF3, sF4⟩ := hS
                      go_simp
                      try with_reducible rfl
                    refine AnyJ.takeD (i := 20) (d := some 74) (v := ?_) rfl (by kernel_rfl) (by kernel_rfl) (by kernel_rfl) (by kernel_rfl) (by kernel_rfl) (fun _ _ _ h => h) (Or.inl ⟨by kernel_rfl, ?_⟩) hS ?_
                    rotate_left
                    · intro w' hS
                      obtain ⟨sF0, sF1, sF2, sF3, sF4⟩ := hS
                      go_simp
                      try with_reducible rfl
                    refine AnyJ.takeD (i := 21) (d := some 75) (v := ?_) rfl (by kernel_rfl) (by kernel_rfl) (by kernel_rfl) (by kernel_rfl) (by kernel_rfl) (fun _ _ _ h => h) (Or.inl ⟨by kernel_rfl, ?_⟩) hS ?_
                    rotate_left
                    · intro w' hS
                      obtain ⟨sF0, sF1, sF2, sF3, sF4⟩ := hS
                      go_simp
                      try with_reducible rfl
                    refine AnyJ.takeD (i := 22) (d := some 76) (v := ?_) rfl (by kernel_rfl) (by kernel_rfl) (by kernel_rfl) (by kernel_rfl) (by kernel_rfl) (fun _ _ _ h => h) (Or.inl ⟨by kernel_rfl, ?_⟩) hS ?_
                    rotate_left
                    · intro w' hS
                      obtain ⟨sF0, sF1, sF2, sF3, sF4⟩ := hS
                      go_simp
                      try with_reducible rfl
                    refine AnyJ.takeD (i := 23) (d := some 77) (v := ?_) rfl (by kernel_rfl) (by kernel_rfl) (by kernel_rfl) (by kernel_rfl) (by kernel_rfl) (fun _ _ _ h => h) (Or.inl ⟨by kernel_rfl, ?_⟩) hS ?_
                    rotate_left
                    · intro w' hS
                      obtain ⟨sF0, sF1, sF2, sF3, sF4⟩ := hS
                      go_simp
                      try with_reducible rfl
                    refine AnyJ.takeD (i := 24) (d := some 78) (v := ?_) rfl (by kernel_rfl) (by kernel_rfl) (by kernel_rfl) (by kernel_rfl) (by kernel_rfl) (fun _ _ _ h => h) (Or.inl ⟨by kernel_rfl, ?_⟩) hS ?_
                    rotate_left
                    · intro w' hS
                      obtain ⟨sF0, sF1, sF2, sF3, sF4⟩ := hS
                      go_simp
                      try with_reducible rfl
                    refine AnyJ.one (i := 25) (by kernel_rfl) rfl (fun Kz hKz => ?_)
                    go_simp
                    refine (s_within _ _ _ _ true (by assumption)).mono ?_
                    rintro e w' ⟨rfl, rfl⟩
                    refine hKz _ _ (fun _ => hS) ?_
                    clear hKz Kz
                    refine AnyJ.takeD (i := 26) (d := some 80) (v := ?_) rfl (by kernel_rfl) (by kernel_rfl) (by kernel_rfl) (by kernel_rfl) (by kernel_rfl) (fun _ _ _ h => h) (Or.inl ⟨by kernel_rfl, ?_⟩) hS ?_
                    rotate_left
                    · intro w' hS
                      obtain ⟨sF0, sF1, sF2, sF3, sF4⟩ := hS
                      go_simp
                      try with_reducible rfl
                    refine AnyJ.takeD (i := 27) (d := some 81) (v := ?_) rfl (by kernel_rfl) (by kernel_rfl) (by kernel_rfl) (by kernel_rfl) (by kernel_rfl) (fun _ _ _ h => h) (Or.inl ⟨by kernel_rfl, ?_⟩) hS ?_
                    rotate_left
                    · intro w' hS
                      obtain ⟨sF0, sF1, sF2, sF3, sF4⟩ := hS
                      go_simp
                      try with_reducible rfl
                    refine AnyJ.done (by kernel_rfl) ?_ _
                    try simp only [Act.put, List.setIfInBounds_toArray, List.set_cons_zero, List.set_cons_succ]
                    clear hS
                    clear hW
                    go_wp2_with (at_mapUpdate; refine wpList_update_imap _ rfl _ _ _ 48 (Or.inl rfl) 3 4 underlying_map Try.underlying3 gM f rfl hI.out.drew (cn : Int) (.bool true) rfl rfl ?_; intro w7 hI7 hg7; have HI7 := Lib.hid hI7; have HG7 := Lib.hid hg7; clear hI7 hg7)
                    have HB7 := Lib.hid (hB.out.drew.grown HG7.out (Nat.le_of_lt hI.out.lt) (fun k e => by cases e; exact Nat.le_refl _))
                    go_wp2_with fail
                    go_roundw
                    case rel =>
                      refine ⟨k + 1, _, by omega, by go_num, fun j hj => ?_, ?_, HI7.out, HB7.out⟩
                      · by_cases hjk : j = k
                        · subst hjk; exact HGOOD.out
                        · exact hA.out j (by omega)
                      · show SeenI _ _; rw [take_snoc_int (by rw [HZL.out]; exact hlt), HC.out]; exact hF.out.put _
                    case measure => simp [intOf]; omega
            · obtain rfl : nc = k := by omega
              have hbt : b = true := by
                rw [← HB.out]
                unfold openB
                rw [H1.out, HL.out, H2.out, HYL.out, HZL.out, H4.out, HSA.out, cutB_good (fun j hj => hA.out j (by rw [← HZL.out]; exact hj))]
                simp [H3.out]
              subst hbt
              have hgb : w.heap.size ≤ gS + 1 := by have := HGS.out; omega
              have p0 := hRP.out.cell 0 rfl
              have p1 := hRP.out.cell 1 rfl
              have p2 := hRP.out.cell 2 rfl
              have p3 := hRP.out.cell 3 rfl
              have p4 := hRP.out.cell 4 rfl
              have p5 := hRP.out.cell 5 rfl
              have p6 := hRP.out.cell 6 rfl
              have pl := hRP.out.lt
              have f0 := hRr.out.frozen 0
              have f1 := hRr.out.frozen 1
              have f2 := hRr.out.frozen 2
              have f3 := hRr.out.frozen 3
              have f4 := hRr.out.frozen 4
              have f5 := hRr.out.frozen 5
              have f6 := hRr.out.frozen 6
              have g0 := hRr.out.cell 0 rfl
              have g1 := hRr.out.cell 1 rfl
              have g2 := hRr.out.cell 2 rfl
              have g3 := hRr.out.cell 3 rfl
              have g4 := hRr.out.cell 4 rfl
              have g5 := hRr.out.cell 5 rfl
              have g6 := hRr.out.cell 6 rfl
              have lr := hRr.out.lt
              go_wp2_with fail
              obtain ⟨wB, hwB, RB, _, hBB⟩ := hRr.out.put7 (.int .i64 (i : Int)) (.int .i64 wd) (.slice ac nc cc) (.slice as' ns cs) (.int .i64 rm) (.int .i64 sd) (.slice sa sn sc)
              rw [hwB]
              have HBB := hBB w.heap.size w hgb hBw.out
              have z0 := RB.cell 0 rfl
              have z1 := RB.cell 1 rfl
              have z2 := RB.cell 2 rfl
              have z3 := RB.cell 3 rfl
              have z4 := RB.cell 4 rfl
              have z5 := RB.cell 5 rfl
              have z6 := RB.cell 6 rfl
              have lB := RB.lt
              clear hwB
              exact bodyPost_ret (v := .tuple #[.agg #[.int .i64 (i : Int), .int .i64 wd, .slice ac nc cc, .slice as' ns cs, .int .i64 rm, .int .i64 sd, .slice sa sn sc], .bool true]) (by simp [results, Try.results27, go_sem, z0, z1, z2, z3, z4, z5, z6, lB]) rfl (OpP.yes HX.out HBB)
      · have h3a : ((ns : Int) != (nc : Int)) = true := by simp; omega
        have h3b : (ns != nc) = true := by simp; omega
        have hbf : b = false := by rw [← HB.out]; exact openB_false (Or.inr (Or.inr (Or.inl (by rw [HZL.out, HYL.out]; exact h3))))
        subst hbf
        clear h3
        go_wp2_with fail
        obtain ⟨wB, hwB, RB, _, hBB⟩ := Row.put7 R_r_1 (.int .i64 0) (.int .i64 0) (.slice none 0 0) (.slice none 0 0) (.int .i64 0) (.int .i64 0) (.slice none 0 0)
        rw [hwB]
        have HBB := hBB w.heap.size w (by omega) HB1
        have z0 := RB.cell 0 rfl
        have z1 := RB.cell 1 rfl
        have z2 := RB.cell 2 rfl
        have z3 := RB.cell 3 rfl
        have z4 := RB.cell 4 rfl
        have z5 := RB.cell 5 rfl
        have z6 := RB.cell 6 rfl
        have lB := RB.lt
        clear hwB
        exact bodyPost_ret (v := .tuple #[.agg #[.int .i64 0, .int .i64 0, .slice none 0 0, .slice none 0 0, .int .i64 0, .int .i64 0, .slice none 0 0], .bool false]) (by simp [results, Try.results27, go_sem, z0, z1, z2, z3, z4, z5, z6, lB]) rfl (OpP.no HBB)

end Go.Proofs.Ytdijdfhlmnhcjaa
