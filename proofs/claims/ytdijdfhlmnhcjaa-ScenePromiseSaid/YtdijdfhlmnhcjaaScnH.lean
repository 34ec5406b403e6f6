/-
  Package scene, eighth part: the iterator's contract.
-/
import Derived.Test.YtdijdfhlmnhcjaaScnG
namespace Go.Proofs.Ytdijdfhlmnhcjaa
set_option linter.unusedSimpArgs false
set_option linter.unusedVariables false
open Go.RowKit Go.MapKept

attribute [local go_sem] Oper.semAt_some

def idS (sd : Int) (ys : List Int) (k : Nat) : Int := sd + (ys.take k).sum
/-- A scene's sales up to channel k. -/
def salesK (kd nt sd : Int) (zs ys : List Int) : Nat → List SaleV
  | 0 => manyS kd nt 0 0 false sd.toNat
  | k + 1 => salesK kd nt sd zs ys k ++ manyS kd nt (idS sd ys k) (zs.getD k 0) true (ys.getD k 0).toNat
theorem salesK_prefix (kd nt sd : Int) (zs ys : List Int) (k j : Nat) : salesK kd nt sd zs ys k <+: salesK kd nt sd zs ys (k + j) := by
  induction j with
  | zero => exact List.prefix_refl _
  | succ j ih => exact ih.trans (List.prefix_append _ _)
theorem sum_takeS {ys : List Int} {k : Nat} (hk : k < ys.length) : (ys.take (k + 1)).sum = (ys.take k).sum + ys.getD k 0 := by
  rw [take_snoc_int hk, List.sum_append]
  simp
theorem sum_boundS {ys : List Int} (h : ∀ y ∈ ys, 0 ≤ y ∧ y ≤ 400) : 0 ≤ ys.sum ∧ ys.sum ≤ 400 * ys.length := by
  induction ys with
  | nil => simp
  | cons y r ih =>
    have h1 := h y (by simp)
    have h2 := ih (fun z hz => h z (by simp [hz]))
    rw [List.sum_cons, List.length_cons]
    omega
theorem SlI.keeps0 {own : World → Nat → Prop} {A B : World} {a : Option Addr} {n : Nat} {zs : List Int} (h : SlI A a n zs) (k : KeepsO own A B) (hn : 0 < n → ∀ b o, a = some ⟨b, o, none⟩ → ¬ own A b) : SlI B a n zs := by
  rcases Nat.eq_zero_or_pos n with h0 | h0
  · subst h0
    have : zs = [] := List.eq_nil_of_length_eq_zero h.1
    subst this
    exact SlI.nil _ _
  · exact h.keepsO k (hn h0)
theorem SlI.under {A B : World} {a : Option Addr} {n B0 : Nat} {zs : List Int} (h : SlI A a n zs) (hb : Below B0 A B) (hn : 0 < n → ∀ b o, a = some ⟨b, o, none⟩ → b < B0) : SlI B a n zs := by
  refine ⟨h.1, fun i hi => ?_⟩
  obtain ⟨b, off, ha, hc⟩ := h.2 i hi
  exact ⟨b, off, ha, (hb.cell (p := ⟨b, off + i, none⟩) (hn (by omega) b off ha)).trans hc⟩
theorem SlI.ltB {A : World} {a : Option Addr} {n : Nat} {zs : List Int} (h : SlI A a n zs) (h0 : 0 < n) (b o : Nat) (e : a = some ⟨b, o, none⟩) : b < A.heap.size := by
  obtain ⟨b', off, ha, hc⟩ := h.2 0 h0
  rw [e] at ha
  cases ha
  exact World.block_lt_of_cell? A _ hc
/-- The two slices that the iterator reads. -/
def TwoS (own : World → Nat → Prop) (B0 : Nat) (ac : Option Addr) (nc : Nat) (zs : List Int) (as' : Option Addr) (ns : Nat) (ys : List Int) (A : World) : Prop :=
  SlI A ac nc zs ∧ SlI A as' ns ys ∧ (0 < nc → ∀ b o, ac = some ⟨b, o, none⟩ → b < B0 ∧ ¬ own A b) ∧ (0 < ns → ∀ b o, as' = some ⟨b, o, none⟩ → b < B0 ∧ ¬ own A b)
theorem TwoS.stepB {own : World → Nat → Prop} {B0 : Nat} {ac : Option Addr} {nc : Nat} {zs : List Int} {as' : Option Addr} {ns : Nat} {ys : List Int} {A C : World} (h : TwoS own B0 ac nc zs as' ns ys A) (hb : Below B0 A C) (ho : ∀ k, own C k → own A k) : TwoS own B0 ac nc zs as' ns ys C :=
  ⟨h.1.under hb (fun h0 b o e => (h.2.2.1 h0 b o e).1), h.2.1.under hb (fun h0 b o e => (h.2.2.2 h0 b o e).1), fun h0 b o e => ⟨(h.2.2.1 h0 b o e).1, fun q => (h.2.2.1 h0 b o e).2 (ho _ q)⟩, fun h0 b o e => ⟨(h.2.2.2 h0 b o e).1, fun q => (h.2.2.2 h0 b o e).2 (ho _ q)⟩⟩
theorem TwoS.keeps {own : World → Nat → Prop} {B0 : Nat} {ac : Option Addr} {nc : Nat} {zs : List Int} {as' : Option Addr} {ns : Nat} {ys : List Int} {A C : World} (h : TwoS own B0 ac nc zs as' ns ys A) (hk : KeepsO own A C) : TwoS own B0 ac nc zs as' ns ys C :=
  ⟨h.1.keeps0 hk (fun h0 b o e => (h.2.2.1 h0 b o e).2), h.2.1.keeps0 hk (fun h0 b o e => (h.2.2.2 h0 b o e).2), fun h0 b o e => ⟨(h.2.2.1 h0 b o e).1, fun q => (h.2.2.1 h0 b o e).2 (hk.2.2 _ (h.1.ltB h0 b o e) q)⟩, fun h0 b o e => ⟨(h.2.2.2 h0 b o e).1, fun q => (h.2.2.2 h0 b o e).2 (hk.2.2 _ (h.2.1.ltB h0 b o e) q)⟩⟩

set_option maxRecDepth 100000 in
set_option maxHeartbeats 6400000 in
theorem sales_stops (own : World → Nat → Prop) (Prot : Nat → Prop) (m : Nat) (hm : 2 ≤ m) (kd nt wd : Int) (ac : Option Addr) (nc cc : Nat) (zs : List Int) (as' : Option Addr) (ns cs : Nat) (ys : List Int) (rm sd : Int) (sa : Option Addr) (sn sc : Nat)
    (hnt0 : 0 ≤ nt) (hnt1 : nt ≤ 1000) (hsd0 : 0 ≤ sd) (hsd1 : sd ≤ 1000) (hnc : nc ≤ 30) (hns : ns = nc) (hys : ∀ y ∈ ys, 0 ≤ y ∧ y ≤ 400)
    (bk bp : Nat) (hpk : Prot bk) (hpp : Prot bp) (w : World) (hk : Row w bk [.int .i64 kd]) (hp : Row w bp [.int .i64 nt, .int .i64 wd, .slice ac nc cc, .slice as' ns cs, .int .i64 rm, .int .i64 sd, .slice sa sn sc])
    (hz : SlI w ac nc zs) (hy : SlI w as' ns ys) (hpz : 0 < nc → ∀ b o, ac = some ⟨b, o, none⟩ → Prot b) (hpy : 0 < ns → ∀ b o, as' = some ⟨b, o, none⟩ → Prot b) :
    SeqO Fence.wide m Try.prog 53 #[.pointer (some ⟨bk, 0, none⟩), .pointer (some ⟨bp, 0, none⟩)] encS own Prot (fun xs => xs = salesK kd nt sd zs ys nc) (fun pre => pre <+: salesK kd nt sd zs ys nc) (salesK kd nt sd zs ys nc).length w := fun y J Jx W hW hJ hO hY h0 => by
  have hHS := hW.size
  have hkl := hk.lt
  have hpl := hp.lt
  have RK := hk.of_block (hW.block bk hk.lt)
  have RP := hp.of_block (hW.block bp hp.lt)
  have SZ := hz.below hW
  have SY := hy.below hW
  have HYL := Lib.hid hy.1
  have HZL := Lib.hid hz.1
  have HYB := Lib.hid hys
  have hnk : ¬ own W bk := fun e => ((hO _ _ h0).1 _ e).2 hpk
  have hnp : ¬ own W bp := fun e => ((hO _ _ h0).1 _ e).2 hpp
  have hT0 : TwoS own W.heap.size ac nc zs as' ns ys W := ⟨SZ, SY, fun h1 b o e => ⟨SZ.ltB h1 b o e, fun q => ((hO _ _ h0).1 _ q).2 (hpz h1 b o e)⟩, fun h1 b o e => ⟨SY.ltB h1 b o e, fun q => ((hO _ _ h0).1 _ q).2 (hpy h1 b o e)⟩⟩
  have hlt : ∀ k, own W k → k < W.heap.size := fun k e => hO.lt h0 e
  obtain ⟨V1, hV1⟩ : ∃ X, W.alloc (.cells #[.func (.yield y) #[] #[]] 85) = X := ⟨_, rfl⟩
  obtain ⟨V2, hV2⟩ : ∃ X, V1.alloc (.cells #[.int .i64 0] 3) = X := ⟨_, rfl⟩
  have s1 : V1.heap.size = W.heap.size + 1 := by rw [← hV1]; simp
  have hb1 : Below W.heap.size W V1 := by rw [← hV1]; (repeat' (first | (with_reducible exact Below.refl _ _) | (with_reducible assumption) | (with_reducible exact Bw.out (by with_reducible assumption)) | (with_reducible refine bw_alloc ?_ _) | (with_reducible refine bw_step ?_ (by with_reducible assumption)) | (with_reducible refine Below.alloc ?_ ?_ _) | (with_reducible refine Below.drew ?_) | (with_reducible refine below_drewN ?_ _) | (with_reducible refine Below.setCell ?_ ?_ _) | (with_reducible refine below_step ?_ (by with_reducible assumption) ?_) | (with_reducible exact Nat.le_refl _) | omega | (simp; omega) | (simp; done)))
  have hb2 : Below W.heap.size W V2 := by rw [← hV2]; exact hb1.alloc (by omega) _
  have ho2 : ∀ k, own V2 k → own W k := fun k e => (hO _ _ h0).2 V2 k hb2 e
  have HI2 : Hid (ItS own V2 V1.heap.size bk bp W.heap.size y 0 kd [.int .i64 nt, .int .i64 wd, .slice ac nc cc, .slice as' ns cs, .int .i64 rm, .int .i64 sd, .slice sa sn sc]) := by
    refine ⟨by rw [← hV2]; exact Row.new' V1 [_] _ rfl, RK.step hb2, RP.step hb2, ?_, fun e => ?_, fun e => hnk (ho2 _ e), fun e => hnp (ho2 _ e), fun e => ?_⟩
    · rw [← hV2, ← hV1]; exact (Row.new' W [_] _ rfl).alloc _
    · have := hlt _ (ho2 _ e); omega
    · have := hlt _ (ho2 _ e); omega
  have HJ2 : Hid (J [] V2) := hJ _ _ _ h0 hb2 (fun k ho => hb2.block k (hlt k ho))
  have HT2 : Hid (TwoS own W.heap.size ac nc zs as' ns ys V2) := hT0.stepB hb2 ho2
  have hs2 : W.heap.size + 2 ≤ V2.heap.size := by rw [← hV2]; simp; omega
  have HJ := Lib.hid hJ
  have HO := Lib.hid hO
  have HY : Hid (∀ m pre x W1, J pre W1 → (pre ++ [x]) <+: salesK kd nt sd zs ys nc → pre.length < (salesK kd nt sd zs ys nc).length → YieldAt Fence.wide m Try.prog y (encS x) W1 fun e W' => (e = .returned (.bool true) ∧ J (pre ++ [x]) W' ∧ KeepsO own W1 W') ∨ (e = .returned (.bool false) ∧ Jx (pre ++ [x]) W')) := fun m' pre x W1 h1 h2 h3 => by
    obtain ⟨fn, tmps, assign, body, hy1, hy2⟩ := hY pre x W1 h1 h2 h3
    exact ⟨fn, tmps, assign, body, hy1, ⟨hy2.1, fun c cs _ => hy2.2 c cs (room_wide _)⟩⟩
  have hbkW : bk < W.heap.size := by omega
  have hbpW : bp < W.heap.size := by omega
  have HV1 := Lib.hid hV1
  have HV2 := Lib.hid hV2
  clear hk hp hz hy RK RP SZ SY hnk hnp hT0 hlt hb1 hb2 ho2 hJ hO hY h0 hys hV1 hV2
  refine callsIn_of_wp Try.func53 rfl trivial ?_ rfl
  simp only [Try.ntmps53, List.size_toArray, List.length_cons, List.length_nil, Nat.reduceAdd, Nat.reduceSub, Array.replicate_succ, Array.replicate_zero, List.push_toArray, List.append_toArray, List.nil_append, List.cons_append]
  gi_upto_region 1 with fail
  rw [HV1.out]
  obtain ⟨gy, hgy⟩ : ∃ g, W.heap.size = g := ⟨_, rfl⟩
  rw [hgy] at HI2 HT2 s1 hs2 hbkW hbpW
  try rw [hgy]
  have HGY := Lib.hid hgy
  obtain ⟨gi, hgi⟩ : ∃ g, V1.heap.size = g := ⟨_, rfl⟩
  rw [hgi] at HI2 s1
  gi_upto_region 3 with fail
  rw [HV2.out]
  subst s1
  clear hgi
  have HJ' : Hid (AbideO own gy J) := by show AbideO _ _ _; rw [← HGY.out]; exact HJ.out
  have HO' : Hid (OwnsJ own Prot gy J) := by show OwnsJ _ _ _ _; rw [← HGY.out]; exact HO.out
  have HX1 : Hid (∀ s A C, J s A → TwoS own gy ac nc zs as' ns ys A → Below gy A C → TwoS own gy ac nc zs as' ns ys C) := fun s A C hj hx hb => hx.stepB hb (fun k => (HO'.out _ _ hj).2 C k hb)
  have HX2 : Hid (∀ A C, TwoS own gy ac nc zs as' ns ys A → KeepsO own A C → TwoS own gy ac nc zs as' ns ys C) := fun A C hx hk => hx.keeps hk
  obtain ⟨sdn, rfl⟩ := Int.eq_ofNat_of_zero_le hsd0
  have hbkn : bk ≠ gy + 1 := by omega
  have hbpn : bp ≠ gy + 1 := by omega
  have hbyn : gy ≠ gy + 1 := by omega
  have qsd := HI2.out.2.2.1.cell 5 rfl
  have hp0 : ([] : List SaleV) ++ manyS kd nt 0 0 false sdn <+: salesK kd nt (sdn : Int) zs ys nc := by
    have := salesK_prefix kd nt (sdn : Int) zs ys 0 nc
    rw [Nat.zero_add] at this
    simpa [salesK] using this
  have HP0 := Lib.hid hp0
  clear hp0 HJ HO
  gi_wp2_with fail
  refine ⟨trivial, fun _ => by omega, ?_⟩
  refine (some_in own Prot (m - 1) (by omega) gy y J Jx _ HJ'.out HO'.out HY.out [] kd nt wd 0 0 false sdn ac nc cc as' ns cs rm (sdn : Int) sa sn sc HP0.out _ HX1.out HX2.out (by omega) (by omega) hnt0 hnt1 (gy + 1) bk bp gy (by omega) hbkn hbpn hbyn V2 (by omega) HI2.out HJ2.out HT2.out).mono ?_
  rintro e W3 (⟨rfl, hJ3, hI3, hX3, hz3⟩ | ⟨rfl, pre, hp1, hx1⟩)
  · have HJ3 := Lib.hid hJ3
    have HI3 := Lib.hid hI3
    have HX3 := Lib.hid hX3
    have hz4 : gy ≤ W3.heap.size := Nat.le_trans (show gy ≤ V2.heap.size by omega) hz3
    have q2 := hI3.2.2.1.cell 2 rfl
    clear hJ3 hI3 hX3 hz3 qsd HI2 HJ2 HT2
    gi_wp2_with fail
    gi_loopw [19] (fun vi wr => ∃ k : Nat, k ≤ nc ∧ vi = .int .i64 k ∧ Hid (J (salesK kd nt (sdn : Int) zs ys k) wr) ∧ Hid (ItS own wr (gy + 1) bk bp gy y (idS (sdn : Int) ys k) kd [.int .i64 nt, .int .i64 wd, .slice ac nc cc, .slice as' ns cs, .int .i64 rm, .int .i64 (sdn : Int), .slice sa sn sc]) ∧ Hid (TwoS own gy ac nc zs as' ns ys wr) ∧ Hid (gy ≤ wr.heap.size)) (fun vi _ => nc - (intOf vi).toNat)
    case atStart => exact ⟨0, Nat.zero_le _, rfl, by show J _ _; simpa [salesK] using HJ3.out, by show ItS _ _ _ _ _ _ _ _ _ _; simpa [idS] using HI3.out, HX3.out, hz4⟩
    case round =>
      obtain ⟨k, hk, rfl, hJr, hIr, hTr, hzr⟩ := hrel
      by_cases hlt : k < nc
      · obtain ⟨bz, oz, c, rfl, _, qc, hc, _, _⟩ := hTr.out.1.get hlt
        obtain ⟨by', oy, yv, hye, _, qy, hyv, _, hmem⟩ := hTr.out.2.1.get (show k < ns by omega)
        subst hye
        obtain ⟨y0, y1⟩ := HYB.out yv hmem.out
        obtain ⟨yn, rfl⟩ := Int.eq_ofNat_of_zero_le y0
        have hkl : k < ys.length := by rw [HYL.out]; omega
        have hib : 0 ≤ idS (sdn : Int) ys k ∧ idS (sdn : Int) ys k + (yn : Int) ≤ 13000 := by
          have h1 := sum_boundS (ys := ys.take k) (fun z hz => HYB.out z (List.mem_of_mem_take hz))
          have h2 := sum_boundS (ys := ys.take (k + 1)) (fun z hz => HYB.out z (List.mem_of_mem_take hz))
          rw [sum_takeS hkl, hyv.out] at h2
          rw [List.length_take] at h1 h2
          unfold idS
          have := HYL.out
          omega
        obtain ⟨ib0, ib1⟩ := hib
        have hsk : salesK kd nt (sdn : Int) zs ys (k + 1) = salesK kd nt (sdn : Int) zs ys k ++ manyS kd nt (idS (sdn : Int) ys k) c true yn := by
          show salesK _ _ _ _ _ k ++ _ = _
          rw [hc.out, hyv.out, Int.toNat_natCast]
        have hid2 : idS (sdn : Int) ys (k + 1) = idS (sdn : Int) ys k + (yn : Int) := by
          unfold idS
          rw [sum_takeS hkl, hyv.out]; omega
        have HSK := Lib.hid hsk
        have HID2 := Lib.hid hid2
        have HPK : Hid (salesK kd nt (sdn : Int) zs ys k ++ manyS kd nt (idS (sdn : Int) ys k) c true yn <+: salesK kd nt (sdn : Int) zs ys nc) := by
          show _ <+: _
          rw [← hsk]
          have := salesK_prefix kd nt (sdn : Int) zs ys (k + 1) (nc - (k + 1))
          rwa [show k + 1 + (nc - (k + 1)) = nc by omega] at this
        have k1 : (0 : Int) ≤ (k : Int) := by omega
        have k2 : (k : Int) < (nc : Int) := by omega
        have k3 : (k : Int) < (ns : Int) := by omega
        have p3 := hIr.out.2.2.1.cell 3 rfl
        clear hc hyv hmem hkl hsk hid2 q2
        gi_wp2_with fail
        refine ⟨trivial, fun _ => by omega, ?_⟩
        refine (some_in own Prot (m - 1) (by omega) gy y J Jx _ HJ'.out HO'.out HY.out (salesK kd nt (sdn : Int) zs ys k) kd nt wd (idS (sdn : Int) ys k) c true yn _ nc cc _ ns cs rm (sdn : Int) sa sn sc HPK.out _ HX1.out HX2.out ib0 (by omega) hnt0 hnt1 (gy + 1) bk bp gy (by omega) hbkn hbpn hbyn wr hzr.out hIr.out hJr.out hTr.out).mono ?_
        rintro e W4 (⟨rfl, hJ4, hI4, hX4, hz4'⟩ | ⟨rfl, pre, hp1, hx1⟩)
        · have HJ4 := Lib.hid hJ4
          have HI4 := Lib.hid hI4
          have HX4 := Lib.hid hX4
          have HZ4 : Hid (gy ≤ W4.heap.size) := Nat.le_trans hzr.out hz4'
          clear hJ4 hI4 hX4 hz4' qc qy p3
          gi_wp2_with fail
          refine ⟨⟨k + 1, by omega, by go_num, ?_, ?_, HX4.out, HZ4.out⟩, ?_⟩
          · show J _ _; rw [HSK.out]; exact HJ4.out
          · show ItS _ _ _ _ _ _ _ _ _ _; rw [HID2.out]; exact HI4.out
          · simp [intOf]; omega
        · have HP1 := Lib.hid hp1
          have HX4 := Lib.hid hx1
          clear hp1 hx1 qc qy p3
          gi_wp2_with fail
          refine bodyPost_ret (results_none rfl _ _ _) rfl ?_
          exact ⟨⟨_, rfl⟩, .inr ⟨_, HP1.out, HX4.out⟩⟩
      · obtain rfl : nc = k := by omega
        gi_wp2_with fail
        go_end0
        exact ⟨⟨_, rfl⟩, .inl ⟨_, rfl, hJr.out⟩⟩
  · have HP1 := Lib.hid hp1
    have HX4 := Lib.hid hx1
    clear hp1 hx1 qsd
    gi_wp2_with fail
    refine bodyPost_ret (results_none rfl _ _ _) rfl ?_
    exact ⟨⟨_, rfl⟩, .inr ⟨_, HP1.out, HX4.out⟩⟩

end Go.Proofs.Ytdijdfhlmnhcjaa
