/-
 Texts built as one: XSpH, XSpI, XSpJ.
-/
import Derived.Test.YtcmodmchnokmgaaMT
import Derived.Test.YtcmodmchnokmgaaEvM
namespace Go.Proofs.Ytcmodmchnokmgaa
section
set_option linter.unusedSimpArgs false
set_option linter.unusedVariables false
open Go.RowKit
attribute [local go_sem ↓] ld_eq st_eq
attribute [local go_sem] ldR_run ldV_drew ldV_alloc ldV_at16 stR_run sz16_rate stB_drew stB_at16 stW_at16 stB_set ldV_set
/-! Lists in steps. -/
def tkF {α : Type} (g : Nat → List α) (i : Nat) : List α := (List.range i).flatMap g
theorem tkF_zero {α : Type} (g : Nat → List α) : tkF g 0 = [] := rfl
theorem tkF_succ {α : Type} (g : Nat → List α) (i : Nat) : tkF g (i + 1) = tkF g i ++ g i := by unfold tkF; rw [List.range_succ, List.flatMap_append]; simp
theorem tkF_prefix {α : Type} (g : Nat → List α) (i : Nat) : ∀ M : Nat, i ≤ M → tkF g i <+: tkF g M
 | 0, h => by
  obtain rfl : i = 0 := by omega
  exact List.prefix_rfl
 | M + 1, h => by
  by_cases e : i = M + 1
  ·
   subst e; exact List.prefix_rfl
  ·
   rw [tkF_succ]
   exact (tkF_prefix g i M (by omega)).trans (List.prefix_append _ _)
theorem tkF_in {α : Type} (g : Nat → List α) {i M : Nat} {p : List α} (h : i < M) (hp : p <+: g i) : tkF g i ++ p <+: tkF g M := by
 refine List.IsPrefix.trans ?_ (tkF_prefix g (i + 1) M h)
 rw [tkF_succ]
 exact (List.prefix_append_right_inj _).2 hp
def g3 (has : Int → Bool) (F U p : Int) (q : Nat) : List AskV := if has (q + 1) then [⟨q + 1, F, U, p⟩] else []
def g2 (has : Int → Bool) (F U : Int) (p : Nat) : List AskV := tkF (g3 has F U (p + 1)) 20
def g1 (has : Int → Bool) (pp : Nat) (F : Int) (j : Nat) : List AskV := tkF (g2 has F (F + 1 + j)) pp
/-- How many stays begin in a night. -/
def limN (un nn F : Int) : Nat := (min un (F + nn) - F).toNat
def g0 (has : Int → Bool) (fr un nn : Int) (pp : Nat) (i : Nat) : List AskV := tkF (g1 has pp (fr + i)) (limN un nn (fr + i))
/-- The asks of a domain. -/
def asksL (has : Int → Bool) (fr un nn : Int) (pp : Nat) : List AskV := tkF (g0 has fr un nn pp) (un - fr).toNat
def kindM (l : List RateV) : List (Int × Value) := l.foldl (fun f r => upd f r.kd (.bool true)) []
theorem kindM_snoc (l : List RateV) (r : RateV) : kindM (l ++ [r]) = upd (kindM l) r.kd (.bool true) := by unfold kindM; rw [List.foldl_append]; rfl
def hasK (l : List RateV) (k : Int) : Bool := l.any (fun r => decide (r.kd = k))
theorem kindM_look (k : Int) : ∀ l : List RateV, look (kindM l) k = if hasK l k then some (.bool true) else none := by
 intro l
 have h : ∀ (l : List RateV) (f : List (Int × Value)), look (l.foldl (fun f r => upd f r.kd (.bool true)) f) k = if hasK l k then some (.bool true) else look f k := by
  intro l
  induction l with
  | nil => intro f; rfl
  | cons r t ih =>
   intro f
   rw [List.foldl_cons, ih, look_upd]
   unfold hasK
   rw [List.any_cons]
   by_cases h1 : r.kd = k
   ·
    have h2 : k = r.kd := h1.symm
    simp [h1]
   ·
    have h2 : ¬ k = r.kd := fun e => h1 e.symm
    simp [h1, h2]
 have := h l []
 unfold kindM
 rw [this]
 rfl
set_option maxRecDepth 100000 in
set_option maxHeartbeats 3200000 in
theorem asks_any (ad : Option Addr) (n cap : Nat) (l : List RateV) (fr un nn pp : Int) (w : World) (hs : SlR w ad n l) (hn : n ≤ 1000000) :
  Calls Try.prog 61 #[.slice ad n cap, .agg #[.int .i64 fr, .int .i64 un, .int .i64 nn, .int .i64 pp]] w fun e w' =>
   e = .returned (.func (.func 89) #[] #[.pointer (some ⟨w.heap.size, 0, none⟩), .pointer (some ⟨w.heap.size + 1 + 1, 0, none⟩)]) ∧
   Row w' w.heap.size [.int .i64 fr, .int .i64 un, .int .i64 nn, .int .i64 pp] ∧ Row w' (w.heap.size + 1 + 1) [.map (some (w.heap.size + 1))] ∧ IMap w' (w.heap.size + 1) (kindM l) ∧ Below w.heap.size w w' := by
 have HS := Lib.hid hs
 have HLN := Lib.hid hs.1
 clear hs
 have hmm := @run_makeMap Try.prog
 go_enter Try.func61, Try.ntmps61
 go_wp2_with fail
 obtain ⟨w1, hw1⟩ : ∃ X, World.alloc (World.alloc (World.alloc w (.cells #[.int .i64 fr, .int .i64 un, .int .i64 nn, .int .i64 pp] 64)) (.map #[] 0)) (.cells #[.map (some (w.heap.size + 1))] 46) = X := ⟨_, rfl⟩
 rw [hw1]
 have hb1 : Below w.heap.size w w1 := by rw [← hw1]; (repeat' (first | (with_reducible first | exact Below.refl _ _ | assumption | exact Bw.out (by assumption) | refine bw_alloc ?_ _ | refine bw_step ?_ (by assumption) | refine Below.alloc ?_ ?_ _ | refine Below.drew ?_ | refine below_drewN ?_ _ | refine Below.setCell ?_ ?_ _ | refine below_step ?_ (by assumption) ?_ | exact Nat.le_refl _) | omega | (simp; omega) | (simp; done)))
 have hD : Row w1 w.heap.size [.int .i64 fr, .int .i64 un, .int .i64 nn, .int .i64 pp] := by rw [← hw1]; (repeat' (first | (with_reducible assumption) | (with_reducible refine Row.new' _ _ _ (by first | rfl | (simp; done) | omega)) | (with_reducible refine Row.alloc ?_ _) | (with_reducible refine Row.drew ?_) | (with_reducible refine Row.drewN ?_ _) | (with_reducible refine Row.step ?_ (by with_reducible assumption))))
 have hK : Row w1 (w.heap.size + 1 + 1) [.map (some (w.heap.size + 1))] := by rw [← hw1]; (repeat' (first | (with_reducible assumption) | (with_reducible refine Row.new' _ _ _ (by first | rfl | (simp; done) | omega)) | (with_reducible refine Row.alloc ?_ _) | (with_reducible refine Row.drew ?_) | (with_reducible refine Row.drewN ?_ _) | (with_reducible refine Row.step ?_ (by with_reducible assumption))))
 have hM : IMap w1 (w.heap.size + 1) (kindM []) := by
  rw [← hw1]
  have h := imap_made (World.alloc w (.cells #[.int .i64 fr, .int .i64 un, .int .i64 nn, .int .i64 pp] 64))
  rw [World.size_alloc] at h
  exact h.alloc _
 have HD := Lib.hid hD
 have HK := Lib.hid hK
 have HM := Lib.hid hM
 have HB1 := Lib.hid hb1
 clear hb1 hD hK hM hw1
 go_loopw [7, 11] (fun _ v11 wr => ∃ q : Nat, q ≤ n ∧ v11 = .int .i64 q ∧ Hid (Row wr w.heap.size [.int .i64 fr, .int .i64 un, .int .i64 nn, .int .i64 pp]) ∧ Hid (Row wr (w.heap.size + 1 + 1) [.map (some (w.heap.size + 1))]) ∧ Hid (IMap wr (w.heap.size + 1) (kindM (l.take q))) ∧ Hid (Below w.heap.size w wr)) (fun _ v11 _ => n - (intOf v11).toNat)
 case atStart => exact ⟨0, Nat.zero_le _, rfl, HD.out, HK.out, HM.out, HB1.out⟩
 case round =>
  obtain ⟨q, hq, rfl, hD, hK, hM, hB⟩ := hrel
  have hsz := hB.out.size
  by_cases hlt : q < n
  ·
   obtain ⟨r, b, off, hr, rfl, hlb, hrin, hcl⟩ := (HS.out.step hB.out).get hlt
   have d_r : ldV wr (.pointer (some ⟨b, off + q * 16, none⟩)) = some (.agg #[.int .i64 r.id, .int .i64 r.lv, .int .i64 r.kd, .int .i64 r.fr, .int .i64 r.un, .int .i64 r.ls, .int .i64 r.ms, .int .i64 r.ar, .int .i64 r.kn, .int .i64 r.kk, .int .i64 r.wh.op, .int .i64 r.wh.n, .slice r.wh.at' r.wh.ks.length r.wh.cap, .int .i64 r.pr.op, .int .i64 r.pr.n, .slice r.pr.at' r.pr.ks.length r.pr.cap]) := ldV_at hcl.out rfl
   have i1 : (0 : Int) ≤ (q : Int) := by omega
   have i2 : (q : Int) < (n : Int) := by omega
   have hal : Below wr.heap.size wr (wr.alloc (.cells #[.int .i64 r.id, .int .i64 r.lv, .int .i64 r.kd, .int .i64 r.fr, .int .i64 r.un, .int .i64 r.ls, .int .i64 r.ms, .int .i64 r.ar, .int .i64 r.kn, .int .i64 r.kk, .int .i64 r.wh.op, .int .i64 r.wh.n, .slice r.wh.at' r.wh.ks.length r.wh.cap, .int .i64 r.pr.op, .int .i64 r.pr.n, .slice r.pr.at' r.pr.ks.length r.pr.cap] 30)) := (Below.refl _ _).alloc (Nat.le_refl _) _
   have RR : Row (wr.alloc (.cells #[.int .i64 r.id, .int .i64 r.lv, .int .i64 r.kd, .int .i64 r.fr, .int .i64 r.un, .int .i64 r.ls, .int .i64 r.ms, .int .i64 r.ar, .int .i64 r.kn, .int .i64 r.kk, .int .i64 r.wh.op, .int .i64 r.wh.n, .slice r.wh.at' r.wh.ks.length r.wh.cap, .int .i64 r.pr.op, .int .i64 r.pr.n, .slice r.pr.at' r.pr.ks.length r.pr.cap] 30)) wr.heap.size [.int .i64 r.id, .int .i64 r.lv, .int .i64 r.kd, .int .i64 r.fr, .int .i64 r.un, .int .i64 r.ls, .int .i64 r.ms, .int .i64 r.ar, .int .i64 r.kn, .int .i64 r.kk, .int .i64 r.wh.op, .int .i64 r.wh.n, .slice r.wh.at' r.wh.ks.length r.wh.cap, .int .i64 r.pr.op, .int .i64 r.pr.n, .slice r.pr.at' r.pr.ks.length r.pr.cap] := Row.new' _ _ _ rfl
   have k0 := (hK.out.step hal).cell 0 rfl
   have kl := (hK.out.step hal).lt
   have HM1 := Lib.hid (hM.out.below hal)
   have HD1 := Lib.hid (hD.out.step hal)
   have HK1 := Lib.hid (hK.out.step hal)
   have HB2 := Lib.hid (hB.out.trans (hal.mono hsz))
   have r2 := RR.cell 2 rfl
   have rl := RR.lt
   have HKM : Hid (upd (kindM (l.take q)) r.kd (.bool true) = kindM (l.take (q + 1))) := by
    show _ = _
    obtain ⟨hk2, e2⟩ := List.getElem?_eq_some_iff.1 hr.out
    rw [List.take_succ_eq_append_getElem hk2, e2, kindM_snoc]
   clear hcl RR hal hr
   go_upto_region 6 with (refine wpList_update_imap _ rfl _ _ _ 46 (.inl rfl) 3 4 Try.underlying46 Try.underlying3 _ _ rfl HM1.out r.kd _ rfl rfl ?_; intro w5 hm5 hg5)
   have hc5 : Ch (fun b => b = w.heap.size + 1) (wr.alloc (.cells #[.int .i64 r.id, .int .i64 r.lv, .int .i64 r.kd, .int .i64 r.fr, .int .i64 r.un, .int .i64 r.ls, .int .i64 r.ms, .int .i64 r.ar, .int .i64 r.kn, .int .i64 r.kk, .int .i64 r.wh.op, .int .i64 r.wh.n, .slice r.wh.at' r.wh.ks.length r.wh.cap, .int .i64 r.pr.op, .int .i64 r.pr.n, .slice r.pr.at' r.pr.ks.length r.pr.cap] 30)) w5 := Ch.of_grown hg5 (fun b e => by cases e; rfl)
   have HD5 := Lib.hid (HD1.out.ch hc5 (show ¬ w.heap.size = w.heap.size + 1 by omega))
   have HK5 := Lib.hid (HK1.out.ch hc5 (show ¬ w.heap.size + 1 + 1 = w.heap.size + 1 by omega))
   have HB5 : Hid (Below w.heap.size w w5) := hc5.below HB2.out (fun b e => by omega) HB2.out.size
   have HM5 : Hid (IMap w5 (w.heap.size + 1) (kindM (l.take (q + 1)))) := by show IMap _ _ _; rw [← HKM.out]; exact hm5
   clear hc5 hm5 hg5 k0 kl r2 rl
   go_wp2_with fail
   go_roundw
   case rel => exact ⟨q + 1, by omega, by go_num, HD5.out, HK5.out, HM5.out, HB5.out⟩
   case measure => simp [intOf]; omega
  ·
   obtain rfl : n = q := by omega
   have HMf : Hid (IMap wr (w.heap.size + 1) (kindM l)) := by
    have h := hM.out
    rwa [List.take_of_length_le (by rw [HLN.out]; exact Nat.le_refl _)] at h
   go_wp2_with fail
   go_returns
   exact ⟨rfl, hD.out, hK.out, HMf.out, hB.out⟩
end
section
set_option linter.unusedSimpArgs false
set_option linter.unusedVariables false
open Go.RowKit Go.Shelf
attribute [local go_sem] Oper.semAt_some
/-- An ask of a list. -/
abbrev AskT (l : List AskV) := { a : AskV // a ∈ l }
abbrev encQ {l : List AskV} (a : AskT l) : Array Value := #[a.1.key]
/-- A beginning of a list, as asks of it. -/
def tA (l L : List AskV) : List (AskT l) := l.attach.take L.length
theorem tA_nil (l : List AskV) : tA l [] = [] := by unfold tA; simp
theorem tA_all (l : List AskV) : tA l l = l.attach := by unfold tA; rw [List.take_of_length_le (by simp)]
theorem tA_length {l L : List AskV} (h : L <+: l) : (tA l L).length = L.length := by unfold tA; have := h.length_le; simp; omega
theorem tA_prefix (l L : List AskV) : tA l L <+: l.attach := List.take_prefix _ _
theorem pre_mem {l L : List AskV} {x : AskV} (h : L ++ [x] <+: l) : x ∈ l := h.subset (by simp)
theorem tA_snoc {l L : List AskV} {x : AskV} (h : L ++ [x] <+: l) : tA l (L ++ [x]) = tA l L ++ [⟨x, pre_mem h⟩] := by
 have hl : L.length < l.length := by have := h.length_le; simp at this; omega
 unfold tA
 rw [List.length_append, List.length_singleton, List.take_succ_eq_append_getElem (by simpa using hl)]
 congr 2
 apply Subtype.ext
 rw [List.getElem_attach]
 obtain ⟨r, hr⟩ := h
 have e : l[L.length]? = some x := by rw [← hr]; simp
 obtain ⟨_, e2⟩ := List.getElem?_eq_some_iff.1 e
 exact e2
def JA {l : List AskV} (J : List (AskT l) → World → Prop) (L : List AskV) (W : World) : Prop := J (tA l L) W
/-- What the body of a range over asks keeps: all cells but some, and the map of kinds. -/
def KpQ (P : Nat → Prop) (mk : Nat) (A B : World) : Prop := KeepsO (fun _ b => P b) A B ∧ B.heap[mk]? = A.heap[mk]?
theorem KpQ.refl (P : Nat → Prop) (mk : Nat) (A : World) : KpQ P mk A A := ⟨⟨Nat.le_refl _, fun _ _ _ _ e _ => rfl, fun _ _ h => h⟩, rfl⟩
theorem KpQ.trans {P : Nat → Prop} {mk : Nat} {A B C : World} (h : KpQ P mk A B) (k : KpQ P mk B C) : KpQ P mk A C := ⟨h.1.trans k.1, k.2.trans h.2⟩
set_option maxRecDepth 100000 in
set_option maxHeartbeats 6400000 in
theorem asks_stops (P : Nat → Prop) (mm : Nat) (hmm : 1 ≤ mm) (c0 c1 mk : Nat) (fr un nn : Int) (pp : Nat) (f : List (Int × Value)) (has : Int → Bool) (w : World) (hr0 : Row w c0 [.int .i64 fr, .int .i64 un, .int .i64 nn, .int .i64 pp]) (hr1 : Row w c1 [.map (some mk)]) (hmk : IMap w mk f)
  (hf : ∀ kd : Int, look f kd = if has kd then some (.bool true) else none) (hP : ∀ b, P b → b ≠ c0 ∧ b ≠ c1) (hb : (0 ≤ fr ∧ fr < un) ∧ un ≤ 366 ∧ 1 ≤ nn ∧ nn ≤ 60 ∧ pp ≤ 8) :
  SeqStopsK Fence.wide mm Try.prog 89 #[.pointer (some ⟨c0, 0, none⟩), .pointer (some ⟨c1, 0, none⟩)] (encQ (l := asksL has fr un nn pp)) (KpQ P mk) (fun xs => xs = (asksL has fr un nn pp).attach) (fun pre => pre <+: (asksL has fr un nn pp).attach) (asksL has fr un nn pp).length w := fun lb J Jx W hW hJ hJx hY h0 => by
 have hrD := hr0.step hW
 have hrK := hr1.step hW
 have hmW := hmk.below hW
 have HP := Lib.hid hP
 have HY := Lib.hid hY
 have HF := Lib.hid hf
 have HMW := Lib.hid hmW
 have H0 : Hid (JA J (tkF (g0 has fr un nn pp) 0) W) := by show J (tA _ []) W; rw [tA_nil]; exact h0
 obtain ⟨⟨b0, b1⟩, b2, b3, b4, b5⟩ := hb
 obtain ⟨M0, hM0⟩ : ∃ M, (un - fr).toNat = M := ⟨_, rfl⟩
 have HM0 := Lib.hid hM0
 have hM0' : (M0 : Int) = un - fr := by omega
 have HZ := zero_bool
 clear hr0 hr1 hmk hP hY hf hJ hJx h0 hmW hM0
 have hKp : Hid (KpQ P mk W W) := KpQ.refl P mk W
 have RD := hrD.keepsO hKp.out.1 (fun ho => (HP.out _ ho).1 rfl)
 have RK := hrK.keepsO hKp.out.1 (fun ho => (HP.out _ ho).2 rfl)
 have e0 := RD.cell 0 rfl
 have e1 := RD.cell 1 rfl
 have e2 := RD.cell 2 rfl
 have e3 := RD.cell 3 rfl
 have f0 := RK.cell 0 rfl
 have l0 := RD.lt
 have l1 := RK.lt
 clear RD RK
 refine callsIn_of_wp Try.func89 rfl trivial ?_ rfl
 simp only [Try.ntmps89, List.size_toArray, List.length_cons, List.length_nil, Nat.reduceAdd, Nat.reduceSub, Array.replicate_succ, Array.replicate_zero, List.push_toArray, List.append_toArray, List.nil_append, List.cons_append]
 gi_wp2_with fail
 clear e0 e1 e2 e3 f0 l0 l1
 clear hKp
 gi_loopw [4, 5, 6, 7] (fun v4 _ _ _ wr => ∃ i : Nat, i ≤ M0 ∧ v4 = .int .i64 (fr + i) ∧ Hid (JA J (tkF (g0 has fr un nn pp) i) wr) ∧ Hid (KpQ P mk W wr)) (fun v4 _ _ _ _ => M0 - ((intOf v4) - fr).toNat)
 case atStart => exact ⟨0, Nat.zero_le _, by simp, H0.out, KpQ.refl _ _ _⟩
 case round =>
  obtain ⟨i, hi, rfl, hJ0, hKp⟩ := hrel
  by_cases hlt0 : i < M0
  ·
   obtain ⟨F, hF⟩ : ∃ F, fr + (i : Int) = F := ⟨_, rfl⟩
   rw [hF]
   have hF1 : F < un := by omega
   have hF0 : 0 ≤ F := by omega
   have HFe := Lib.hid hF
   obtain ⟨M1, hM1⟩ : ∃ M, limN un nn F = M := ⟨_, rfl⟩
   have HM1 := Lib.hid hM1
   unfold limN at hM1
   have RD := hrD.keepsO hKp.out.1 (fun ho => (HP.out _ ho).1 rfl)
   have RK := hrK.keepsO hKp.out.1 (fun ho => (HP.out _ ho).2 rfl)
   have e0 := RD.cell 0 rfl
   have e1 := RD.cell 1 rfl
   have e2 := RD.cell 2 rfl
   have e3 := RD.cell 3 rfl
   have f0 := RK.cell 0 rfl
   have l0 := RD.lt
   have l1 := RK.lt
   clear RD RK
   clear hF
   by_cases hmin : F + nn < un
   ·
    have hM1' : (M1 : Int) = nn := by rw [Int.min_eq_right (by omega)] at hM1; omega
    clear hM1
    gi_wp2_with fail
    clear e0 e1 e2 e3 f0 l0 l1
    gi_loopw [5, 6, 7] (fun v5 _ _ wr => ∃ j : Nat, j ≤ M1 ∧ v5 = .int .i64 (F + 1 + j) ∧ Hid (JA J (tkF (g0 has fr un nn pp) i ++ tkF (g1 has pp F) j) wr) ∧ Hid (KpQ P mk W wr)) (fun v5 _ _ _ => M1 - ((intOf v5) - F - 1).toNat)
    case atStart => exact ⟨0, Nat.zero_le _, by simp, by show JA J _ _; rw [tkF_zero, List.append_nil]; exact hJ0.out, hKp.out⟩
    case round =>
     obtain ⟨j, hj, rfl, hJ1, hKp⟩ := hrel
     by_cases hlt1 : j < M1
     ·
      obtain ⟨U, hU⟩ : ∃ U, F + 1 + (j : Int) = U := ⟨_, rfl⟩
      rw [hU]
      have hU0 : 0 ≤ U := by omega
      have hU1 : U ≤ un := by omega
      have hU2 : U ≤ F + nn := by omega
      have HU := Lib.hid hU
      clear hU
      have RD := hrD.keepsO hKp.out.1 (fun ho => (HP.out _ ho).1 rfl)
      have RK := hrK.keepsO hKp.out.1 (fun ho => (HP.out _ ho).2 rfl)
      have e0 := RD.cell 0 rfl
      have e1 := RD.cell 1 rfl
      have e2 := RD.cell 2 rfl
      have e3 := RD.cell 3 rfl
      have f0 := RK.cell 0 rfl
      have l0 := RD.lt
      have l1 := RK.lt
      clear RD RK
      gi_wp2_with fail
      clear e0 e1 e2 e3 f0 l0 l1
      gi_loopw [6, 7] (fun v6 _ wr => ∃ p : Nat, p ≤ pp ∧ v6 = .int .i64 ((p : Int) + 1) ∧ Hid (JA J (tkF (g0 has fr un nn pp) i ++ (tkF (g1 has pp F) j ++ tkF (g2 has F U) p)) wr) ∧ Hid (KpQ P mk W wr)) (fun v6 _ _ => pp - ((intOf v6) - 1).toNat)
      case atStart => exact ⟨0, Nat.zero_le _, by simp, by show JA J _ _; rw [tkF_zero, List.append_nil]; exact hJ1.out, hKp.out⟩
      case round =>
       obtain ⟨p, hp, rfl, hJ2, hKp⟩ := hrel
       by_cases hlt2 : p < pp
       ·
        obtain ⟨p', hp'⟩ : ∃ p', (p : Int) + 1 = p' := ⟨_, rfl⟩
        rw [hp']
        have hp0 : 1 ≤ p' := by omega
        have hp1 : p' ≤ (pp : Int) := by omega
        have HP' := Lib.hid hp'
        clear hp'
        have RD := hrD.keepsO hKp.out.1 (fun ho => (HP.out _ ho).1 rfl)
        have RK := hrK.keepsO hKp.out.1 (fun ho => (HP.out _ ho).2 rfl)
        have e0 := RD.cell 0 rfl
        have e1 := RD.cell 1 rfl
        have e2 := RD.cell 2 rfl
        have e3 := RD.cell 3 rfl
        have f0 := RK.cell 0 rfl
        have l0 := RD.lt
        have l1 := RK.lt
        clear RD RK
        gi_wp2_with fail
        clear e0 e1 e2 e3 f0 l0 l1
        gi_loopw [7] (fun v7 wr => ∃ q : Nat, q ≤ 20 ∧ v7 = .int .i64 ((q : Int) + 1) ∧ Hid (JA J (tkF (g0 has fr un nn pp) i ++ (tkF (g1 has pp F) j ++ (tkF (g2 has F U) p ++ tkF (g3 has F U p') q))) wr) ∧ Hid (KpQ P mk W wr)) (fun v7 _ => 20 - ((intOf v7) - 1).toNat)
        case atStart => exact ⟨0, Nat.zero_le _, by simp, by show JA J _ _; rw [tkF_zero, List.append_nil]; exact hJ2.out, hKp.out⟩
        case round =>
         obtain ⟨q, hq, rfl, hJ3, hKp⟩ := hrel
         by_cases hlt3 : q < 20
         ·
          obtain ⟨K, hK⟩ : ∃ K, (q : Int) + 1 = K := ⟨_, rfl⟩
          rw [hK]
          have hK0 : 1 ≤ K := by omega
          have hK1 : K ≤ 20 := by omega
          have HKe := Lib.hid hK
          have HIM := Lib.hid (HMW.out.of_block hKp.out.2)
          clear hK
          have RD := hrD.keepsO hKp.out.1 (fun ho => (HP.out _ ho).1 rfl)
          have RK := hrK.keepsO hKp.out.1 (fun ho => (HP.out _ ho).2 rfl)
          have e0 := RD.cell 0 rfl
          have e1 := RD.cell 1 rfl
          have e2 := RD.cell 2 rfl
          have e3 := RD.cell 3 rfl
          have f0 := RK.cell 0 rfl
          have l0 := RD.lt
          have l1 := RK.lt
          clear RD RK
          cases hh : has K with
          | false =>
           have hlu : Sem.run Try.prog (Instr.lookup 46 (.map (some mk)) (.int .i64 K) false) wr = .ok (.bool false) wr := by
            rw [run_lookup_imap Try.underlying46 Try.underlying3 HIM.out _ (HZ _) K false, HF.out, hh]; rfl
           have HN : Hid (JA J (tkF (g0 has fr un nn pp) i ++ (tkF (g1 has pp F) j ++ (tkF (g2 has F U) p ++ tkF (g3 has F U p') (q + 1)))) wr) := by
            show JA J _ _
            rw [tkF_succ, show g3 has F U p' q = [] by unfold g3; rw [HKe.out, hh]; rfl, List.append_nil]
            exact hJ3.out
           clear hh
           gi_wp2_with fail
           refine ⟨fun f h => (by cases h), ?_⟩
           gi_wp2_with fail
           go_roundw
           case rel => exact ⟨q + 1, by omega, by have := HKe.out; rw [show K + 1 = ((q + 1 : Nat) : Int) + 1 by omega], HN.out, hKp.out⟩
           case measure => simp [intOf]; omega
          | true =>
           have hlu : Sem.run Try.prog (Instr.lookup 46 (.map (some mk)) (.int .i64 K) false) wr = .ok (.bool true) wr := by
            rw [run_lookup_imap Try.underlying46 Try.underlying3 HIM.out _ (HZ _) K false, HF.out, hh]; rfl
           have hx : tkF (g3 has F U p') (q + 1) = tkF (g3 has F U p') q ++ [⟨K, F, U, p'⟩] := by
            rw [tkF_succ, show g3 has F U p' q = [⟨K, F, U, p'⟩] by unfold g3; rw [HKe.out, hh]; rfl]
           obtain ⟨pre, hpre⟩ : ∃ pre, tkF (g0 has fr un nn pp) i ++ (tkF (g1 has pp F) j ++ (tkF (g2 has F U) p ++ tkF (g3 has F U p') q)) = pre := ⟨_, rfl⟩
           have hpx : pre ++ [⟨K, F, U, p'⟩] = tkF (g0 has fr un nn pp) i ++ (tkF (g1 has pp F) j ++ (tkF (g2 has F U) p ++ tkF (g3 has F U p') (q + 1))) := by
            rw [hx, ← hpre]
            simp only [List.append_assoc]
           have hpf : pre ++ [⟨K, F, U, p'⟩] <+: asksL has fr un nn pp := by
            rw [hpx]
            have a3 : tkF (g3 has F U p') (q + 1) <+: g2 has F U p := by
             unfold g2
             rw [HP'.out]
             exact tkF_prefix _ _ 20 (by omega)
            have a2 : tkF (g2 has F U) p ++ tkF (g3 has F U p') (q + 1) <+: g1 has pp F j := by
             unfold g1
             rw [HU.out]
             exact tkF_in _ hlt2 a3
            have a1 : tkF (g1 has pp F) j ++ (tkF (g2 has F U) p ++ tkF (g3 has F U p') (q + 1)) <+: g0 has fr un nn pp i := by
             unfold g0
             rw [HFe.out]
             exact tkF_in _ (by rw [HM1.out]; exact hlt1) a2
            unfold asksL
            exact tkF_in _ (by rw [HM0.out]; exact hlt0) a1
           rw [hpre] at hJ3
           have HPX := Lib.hid hpx
           have HPF := Lib.hid hpf
           have hlen : pre.length < (asksL has fr un nn pp).length := by
            have h1 := hpf.length_le
            simp at h1
            omega
           have hsn := tA_snoc hpf
           have HSN := Lib.hid hsn
           obtain ⟨fn, tmps, assign, body, hy, hR⟩ := HY.out _ ⟨⟨K, F, U, p'⟩, pre_mem hpf⟩ wr hJ3.out (by rw [tA_length ((List.prefix_append _ _).trans hpf)]; exact hlen)
           dsimp only [encQ, AskV.key] at hy
           rw [← hsn] at hR
           clear hh hx hpre hpx hlen hsn
           gi_wp2_with fail
           refine hR.mono ?_
           rintro e W3 (⟨rfl, hJ4, hk4⟩ | ⟨rfl, hJx4⟩)
           ·
            have H3 : Hid (JA J (tkF (g0 has fr un nn pp) i ++ (tkF (g1 has pp F) j ++ (tkF (g2 has F U) p ++ tkF (g3 has F U p') (q + 1)))) W3) := by
             show J (tA _ _) _
             rw [← HPX.out]; exact hJ4
            have H4 := Lib.hid (hKp.out.trans hk4)
            clear hJ4 hk4
            gi_wp2_with fail
            go_roundw
            case rel => exact ⟨q + 1, by omega, by have := HKe.out; rw [show K + 1 = ((q + 1 : Nat) : Int) + 1 by omega], H3.out, H4.out⟩
            case measure => simp [intOf]; omega
           ·
            have H3 := Lib.hid hJx4
            clear hJx4
            gi_wp2_with fail
            refine bodyPost_ret (results_none rfl _ _ _) rfl ?_
            exact ⟨⟨_, rfl⟩, .inr ⟨_, tA_prefix _ _, H3.out⟩⟩
         ·
          have hq20 : ¬ ((q : Int) + 1 ≤ 20) := by omega
          have HN : Hid (JA J (tkF (g0 has fr un nn pp) i ++ (tkF (g1 has pp F) j ++ tkF (g2 has F U) (p + 1))) wr) := by
           show JA J _ _
           rw [tkF_succ, show g2 has F U p = tkF (g3 has F U p') q by unfold g2; rw [HP'.out, show q = 20 by omega]]
           exact hJ3.out
          have RD := hrD.keepsO hKp.out.1 (fun ho => (HP.out _ ho).1 rfl)
          have RK := hrK.keepsO hKp.out.1 (fun ho => (HP.out _ ho).2 rfl)
          have e0 := RD.cell 0 rfl
          have e1 := RD.cell 1 rfl
          have e2 := RD.cell 2 rfl
          have e3 := RD.cell 3 rfl
          have f0 := RK.cell 0 rfl
          have l0 := RD.lt
          have l1 := RK.lt
          clear RD RK
          gi_wp2_with fail
          go_roundw
          case rel => exact ⟨p + 1, by omega, by have := HP'.out; rw [show p' + 1 = ((p + 1 : Nat) : Int) + 1 by omega], HN.out, hKp.out⟩
          case measure => have := HP'.out; simp [intOf]; omega
       ·
        have hp20 : ¬ ((p : Int) + 1 ≤ (pp : Int)) := by omega
        have HN : Hid (JA J (tkF (g0 has fr un nn pp) i ++ tkF (g1 has pp F) (j + 1)) wr) := by
         show JA J _ _
         rw [tkF_succ, show g1 has pp F j = tkF (g2 has F U) p by unfold g1; rw [HU.out, show p = pp by omega]]
         exact hJ2.out
        have RD := hrD.keepsO hKp.out.1 (fun ho => (HP.out _ ho).1 rfl)
        have RK := hrK.keepsO hKp.out.1 (fun ho => (HP.out _ ho).2 rfl)
        have e0 := RD.cell 0 rfl
        have e1 := RD.cell 1 rfl
        have e2 := RD.cell 2 rfl
        have e3 := RD.cell 3 rfl
        have f0 := RK.cell 0 rfl
        have l0 := RD.lt
        have l1 := RK.lt
        clear RD RK
        gi_wp2_with fail
        go_roundw
        case rel => exact ⟨j + 1, by omega, by have := HU.out; rw [show U + 1 = F + 1 + ((j + 1 : Nat) : Int) by omega], HN.out, hKp.out⟩
        case measure => have := HU.out; simp [intOf]; omega
     ·
      have hj20 : ¬ (F + 1 + (j : Int) ≤ F + nn) := by omega
      have HN : Hid (JA J (tkF (g0 has fr un nn pp) (i + 1)) wr) := by
       show JA J _ _
       rw [tkF_succ, show g0 has fr un nn pp i = tkF (g1 has pp F) j by unfold g0; rw [HFe.out, HM1.out, show j = M1 by omega]]
       exact hJ1.out
      have RD := hrD.keepsO hKp.out.1 (fun ho => (HP.out _ ho).1 rfl)
      have RK := hrK.keepsO hKp.out.1 (fun ho => (HP.out _ ho).2 rfl)
      have e0 := RD.cell 0 rfl
      have e1 := RD.cell 1 rfl
      have e2 := RD.cell 2 rfl
      have e3 := RD.cell 3 rfl
      have f0 := RK.cell 0 rfl
      have l0 := RD.lt
      have l1 := RK.lt
      clear RD RK
      gi_wp2_with fail
      go_roundw
      case rel => exact ⟨i + 1, by omega, by have := HFe.out; rw [show F + 1 = fr + ((i + 1 : Nat) : Int) by omega], HN.out, hKp.out⟩
      case measure => have := HFe.out; simp [intOf]; omega
   ·
    have hM1' : (M1 : Int) = un - F := by rw [Int.min_eq_left (by omega)] at hM1; omega
    clear hM1
    gi_wp2_with fail
    clear e0 e1 e2 e3 f0 l0 l1
    gi_loopw [5, 6, 7] (fun v5 _ _ wr => ∃ j : Nat, j ≤ M1 ∧ v5 = .int .i64 (F + 1 + j) ∧ Hid (JA J (tkF (g0 has fr un nn pp) i ++ tkF (g1 has pp F) j) wr) ∧ Hid (KpQ P mk W wr)) (fun v5 _ _ _ => M1 - ((intOf v5) - F - 1).toNat)
    case atStart => exact ⟨0, Nat.zero_le _, by simp, by show JA J _ _; rw [tkF_zero, List.append_nil]; exact hJ0.out, hKp.out⟩
    case round =>
     obtain ⟨j, hj, rfl, hJ1, hKp⟩ := hrel
     by_cases hlt1 : j < M1
     ·
      obtain ⟨U, hU⟩ : ∃ U, F + 1 + (j : Int) = U := ⟨_, rfl⟩
      rw [hU]
      have hU0 : 0 ≤ U := by omega
      have hU1 : U ≤ un := by omega
      have hU2 : U ≤ F + nn := by omega
      have HU := Lib.hid hU
      clear hU
      have RD := hrD.keepsO hKp.out.1 (fun ho => (HP.out _ ho).1 rfl)
      have RK := hrK.keepsO hKp.out.1 (fun ho => (HP.out _ ho).2 rfl)
      have e0 := RD.cell 0 rfl
      have e1 := RD.cell 1 rfl
      have e2 := RD.cell 2 rfl
      have e3 := RD.cell 3 rfl
      have f0 := RK.cell 0 rfl
      have l0 := RD.lt
      have l1 := RK.lt
      clear RD RK
      gi_wp2_with fail
      clear e0 e1 e2 e3 f0 l0 l1
      gi_loopw [6, 7] (fun v6 _ wr => ∃ p : Nat, p ≤ pp ∧ v6 = .int .i64 ((p : Int) + 1) ∧ Hid (JA J (tkF (g0 has fr un nn pp) i ++ (tkF (g1 has pp F) j ++ tkF (g2 has F U) p)) wr) ∧ Hid (KpQ P mk W wr)) (fun v6 _ _ => pp - ((intOf v6) - 1).toNat)
      case atStart => exact ⟨0, Nat.zero_le _, by simp, by show JA J _ _; rw [tkF_zero, List.append_nil]; exact hJ1.out, hKp.out⟩
      case round =>
       obtain ⟨p, hp, rfl, hJ2, hKp⟩ := hrel
       by_cases hlt2 : p < pp
       ·
        obtain ⟨p', hp'⟩ : ∃ p', (p : Int) + 1 = p' := ⟨_, rfl⟩
        rw [hp']
        have hp0 : 1 ≤ p' := by omega
        have hp1 : p' ≤ (pp : Int) := by omega
        have HP' := Lib.hid hp'
        clear hp'
        have RD := hrD.keepsO hKp.out.1 (fun ho => (HP.out _ ho).1 rfl)
        have RK := hrK.keepsO hKp.out.1 (fun ho => (HP.out _ ho).2 rfl)
        have e0 := RD.cell 0 rfl
        have e1 := RD.cell 1 rfl
        have e2 := RD.cell 2 rfl
        have e3 := RD.cell 3 rfl
        have f0 := RK.cell 0 rfl
        have l0 := RD.lt
        have l1 := RK.lt
        clear RD RK
        gi_wp2_with fail
        clear e0 e1 e2 e3 f0 l0 l1
        gi_loopw [7] (fun v7 wr => ∃ q : Nat, q ≤ 20 ∧ v7 = .int .i64 ((q : Int) + 1) ∧ Hid (JA J (tkF (g0 has fr un nn pp) i ++ (tkF (g1 has pp F) j ++ (tkF (g2 has F U) p ++ tkF (g3 has F U p') q))) wr) ∧ Hid (KpQ P mk W wr)) (fun v7 _ => 20 - ((intOf v7) - 1).toNat)
        case atStart => exact ⟨0, Nat.zero_le _, by simp, by show JA J _ _; rw [tkF_zero, List.append_nil]; exact hJ2.out, hKp.out⟩
        case round =>
         obtain ⟨q, hq, rfl, hJ3, hKp⟩ := hrel
         by_cases hlt3 : q < 20
         ·
          obtain ⟨K, hK⟩ : ∃ K, (q : Int) + 1 = K := ⟨_, rfl⟩
          rw [hK]
          have hK0 : 1 ≤ K := by omega
          have hK1 : K ≤ 20 := by omega
          have HKe := Lib.hid hK
          have HIM := Lib.hid (HMW.out.of_block hKp.out.2)
          clear hK
          have RD := hrD.keepsO hKp.out.1 (fun ho => (HP.out _ ho).1 rfl)
          have RK := hrK.keepsO hKp.out.1 (fun ho => (HP.out _ ho).2 rfl)
          have e0 := RD.cell 0 rfl
          have e1 := RD.cell 1 rfl
          have e2 := RD.cell 2 rfl
          have e3 := RD.cell 3 rfl
          have f0 := RK.cell 0 rfl
          have l0 := RD.lt
          have l1 := RK.lt
          clear RD RK
          cases hh : has K with
          | false =>
           have hlu : Sem.run Try.prog (Instr.lookup 46 (.map (some mk)) (.int .i64 K) false) wr = .ok (.bool false) wr := by
            rw [run_lookup_imap Try.underlying46 Try.underlying3 HIM.out _ (HZ _) K false, HF.out, hh]; rfl
           have HN : Hid (JA J (tkF (g0 has fr un nn pp) i ++ (tkF (g1 has pp F) j ++ (tkF (g2 has F U) p ++ tkF (g3 has F U p') (q + 1)))) wr) := by
            show JA J _ _
            rw [tkF_succ, show g3 has F U p' q = [] by unfold g3; rw [HKe.out, hh]; rfl, List.append_nil]
            exact hJ3.out
           clear hh
           gi_wp2_with fail
           refine ⟨fun f h => (by cases h), ?_⟩
           gi_wp2_with fail
           go_roundw
           case rel => exact ⟨q + 1, by omega, by have := HKe.out; rw [show K + 1 = ((q + 1 : Nat) : Int) + 1 by omega], HN.out, hKp.out⟩
           case measure => simp [intOf]; omega
          | true =>
           have hlu : Sem.run Try.prog (Instr.lookup 46 (.map (some mk)) (.int .i64 K) false) wr = .ok (.bool true) wr := by
            rw [run_lookup_imap Try.underlying46 Try.underlying3 HIM.out _ (HZ _) K false, HF.out, hh]; rfl
           have hx : tkF (g3 has F U p') (q + 1) = tkF (g3 has F U p') q ++ [⟨K, F, U, p'⟩] := by
            rw [tkF_succ, show g3 has F U p' q = [⟨K, F, U, p'⟩] by unfold g3; rw [HKe.out, hh]; rfl]
           obtain ⟨pre, hpre⟩ : ∃ pre, tkF (g0 has fr un nn pp) i ++ (tkF (g1 has pp F) j ++ (tkF (g2 has F U) p ++ tkF (g3 has F U p') q)) = pre := ⟨_, rfl⟩
           have hpx : pre ++ [⟨K, F, U, p'⟩] = tkF (g0 has fr un nn pp) i ++ (tkF (g1 has pp F) j ++ (tkF (g2 has F U) p ++ tkF (g3 has F U p') (q + 1))) := by
            rw [hx, ← hpre]
            simp only [List.append_assoc]
           have hpf : pre ++ [⟨K, F, U, p'⟩] <+: asksL has fr un nn pp := by
            rw [hpx]
            have a3 : tkF (g3 has F U p') (q + 1) <+: g2 has F U p := by
             unfold g2
             rw [HP'.out]
             exact tkF_prefix _ _ 20 (by omega)
            have a2 : tkF (g2 has F U) p ++ tkF (g3 has F U p') (q + 1) <+: g1 has pp F j := by
             unfold g1
             rw [HU.out]
             exact tkF_in _ hlt2 a3
            have a1 : tkF (g1 has pp F) j ++ (tkF (g2 has F U) p ++ tkF (g3 has F U p') (q + 1)) <+: g0 has fr un nn pp i := by
             unfold g0
             rw [HFe.out]
             exact tkF_in _ (by rw [HM1.out]; exact hlt1) a2
            unfold asksL
            exact tkF_in _ (by rw [HM0.out]; exact hlt0) a1
           rw [hpre] at hJ3
           have HPX := Lib.hid hpx
           have HPF := Lib.hid hpf
           have hlen : pre.length < (asksL has fr un nn pp).length := by
            have h1 := hpf.length_le
            simp at h1
            omega
           have hsn := tA_snoc hpf
           have HSN := Lib.hid hsn
           obtain ⟨fn, tmps, assign, body, hy, hR⟩ := HY.out _ ⟨⟨K, F, U, p'⟩, pre_mem hpf⟩ wr hJ3.out (by rw [tA_length ((List.prefix_append _ _).trans hpf)]; exact hlen)
           dsimp only [encQ, AskV.key] at hy
           rw [← hsn] at hR
           clear hh hx hpre hpx hlen hsn
           gi_wp2_with fail
           refine hR.mono ?_
           rintro e W3 (⟨rfl, hJ4, hk4⟩ | ⟨rfl, hJx4⟩)
           ·
            have H3 : Hid (JA J (tkF (g0 has fr un nn pp) i ++ (tkF (g1 has pp F) j ++ (tkF (g2 has F U) p ++ tkF (g3 has F U p') (q + 1)))) W3) := by
             show J (tA _ _) _
             rw [← HPX.out]; exact hJ4
            have H4 := Lib.hid (hKp.out.trans hk4)
            clear hJ4 hk4
            gi_wp2_with fail
            go_roundw
            case rel => exact ⟨q + 1, by omega, by have := HKe.out; rw [show K + 1 = ((q + 1 : Nat) : Int) + 1 by omega], H3.out, H4.out⟩
            case measure => simp [intOf]; omega
           ·
            have H3 := Lib.hid hJx4
            clear hJx4
            gi_wp2_with fail
            refine bodyPost_ret (results_none rfl _ _ _) rfl ?_
            exact ⟨⟨_, rfl⟩, .inr ⟨_, tA_prefix _ _, H3.out⟩⟩
         ·
          have hq20 : ¬ ((q : Int) + 1 ≤ 20) := by omega
          have HN : Hid (JA J (tkF (g0 has fr un nn pp) i ++ (tkF (g1 has pp F) j ++ tkF (g2 has F U) (p + 1))) wr) := by
           show JA J _ _
           rw [tkF_succ, show g2 has F U p = tkF (g3 has F U p') q by unfold g2; rw [HP'.out, show q = 20 by omega]]
           exact hJ3.out
          have RD := hrD.keepsO hKp.out.1 (fun ho => (HP.out _ ho).1 rfl)
          have RK := hrK.keepsO hKp.out.1 (fun ho => (HP.out _ ho).2 rfl)
          have e0 := RD.cell 0 rfl
          have e1 := RD.cell 1 rfl
          have e2 := RD.cell 2 rfl
          have e3 := RD.cell 3 rfl
          have f0 := RK.cell 0 rfl
          have l0 := RD.lt
          have l1 := RK.lt
          clear RD RK
          gi_wp2_with fail
          go_roundw
          case rel => exact ⟨p + 1, by omega, by have := HP'.out; rw [show p' + 1 = ((p + 1 : Nat) : Int) + 1 by omega], HN.out, hKp.out⟩
          case measure => have := HP'.out; simp [intOf]; omega
       ·
        have hp20 : ¬ ((p : Int) + 1 ≤ (pp : Int)) := by omega
        have HN : Hid (JA J (tkF (g0 has fr un nn pp) i ++ tkF (g1 has pp F) (j + 1)) wr) := by
         show JA J _ _
         rw [tkF_succ, show g1 has pp F j = tkF (g2 has F U) p by unfold g1; rw [HU.out, show p = pp by omega]]
         exact hJ2.out
        have RD := hrD.keepsO hKp.out.1 (fun ho => (HP.out _ ho).1 rfl)
        have RK := hrK.keepsO hKp.out.1 (fun ho => (HP.out _ ho).2 rfl)
        have e0 := RD.cell 0 rfl
        have e1 := RD.cell 1 rfl
        have e2 := RD.cell 2 rfl
        have e3 := RD.cell 3 rfl
        have f0 := RK.cell 0 rfl
        have l0 := RD.lt
        have l1 := RK.lt
        clear RD RK
        gi_wp2_with fail
        go_roundw
        case rel => exact ⟨j + 1, by omega, by have := HU.out; rw [show U + 1 = F + 1 + ((j + 1 : Nat) : Int) by omega], HN.out, hKp.out⟩
        case measure => have := HU.out; simp [intOf]; omega
     ·
      have hj20 : ¬ (F + 1 + (j : Int) ≤ un) := by omega
      have HN : Hid (JA J (tkF (g0 has fr un nn pp) (i + 1)) wr) := by
       show JA J _ _
       rw [tkF_succ, show g0 has fr un nn pp i = tkF (g1 has pp F) j by unfold g0; rw [HFe.out, HM1.out, show j = M1 by omega]]
       exact hJ1.out
      have RD := hrD.keepsO hKp.out.1 (fun ho => (HP.out _ ho).1 rfl)
      have RK := hrK.keepsO hKp.out.1 (fun ho => (HP.out _ ho).2 rfl)
      have e0 := RD.cell 0 rfl
      have e1 := RD.cell 1 rfl
      have e2 := RD.cell 2 rfl
      have e3 := RD.cell 3 rfl
      have f0 := RK.cell 0 rfl
      have l0 := RD.lt
      have l1 := RK.lt
      clear RD RK
      gi_wp2_with fail
      go_roundw
      case rel => exact ⟨i + 1, by omega, by have := HFe.out; rw [show F + 1 = fr + ((i + 1 : Nat) : Int) by omega], HN.out, hKp.out⟩
      case measure => have := HFe.out; simp [intOf]; omega
  ·
   obtain rfl : M0 = i := by omega
   have hlt' : ¬ (fr + (M0 : Int) < un) := by omega
   have e : asksL has fr un nn pp = tkF (g0 has fr un nn pp) M0 := by unfold asksL; rw [HM0.out]
   have h3 := hJ0.out
   rw [← e] at h3
   have H3 : Hid (JA J (asksL has fr un nn pp) wr) := h3
   clear e h3
   have RD := hrD.keepsO hKp.out.1 (fun ho => (HP.out _ ho).1 rfl)
   have RK := hrK.keepsO hKp.out.1 (fun ho => (HP.out _ ho).2 rfl)
   have e0 := RD.cell 0 rfl
   have e1 := RD.cell 1 rfl
   have e2 := RD.cell 2 rfl
   have e3 := RD.cell 3 rfl
   have f0 := RK.cell 0 rfl
   have l0 := RD.lt
   have l1 := RK.lt
   clear RD RK
   gi_wp2_with fail
   go_end0
   refine ⟨⟨_, rfl⟩, .inl ?_⟩
   rw [← tA_all]
   exact H3.out
end
section
set_option linter.unusedSimpArgs false
set_option linter.unusedVariables false
open Go.RowKit
set_option maxHeartbeats 800000 in
theorem swithin_any (n lo hi : Int) (w : World) :
  Calls Try.prog 60 #[.int .i64 n, .int .i64 lo, .int .i64 hi] w fun e w' => e = .returned (.bool (inE n lo hi)) ∧ Below w.heap.size w w' := by
 by_cases h : lo ≤ n
 ·
  have e : inE n lo hi = decide (n ≤ hi) := by unfold inE; simp [h]
  rw [e]
  go_enter Try.func60, Try.ntmps60
  go_wp2_with fail
  go_ret
  exact ⟨rfl, Below.refl _ _⟩
 ·
  have e : inE n lo hi = false := by unfold inE; simp [h]
  rw [e]
  go_enter Try.func60, Try.ntmps60
  go_wp2_with fail
  go_ret
  exact ⟨rfl, Below.refl _ _⟩
theorem swithin_p (n lo hi : Int) (p : Bool) (hp : inE n lo hi = p) (w : World) :
  Calls Try.prog 60 #[.int .i64 n, .int .i64 lo, .int .i64 hi] w fun e w' => e = .returned (.bool p) ∧ Below w.heap.size w w' := by
 subst hp; exact swithin_any n lo hi w
set_option maxRecDepth 100000 in
set_option maxHeartbeats 1600000 in
theorem sright_any (k fr un ps : Int) (w : World) :
  Calls Try.prog 87 #[.agg #[.int .i64 k, .int .i64 fr, .int .i64 un, .int .i64 ps]] w fun e w' => e = .returned (.bool (askB ⟨k, fr, un, ps⟩)) ∧ Below w.heap.size w w' := by
 by_cases h1 : 0 ≤ fr
 ·
  by_cases h2 : fr < un
  ·
   by_cases h3 : un ≤ 366
   ·
    by_cases h4 : un - fr ≤ 60
    ·
     obtain ⟨p1, hp1⟩ : ∃ p, inE k 1 20 = p := ⟨_, rfl⟩
     obtain ⟨p2, hp2⟩ : ∃ p, inE ps 1 8 = p := ⟨_, rfl⟩
     have e : askB ⟨k, fr, un, ps⟩ = (p1 && p2) := by unfold askB; simp [h1, h2, h3, h4, hp1, hp2]
     rw [e]
     have HP1 := Lib.hid hp1
     have HP2 := Lib.hid hp2
     clear hp1 hp2 e
     go_enter Try.func87, Try.ntmps87
     go_wp2_with fail
     refine (swithin_p k 1 20 p1 HP1.out _).mono ?_
     rintro e w1 ⟨rfl, hb1⟩
     have R_a_1 : Row w1 (w.heap.size) [.int .i64 (k), .int .i64 (fr), .int .i64 (un), .int .i64 (ps)] := by (repeat' (first | (with_reducible assumption) | (with_reducible refine Row.new' _ _ _ (by first | rfl | (simp; done) | omega)) | (with_reducible first | refine Row.alloc ?_ _ | refine Row.drew ?_ | refine Row.step ?_ (by assumption) | refine Row.drewN ?_ _) | (with_reducible refine Row.set2' ?_ _ _; first | exact ⟨_, _, by assumption⟩ | exact ⟨_, _, Row.alloc (by assumption) _⟩) | (with_reducible refine Row.other ?_ (by first | omega | (simp; omega)) _)))
     have c_a_0_1 := R_a_1.cell 0 rfl
     have c_a_1_1 := R_a_1.cell 1 rfl
     have c_a_2_1 := R_a_1.cell 2 rfl
     have c_a_3_1 := R_a_1.cell 3 rfl
     have l_a_1 := R_a_1.lt
     have HB1 : Below w.heap.size w w1 := by (repeat' (first | (with_reducible first | exact Below.refl _ _ | assumption | exact Bw.out (by assumption) | refine bw_alloc ?_ _ | refine bw_step ?_ (by assumption) | refine Below.alloc ?_ ?_ _ | refine Below.drew ?_ | refine below_drewN ?_ _ | refine Below.setCell ?_ ?_ _ | refine below_step ?_ (by assumption) ?_ | exact Nat.le_refl _) | omega | (simp; omega) | (simp; done)))
     cases p1 with
     | false =>
      go_wp2_with fail
      go_ret
      refine ⟨(by first | rfl | exact ret_bool (by first | rfl | (simp; done) | (simp; omega))), ?_⟩
      (repeat' (first | (with_reducible first | exact Below.refl _ _ | assumption | exact Bw.out (by assumption) | refine bw_alloc ?_ _ | refine bw_step ?_ (by assumption) | refine Below.alloc ?_ ?_ _ | refine Below.drew ?_ | refine below_drewN ?_ _ | refine Below.setCell ?_ ?_ _ | refine below_step ?_ (by assumption) ?_ | exact Nat.le_refl _) | omega | (simp; omega) | (simp; done)))
     | true =>
      go_wp2_with fail
      refine (swithin_p ps 1 8 p2 HP2.out _).mono ?_
      rintro e w2 ⟨rfl, hb2⟩
      have R_a_2 : Row w2 (w.heap.size) [.int .i64 (k), .int .i64 (fr), .int .i64 (un), .int .i64 (ps)] := by (repeat' (first | (with_reducible assumption) | (with_reducible refine Row.new' _ _ _ (by first | rfl | (simp; done) | omega)) | (with_reducible first | refine Row.alloc ?_ _ | refine Row.drew ?_ | refine Row.step ?_ (by assumption) | refine Row.drewN ?_ _) | (with_reducible refine Row.set2' ?_ _ _; first | exact ⟨_, _, by assumption⟩ | exact ⟨_, _, Row.alloc (by assumption) _⟩) | (with_reducible refine Row.other ?_ (by first | omega | (simp; omega)) _)))
      have c_a_0_2 := R_a_2.cell 0 rfl
      have c_a_1_2 := R_a_2.cell 1 rfl
      have c_a_2_2 := R_a_2.cell 2 rfl
      have c_a_3_2 := R_a_2.cell 3 rfl
      have l_a_2 := R_a_2.lt
      have HB2 : Below w.heap.size w w2 := by (repeat' (first | (with_reducible first | exact Below.refl _ _ | assumption | exact Bw.out (by assumption) | refine bw_alloc ?_ _ | refine bw_step ?_ (by assumption) | refine Below.alloc ?_ ?_ _ | refine Below.drew ?_ | refine below_drewN ?_ _ | refine Below.setCell ?_ ?_ _ | refine below_step ?_ (by assumption) ?_ | exact Nat.le_refl _) | omega | (simp; omega) | (simp; done)))
      clear R_a_1 c_a_0_1 c_a_1_1 c_a_2_1 c_a_3_1 hb1 HB1
      go_wp2_with fail
      go_ret
      refine ⟨(by first | rfl | exact ret_bool (by first | rfl | (simp; done) | (simp; omega))), ?_⟩
      (repeat' (first | (with_reducible first | exact Below.refl _ _ | assumption | exact Bw.out (by assumption) | refine bw_alloc ?_ _ | refine bw_step ?_ (by assumption) | refine Below.alloc ?_ ?_ _ | refine Below.drew ?_ | refine below_drewN ?_ _ | refine Below.setCell ?_ ?_ _ | refine below_step ?_ (by assumption) ?_ | exact Nat.le_refl _) | omega | (simp; omega) | (simp; done)))
    ·
     have e : askB ⟨k, fr, un, ps⟩ = false := by unfold askB; simp [h4]
     rw [e]
     have h4' : 60 < un - fr := by omega
     clear h4
     go_enter Try.func87, Try.ntmps87
     go_wp2_with fail
     go_ret
     refine ⟨(by first | rfl | exact ret_bool (by first | rfl | (simp; done) | (simp; omega))), ?_⟩
     (repeat' (first | (with_reducible first | exact Below.refl _ _ | assumption | exact Bw.out (by assumption) | refine bw_alloc ?_ _ | refine bw_step ?_ (by assumption) | refine Below.alloc ?_ ?_ _ | refine Below.drew ?_ | refine below_drewN ?_ _ | refine Below.setCell ?_ ?_ _ | refine below_step ?_ (by assumption) ?_ | exact Nat.le_refl _) | omega | (simp; omega) | (simp; done)))
   ·
    have e : askB ⟨k, fr, un, ps⟩ = false := by unfold askB; simp [h3]
    rw [e]
    go_enter Try.func87, Try.ntmps87
    go_wp2_with fail
    go_ret
    refine ⟨(by first | rfl | exact ret_bool (by first | rfl | (simp; done) | (simp; omega))), ?_⟩
    (repeat' (first | (with_reducible first | exact Below.refl _ _ | assumption | exact Bw.out (by assumption) | refine bw_alloc ?_ _ | refine bw_step ?_ (by assumption) | refine Below.alloc ?_ ?_ _ | refine Below.drew ?_ | refine below_drewN ?_ _ | refine Below.setCell ?_ ?_ _ | refine below_step ?_ (by assumption) ?_ | exact Nat.le_refl _) | omega | (simp; omega) | (simp; done)))
  ·
   have e : askB ⟨k, fr, un, ps⟩ = false := by unfold askB; simp [h2]
   rw [e]
   go_enter Try.func87, Try.ntmps87
   go_wp2_with fail
   go_ret
   refine ⟨(by first | rfl | exact ret_bool (by first | rfl | (simp; done) | (simp; omega))), ?_⟩
   (repeat' (first | (with_reducible first | exact Below.refl _ _ | assumption | exact Bw.out (by assumption) | refine bw_alloc ?_ _ | refine bw_step ?_ (by assumption) | refine Below.alloc ?_ ?_ _ | refine Below.drew ?_ | refine below_drewN ?_ _ | refine Below.setCell ?_ ?_ _ | refine below_step ?_ (by assumption) ?_ | exact Nat.le_refl _) | omega | (simp; omega) | (simp; done)))
 ·
  have e : askB ⟨k, fr, un, ps⟩ = false := by unfold askB; simp [h1]
  rw [e]
  go_enter Try.func87, Try.ntmps87
  go_wp2_with fail
  go_ret
  refine ⟨(by first | rfl | exact ret_bool (by first | rfl | (simp; done) | (simp; omega))), ?_⟩
  (repeat' (first | (with_reducible first | exact Below.refl _ _ | assumption | exact Bw.out (by assumption) | refine bw_alloc ?_ _ | refine bw_step ?_ (by assumption) | refine Below.alloc ?_ ?_ _ | refine Below.drew ?_ | refine below_drewN ?_ _ | refine Below.setCell ?_ ?_ _ | refine below_step ?_ (by assumption) ?_ | exact Nat.le_refl _) | omega | (simp; omega) | (simp; done)))
theorem sright_p (k fr un ps : Int) (p : Bool) (hp : askB ⟨k, fr, un, ps⟩ = p) (w : World) :
  Calls Try.prog 87 #[.agg #[.int .i64 k, .int .i64 fr, .int .i64 un, .int .i64 ps]] w fun e w' => e = .returned (.bool p) ∧ Below w.heap.size w w' := by
 subst hp; exact sright_any k fr un ps w
/-- Whether an ask is undercut: where, what it costs as a whole, in parts. -/
def UndAt (l : List RateV) (a : AskV) : Option (Int × Int × Int) → Prop
 | none => hasQ l a = false ∨ ∃ V, RecW l a V ∧ hasQ l a = true ∧ costQ l a ≤ (V a.fr).c
 | some (z, C, x) => ∃ V t, RecW l a V ∧ hasQ l a = true ∧ costQ l a = C ∧ (V a.fr).c = x ∧ x < C ∧ (V a.fr).cuts = z :: t
def outS (a : AskV) : Option (Int × Int × Int) → List Int
 | none => [0, 0, 0, 0, 0, 0, 0]
 | some (z, C, x) => [a.k, a.fr, a.un, a.ps, z, C, x]
def aggI (l : List Int) : Value := .agg (l.map (Value.int .i64)).toArray
theorem undercut_p (w0 : World) (ad : Option Addr) (n cap : Nat) (l : List RateV) (a : AskV) (hs : SlR w0 ad n l) (hn : n ≤ 9223372036854775807) (hb : (0 ≤ a.fr ∧ a.fr < a.un) ∧ a.un ≤ 366) (m : Nat) (hm0 : w0.heap.size ≤ m)
  (f : List AskV) (w : World) (hb0 : Below w0.heap.size w0 w) (hk : KMap (costV l) w m f) (o : Option (Int × Int × Int)) (ho : UndAt l a o) :
  Calls Try.prog 62 #[.agg #[.slice ad n cap, .map (some m)], a.key] w fun e w' => e = .returned (.tuple #[aggI (outS a o), .bool o.isSome]) ∧ (∃ f', KMap (costV l) w' m f') ∧ Ch (fun b => b = m) w w' := by
 obtain ⟨k, fr, un, ps⟩ := a
 obtain ⟨⟨h0, h1⟩, h2⟩ := hb
 cases o with
 | none =>
  rcases ho with h | ⟨V, hV, hB, hx⟩
  ·
   exact undercut_none w0 ad n cap l k fr un ps hs hn m hm0 f w hb0 hk (costQ l ⟨k, fr, un, ps⟩) _ (by unfold costV; rfl) h
  ·
   exact undercut_not w0 ad n cap l k fr un ps V hs hn hV h0 h1 h2 m hm0 f w hb0 hk (costQ l ⟨k, fr, un, ps⟩) _ (by unfold costV; rfl) hB _ rfl hx
 | some p =>
  obtain ⟨z, C, x⟩ := p
  obtain ⟨V, t, hV, hB, hC, hx, hlt, hz⟩ := ho
  subst hC hx
  exact undercut_yes w0 ad n cap l k fr un ps V hs hn hV h0 h1 h2 m hm0 f w hb0 hk (costQ l ⟨k, fr, un, ps⟩) _ (by unfold costV; rfl) hB _ rfl hlt z t hz
theorem undercut_pn (w0 : World) (ad : Option Addr) (n cap : Nat) (l : List RateV) (k fr un ps : Int) (hs : SlR w0 ad n l) (hn : n ≤ 9223372036854775807) (hb : (0 ≤ fr ∧ fr < un) ∧ un ≤ 366) (m : Nat) (hm0 : w0.heap.size ≤ m)
  (f : List AskV) (w : World) (hb0 : Below w0.heap.size w0 w) (hk : KMap (costV l) w m f) (ho : UndAt l ⟨k, fr, un, ps⟩ none) :
  Calls Try.prog 62 #[.agg #[.slice ad n cap, .map (some m)], .agg #[.int .i64 k, .int .i64 fr, .int .i64 un, .int .i64 ps]] w fun e w' => e = .returned (.tuple #[.agg #[.int .i64 0, .int .i64 0, .int .i64 0, .int .i64 0, .int .i64 0, .int .i64 0, .int .i64 0], .bool false]) ∧ (∃ f', KMap (costV l) w' m f') ∧ Ch (fun b => b = m) w w' :=
 undercut_p w0 ad n cap l ⟨k, fr, un, ps⟩ hs hn hb m hm0 f w hb0 hk none ho
theorem undercut_py (w0 : World) (ad : Option Addr) (n cap : Nat) (l : List RateV) (k fr un ps : Int) (hs : SlR w0 ad n l) (hn : n ≤ 9223372036854775807) (hb : (0 ≤ fr ∧ fr < un) ∧ un ≤ 366) (m : Nat) (hm0 : w0.heap.size ≤ m)
  (f : List AskV) (w : World) (hb0 : Below w0.heap.size w0 w) (hk : KMap (costV l) w m f) (z C x : Int) (ho : UndAt l ⟨k, fr, un, ps⟩ (some (z, C, x))) :
  Calls Try.prog 62 #[.agg #[.slice ad n cap, .map (some m)], .agg #[.int .i64 k, .int .i64 fr, .int .i64 un, .int .i64 ps]] w fun e w' => e = .returned (.tuple #[.agg #[.int .i64 k, .int .i64 fr, .int .i64 un, .int .i64 ps, .int .i64 z, .int .i64 C, .int .i64 x], .bool true]) ∧ (∃ f', KMap (costV l) w' m f') ∧ Ch (fun b => b = m) w w' :=
 undercut_p w0 ad n cap l ⟨k, fr, un, ps⟩ hs hn hb m hm0 f w hb0 hk (some (z, C, x)) ho
def domB (fr un nn pp : Int) : Bool := (decide (0 ≤ fr) && (decide (fr < un) && decide (un ≤ 366))) && (inE nn 1 60 && inE pp 1 8)
/-- What Find answers. -/
def findM (u : AskV → Option (Int × Int × Int)) : Option AskV → List Int × Bool × Int
 | some a => (outS a (u a), true, 0)
 | none => ([0, 0, 0, 0, 0, 0, 0], false, 0)
def findV (l : List RateV) (u : AskV → Option (Int × Int × Int)) (fr un nn pp : Int) : List Int × Bool × Int :=
 if validR l && domB fr un nn pp then findM u ((asksL (hasK l) fr un nn pp.toNat).find? (fun a => (u a).isSome)) else ([0, 0, 0, 0, 0, 0, 0], false, 1)
/-! The asks of a domain are asks. -/
theorem tkF_mem {α : Type} {g : Nat → List α} {x : α} : ∀ {M : Nat}, x ∈ tkF g M → ∃ i, i < M ∧ x ∈ g i
 | 0, h => by simp [tkF_zero] at h
 | M + 1, h => by
  rw [tkF_succ] at h
  rcases List.mem_append.1 h with h | h
  ·
   obtain ⟨i, hi, hx⟩ := tkF_mem h
   exact ⟨i, by omega, hx⟩
  ·
   exact ⟨M, by omega, h⟩
theorem asksL_mem {has : Int → Bool} {fr un nn : Int} {pp : Nat} {a : AskV} (h : a ∈ asksL has fr un nn pp) : fr ≤ a.fr ∧ a.fr < a.un ∧ a.un ≤ un ∧ a.un ≤ a.fr + nn ∧ (1 ≤ a.ps ∧ a.ps ≤ pp) ∧ (1 ≤ a.k ∧ a.k ≤ 20) ∧ has a.k = true := by
 obtain ⟨i, hi, h⟩ := tkF_mem h
 obtain ⟨j, hj, h⟩ := tkF_mem h
 obtain ⟨p, hp, h⟩ := tkF_mem h
 obtain ⟨q, hq, h⟩ := tkF_mem h
 unfold limN at hj
 unfold g3 at h
 split at h
 ·
  rename_i hh
  simp only [List.mem_singleton] at h
  subst h
  simp only
  refine ⟨by omega, by omega, by omega, by omega, by omega, by omega, hh⟩
 ·
  simp at h
end
end Go.Proofs.Ytcmodmchnokmgaa
