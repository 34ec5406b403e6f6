/-
 Texts built as one: XRndM, XEvP, XEvQ, XEvR, XSame2.
-/
import Derived.Test.YtcmodmchnokmgaaRatB
import Derived.Test.YtcmodmchnokmgaaEvO
import Derived.Test.YtcmodmchnokmgaaMA
import Derived.Test.YtcmodmchnokmgaaMC
import Derived.BigQuiet
namespace Go.Proofs.Ytcmodmchnokmgaa
section
set_option linter.unusedSimpArgs false
set_option linter.unusedVariables false
theorem rnd_mono (way : Int) {n m d : Int} (hd : 1 ≤ d) (h : n ≤ m) : rnd way n d ≤ rnd way m d := by
 have hq : n / d ≤ m / d := Int.ediv_le_ediv (by omega) h
 have up : ∀ x : Int, rnd way x d = x / d ∨ rnd way x d = x / d + 1 := fun x => by unfold rnd; split <;> simp
 rcases Int.lt_or_eq_of_le hq with h1 | h1
 ·
  rcases up n with a | a <;> rcases up m with b | b <;> omega
 ·
  have g1 := Int.mul_ediv_add_emod n d
  have g2 := Int.mul_ediv_add_emod m d
  have g3 : n % d ≤ m % d := by rw [h1] at g1; omega
  by_cases hx : nxB way (n / d) (n % d) d = true
  ·
   have hy : nxB way (m / d) (m % d) d = true := by
    rw [← h1]
    unfold nxB at hx ⊢
    split
    ·
     simp_all
    ·
     split
     ·
      simp_all; omega
     ·
      simp_all; omega
   rw [rnd_up rfl rfl hx, rnd_up rfl rfl hy]; omega
  ·
   have hx' : nxB way (n / d) (n % d) d = false := by simpa using hx
   rw [rnd_dn rfl rfl hx']
   rcases up m with b | b <;> omega
theorem rnd_whole (way n : Int) {d : Int} (hd : 1 ≤ d) : rnd way (n * d) d = n := by
 have e1 : n * d / d = n := Int.mul_ediv_cancel n (by omega)
 have e2 : n * d % d = 0 := Int.mul_emod_left n d
 have h : nxB way n 0 d = false := by
  unfold nxB
  split
  ·
   rfl
  ·
   split
   ·
    simp
   ·
    simp; omega
 unfold rnd
 rw [e1, e2, h]; simp
theorem rnd_zero (way : Int) {d : Int} (hd : 1 ≤ d) : rnd way 0 d = 0 := by
 have := rnd_whole way 0 hd
 rwa [Int.zero_mul] at this
/-- A part between 0 and 1. -/
theorem rnd_part (way : Int) {n a b : Int} (hb : 1 ≤ b) (hn : 0 ≤ n) (h1 : 0 ≤ a) (h2 : a ≤ b) : 0 ≤ rnd way (n * a) b ∧ rnd way (n * a) b ≤ n := by
 constructor
 ·
  have h := rnd_mono way hb (show (0 : Int) ≤ n * a from Int.mul_nonneg hn h1)
  rwa [rnd_zero way hb] at h
 ·
  have h := rnd_mono way hb (show n * a ≤ n * b from Int.mul_le_mul_of_nonneg_left h2 hn)
  rwa [rnd_whole way n hb] at h
/-- The least integer that is not less. -/
theorem rnd_up_spec (n : Int) {d : Int} (hd : 1 ≤ d) : n ≤ rnd 2 n d * d ∧ (rnd 2 n d - 1) * d < n := by
 have g1 := Int.mul_ediv_add_emod n d
 have g2 := Int.emod_lt_of_pos n (show 0 < d by omega)
 have g3 := Int.emod_nonneg n (show d ≠ 0 by omega)
 have g4 : d * (n / d) = n / d * d := Int.mul_comm _ _
 by_cases h : 0 < n % d
 ·
  rw [rnd_up (way := 2) rfl rfl (by rw [nxB_2]; simpa using h)]
  rw [Int.add_mul, Int.one_mul, show n / d + 1 - 1 = n / d by omega]
  omega
 ·
  rw [rnd_dn (way := 2) rfl rfl (by rw [nxB_2]; simpa using h)]
  rw [Int.sub_mul, Int.one_mul]
  omega
end
section
set_option linter.unusedSimpArgs false
set_option linter.unusedVariables false
open Go.RowKit
attribute [local go_sem ↓] ld_eq st_eq
attribute [local go_sem] ldR_run ldV_drew ldV_alloc ldV_at16 stR_run sz16_rate stB_drew stB_at16 stW_at16 stB_set ldV_set stW_cell stW_frozen ldV_stW stB_stW
def nightV (l : List RateV) (a : AskV) (nt : Int) : V3 := if validR l && (askB a && inN a nt) then ((priceN l a nt).1, ((priceN l a nt).2.1.getD zR).id, (priceN l a nt).2.2) else (0, 0, 1)
theorem costR_bound (a : AskV) (nt : Int) (r : RateV) : 0 ≤ (costR a nt r).1 ∧ (costR a nt r).1 ≤ 1000000000 := by
 unfold costR
 split
 ·
  simp
 ·
  rename_i h
  have hg := (r.pr.good (a.vars nt)).1 (by simpa using h)
  split
  ·
   simp
  ·
   rename_i h2
   obtain ⟨h3, _, _, h4, _⟩ := hg
   refine ⟨by simp only; omega, ?_⟩
   simp only
   have h5 := rnd_mono 3 h3 (show (r.pr.ev (a.vars nt)).1 ≤ 1000000000 * (r.pr.ev (a.vars nt)).2.1 by omega)
   rwa [rnd_whole 3 _ h3] at h5
theorem priceN_bound (l : List RateV) (a : AskV) (nt : Int) : 0 ≤ (priceN l a nt).1 ∧ (priceN l a nt).1 ≤ 1000000000 := by
 unfold priceN
 split
 ·
  simp
 ·
  split
  ·
   simp
  ·
   split
   ·
    simp
   ·
    exact costR_bound _ _ _
/-- The price of a night of a stay, its rate, an error. -/
def cstJ (l : List RateV) (a : AskV) (j : Nat) : Int × Option RateV × Int := priceN l a (a.fr + j)
def keepJ (l : List RateV) (a : AskV) (j : Nat) : Int := ptVal (cstJ l a j).1 ((cstJ l a j).2.1.getD zR).kn ((cstJ l a j).2.1.getD zR).kk 3
theorem ptVal_bound (n a b way : Int) : -1000000000 ≤ ptVal n a b way ∧ ptVal n a b way ≤ 1000000000 := by
 unfold ptVal
 split
 ·
  rename_i h; exact h.2
 ·
  omega
theorem keepJ_bound (l : List RateV) (a : AskV) (j : Nat) : -1000000000 ≤ keepJ l a j ∧ keepJ l a j ≤ 1000000000 := ptVal_bound _ _ _ _
def sumT (f : Nat → Int) : Nat → Int
 | 0 => 0
 | j + 1 => sumT f j + f j
theorem sumT_bound {f : Nat → Int} {m M : Int} (h : ∀ j, m ≤ f j ∧ f j ≤ M) : ∀ j : Nat, m * j ≤ sumT f j ∧ sumT f j ≤ M * j
 | 0 => by simp [sumT]
 | j + 1 => by
  have h1 := sumT_bound h j
  have h2 := h j
  unfold sumT
  rw [Int.natCast_succ, Int.mul_add, Int.mul_add, Int.mul_one, Int.mul_one]
  omega
/-- The first error of the first nights. -/
def errT (l : List RateV) (a : AskV) : Nat → Int
 | 0 => 0
 | j + 1 => if errT l a j ≠ 0 then errT l a j else (cstJ l a j).2.2
def cstL (l : List RateV) (a : AskV) (j : Nat) : List Int := (List.range j).map (fun i => (cstJ l a i).1)
theorem cstL_succ (l : List RateV) (a : AskV) (j : Nat) : cstL l a (j + 1) = cstL l a j ++ [(cstJ l a j).1] := by unfold cstL; rw [List.range_succ, List.map_append]; rfl
theorem cstL_length (l : List RateV) (a : AskV) (j : Nat) : (cstL l a j).length = j := by unfold cstL; simp
def AskV.len (a : AskV) : Nat := (a.un - a.fr).toNat
/-- What Price answers: the prices of the nights, what is kept, an error. -/
def priceV (l : List RateV) (a : AskV) : List Int × Int × Int :=
 if validR l && askB a then
  (if errT l a a.len ≠ 0 then ([], 0, errT l a a.len)
   else if 1000000000 < sumT (fun j => (cstJ l a j).1) a.len then ([], 0, 3)
   else (cstL l a a.len, sumT (keepJ l a) a.len, 0))
 else ([], 0, 1)
/-! The walks. -/
theorem valid_rates_p (a : Option Addr) (n cap : Nat) (l : List RateV) (w : World) (hm : n ≤ 9223372036854775807) (hs : SlR w a n l) (p : Bool) (hp : validR l = p) :
  Calls Try.prog 20 #[.slice a n cap] w fun e w' => e = .returned (.bool p) ∧ Below w.heap.size w w' := by
 subst hp; exact valid_rates a n cap l w hm hs
theorem validR_in {l : List RateV} (h : validR l = true) : l.length ≤ 100 ∧ ∀ r ∈ l, rateB r = true := by
 unfold validR at h
 simp only [Bool.and_eq_true, decide_eq_true_eq, List.all_eq_true] at h
 exact ⟨h.1, h.2.1⟩
theorem priced_p (ad : Option Addr) (n cap : Nat) (l : List RateV) (k fr un ps nt : Int) (w : World) (hs : SlR w ad n l) (hv : validR l = true) (ha : askB ⟨k, fr, un, ps⟩ = true) (hnt : fr ≤ nt ∧ nt < un) (N E : Int) (b : Option RateV) (r : RateV) (hR : priceN l ⟨k, fr, un, ps⟩ nt = (N, b, E)) (hr : b.getD zR = r) :
  Calls Try.prog 55 #[.slice ad n cap, .agg #[.int .i64 k, .int .i64 fr, .int .i64 un, .int .i64 ps], .int .i64 nt] w fun e w' => e = .returned (.tuple #[.int .i64 N, .agg #[.int .i64 r.id, .int .i64 r.lv, .int .i64 r.kd, .int .i64 r.fr, .int .i64 r.un, .int .i64 r.ls, .int .i64 r.ms, .int .i64 r.ar, .int .i64 r.kn, .int .i64 r.kk, .int .i64 r.wh.op, .int .i64 r.wh.n, .slice r.wh.at' r.wh.ks.length r.wh.cap, .int .i64 r.pr.op, .int .i64 r.pr.n, .slice r.pr.at' r.pr.ks.length r.pr.cap], .int .i64 E]) ∧ Below w.heap.size w w' := by
 subst hr
 have h := validR_in hv
 exact priced_any ad n cap l k fr un ps nt w hs (by have := hs.1; omega) h.2 ha hnt N E b hR
set_option maxRecDepth 100000 in
set_option maxHeartbeats 4000000 in
theorem Night_any (ad : Option Addr) (n cap : Nat) (l : List RateV) (k fr un ps nt : Int) (w : World) (hs : SlR w ad n l) (hm : n ≤ 9223372036854775807) (N I E : Int) (hR : nightV l ⟨k, fr, un, ps⟩ nt = (N, I, E)) :
  Calls Try.prog 27 #[.slice ad n cap, .agg #[.int .i64 k, .int .i64 fr, .int .i64 un, .int .i64 ps], .int .i64 nt] w fun e w' => e = .returned (.tuple #[.int .i64 N, .int .i64 I, .int .i64 E]) ∧ Below w.heap.size w w' := by
 have HS := Lib.hid hs
 obtain ⟨p1, hp1⟩ : ∃ p, validR l = p := ⟨_, rfl⟩
 obtain ⟨p2, hp2⟩ : ∃ p, askB ⟨k, fr, un, ps⟩ = p := ⟨_, rfl⟩
 obtain ⟨p3, hp3⟩ : ∃ p, inE nt fr (un - 1) = p := ⟨_, rfl⟩
 have hno : (p1 && (p2 && p3)) = false → N = 0 ∧ I = 0 ∧ E = 1 := fun hf => by
  have h1 := hR
  unfold nightV inN at h1
  rw [hp1, hp2, ← inN_within, hp3, hf] at h1
  simp only [Bool.false_eq_true, if_false, Prod.mk.injEq] at h1
  exact ⟨h1.1.symm, h1.2.1.symm, h1.2.2.symm⟩
 have hyes : p1 = true → p2 = true → p3 = true → ∃ b r, priceN l ⟨k, fr, un, ps⟩ nt = (N, b, E) ∧ b.getD zR = r ∧ r.id = I ∧ (fr ≤ nt ∧ nt < un) := fun q1 q2 q3 => by
  have h1 := hR
  unfold nightV inN at h1
  rw [hp1, hp2, ← inN_within, hp3, q1, q2, q3] at h1
  simp only [Bool.and_self, if_true, Prod.mk.injEq] at h1
  rw [q3, inN_within] at hp3
  refine ⟨(priceN l ⟨k, fr, un, ps⟩ nt).2.1, _, ?_, rfl, h1.2.1, by simpa using hp3⟩
  rw [← h1.1, ← h1.2.2]
 have HP1 := Lib.hid hp1
 have HP2 := Lib.hid hp2
 have HP3 := Lib.hid hp3
 have HNO := Lib.hid hno
 have HYES := Lib.hid hyes
 have hun : p2 = true → 1 ≤ un ∧ un ≤ 366 := fun h => by
  obtain ⟨⟨b1, b2, b3, b4⟩, _, _⟩ := askB_in (hp2.trans h)
  simp only at b1 b2 b3 b4
  omega
 clear hR hp1 hp2 hp3 hno hyes hs
 go_enter Try.func27, Try.ntmps27
 go_wp2_with fail
 refine (valid_rates_p ad n cap l _ hm (HS.out.step ((Below.refl w.heap.size w).alloc (Nat.le_refl _) _)) p1 HP1.out).mono ?_
 rintro e w1 ⟨rfl, hb1⟩
 have R_a_1 : Row w1 (w.heap.size) [.int .i64 (k), .int .i64 (fr), .int .i64 (un), .int .i64 (ps)] := by (repeat' (first | (with_reducible assumption) | (with_reducible refine Row.new' _ _ _ (by first | rfl | (simp; done) | omega)) | (with_reducible first | refine Row.alloc ?_ _ | refine Row.drew ?_ | refine Row.step ?_ (by assumption) | refine Row.drewN ?_ _) | (with_reducible refine Row.set2' ?_ _ _; first | exact ⟨_, _, by assumption⟩ | exact ⟨_, _, Row.alloc (by assumption) _⟩) | (with_reducible refine Row.other ?_ (by first | omega | (simp; omega)) _)))
 have c_a_0_1 := R_a_1.cell 0 rfl
 have c_a_1_1 := R_a_1.cell 1 rfl
 have c_a_2_1 := R_a_1.cell 2 rfl
 have c_a_3_1 := R_a_1.cell 3 rfl
 have l_a_1 := R_a_1.lt
 have HB1 : Below w.heap.size w w1 := by (repeat' (first | (with_reducible first | exact Below.refl _ _ | assumption | exact Bw.out (by assumption) | refine bw_alloc ?_ _ | refine bw_step ?_ (by assumption) | refine Below.alloc ?_ ?_ _ | refine Below.drew ?_ | refine below_drewN ?_ _ | refine Below.setCell ?_ ?_ _ | refine below_step ?_ (by assumption) ?_ | exact Nat.le_refl _) | omega | (simp; omega) | (simp; done)))
 cases p1 with
 | false =>
  obtain ⟨rfl, rfl, rfl⟩ := HNO.out rfl
  go_wp2_with fail
  go_returns
  refine ⟨rfl, ?_⟩
  (repeat' (first | (with_reducible first | exact Below.refl _ _ | assumption | exact Bw.out (by assumption) | refine bw_alloc ?_ _ | refine bw_step ?_ (by assumption) | refine Below.alloc ?_ ?_ _ | refine Below.drew ?_ | refine below_drewN ?_ _ | refine Below.setCell ?_ ?_ _ | refine below_step ?_ (by assumption) ?_ | exact Nat.le_refl _) | omega | (simp; omega) | (simp; done)))
 | true =>
  go_wp2_with fail
  refine (right_p k fr un ps p2 HP2.out _).mono ?_
  rintro e w2 ⟨rfl, hb2⟩
  have R_a_2 : Row w2 (w.heap.size) [.int .i64 (k), .int .i64 (fr), .int .i64 (un), .int .i64 (ps)] := by (repeat' (first | (with_reducible assumption) | (with_reducible refine Row.new' _ _ _ (by first | rfl | (simp; done) | omega)) | (with_reducible first | refine Row.alloc ?_ _ | refine Row.drew ?_ | refine Row.step ?_ (by assumption) | refine Row.drewN ?_ _) | (with_reducible refine Row.set2' ?_ _ _; first | exact ⟨_, _, by assumption⟩ | exact ⟨_, _, Row.alloc (by assumption) _⟩) | (with_reducible refine Row.other ?_ (by first | omega | (simp; omega)) _)))
  have c_a_0_2 := R_a_2.cell 0 rfl
  have c_a_1_2 := R_a_2.cell 1 rfl
  have c_a_2_2 := R_a_2.cell 2 rfl
  have c_a_3_2 := R_a_2.cell 3 rfl
  have l_a_2 := R_a_2.lt
  have HB2 : Below w.heap.size w w2 := by (repeat' (first | (with_reducible first | exact Below.refl _ _ | assumption | exact Bw.out (by assumption) | refine bw_alloc ?_ _ | refine bw_step ?_ (by assumption) | refine Below.alloc ?_ ?_ _ | refine Below.drew ?_ | refine below_drewN ?_ _ | refine Below.setCell ?_ ?_ _ | refine below_step ?_ (by assumption) ?_ | exact Nat.le_refl _) | omega | (simp; omega) | (simp; done)))
  clear R_a_1 c_a_0_1 c_a_1_1 c_a_2_1 c_a_3_1 hb1 HB1
  cases p2 with
  | false =>
   obtain ⟨rfl, rfl, rfl⟩ := HNO.out rfl
   go_wp2_with fail
   go_returns
   refine ⟨rfl, ?_⟩
   (repeat' (first | (with_reducible first | exact Below.refl _ _ | assumption | exact Bw.out (by assumption) | refine bw_alloc ?_ _ | refine bw_step ?_ (by assumption) | refine Below.alloc ?_ ?_ _ | refine Below.drew ?_ | refine below_drewN ?_ _ | refine Below.setCell ?_ ?_ _ | refine below_step ?_ (by assumption) ?_ | exact Nat.le_refl _) | omega | (simp; omega) | (simp; done)))
  | true =>
   obtain ⟨un1, un2⟩ := hun (by simp)
   clear hun
   go_wp2_with fail
   refine (rwithin_p nt fr (un - 1) p3 HP3.out _).mono ?_
   rintro e w3 ⟨rfl, hb3⟩
   have R_a_3 : Row w3 (w.heap.size) [.int .i64 (k), .int .i64 (fr), .int .i64 (un), .int .i64 (ps)] := by (repeat' (first | (with_reducible assumption) | (with_reducible refine Row.new' _ _ _ (by first | rfl | (simp; done) | omega)) | (with_reducible first | refine Row.alloc ?_ _ | refine Row.drew ?_ | refine Row.step ?_ (by assumption) | refine Row.drewN ?_ _) | (with_reducible refine Row.set2' ?_ _ _; first | exact ⟨_, _, by assumption⟩ | exact ⟨_, _, Row.alloc (by assumption) _⟩) | (with_reducible refine Row.other ?_ (by first | omega | (simp; omega)) _)))
   have c_a_0_3 := R_a_3.cell 0 rfl
   have c_a_1_3 := R_a_3.cell 1 rfl
   have c_a_2_3 := R_a_3.cell 2 rfl
   have c_a_3_3 := R_a_3.cell 3 rfl
   have l_a_3 := R_a_3.lt
   have HB3 : Below w.heap.size w w3 := by (repeat' (first | (with_reducible first | exact Below.refl _ _ | assumption | exact Bw.out (by assumption) | refine bw_alloc ?_ _ | refine bw_step ?_ (by assumption) | refine Below.alloc ?_ ?_ _ | refine Below.drew ?_ | refine below_drewN ?_ _ | refine Below.setCell ?_ ?_ _ | refine below_step ?_ (by assumption) ?_ | exact Nat.le_refl _) | omega | (simp; omega) | (simp; done)))
   clear R_a_2 c_a_0_2 c_a_1_2 c_a_2_2 c_a_3_2 hb2 HB2
   cases p3 with
   | false =>
    obtain ⟨rfl, rfl, rfl⟩ := HNO.out rfl
    go_wp2_with fail
    go_returns
    refine ⟨rfl, ?_⟩
    (repeat' (first | (with_reducible first | exact Below.refl _ _ | assumption | exact Bw.out (by assumption) | refine bw_alloc ?_ _ | refine bw_step ?_ (by assumption) | refine Below.alloc ?_ ?_ _ | refine Below.drew ?_ | refine below_drewN ?_ _ | refine Below.setCell ?_ ?_ _ | refine below_step ?_ (by assumption) ?_ | exact Nat.le_refl _) | omega | (simp; omega) | (simp; done)))
   | true =>
    obtain ⟨b, r, y1, y2, rfl, y3⟩ := HYES.out (by simp) (by simp) (by simp)
    have HY1 := Lib.hid y1
    have HY2 := Lib.hid y2
    have HY3 := Lib.hid y3
    clear y1 y2 y3
    go_wp2_with fail
    refine (priced_p ad n cap l k fr un ps nt _ (HS.out.step HB3) HP1.out HP2.out HY3.out N E b r HY1.out HY2.out).mono ?_
    rintro e w4 ⟨rfl, hb4⟩
    have R_a_4 : Row w4 (w.heap.size) [.int .i64 (k), .int .i64 (fr), .int .i64 (un), .int .i64 (ps)] := by (repeat' (first | (with_reducible assumption) | (with_reducible refine Row.new' _ _ _ (by first | rfl | (simp; done) | omega)) | (with_reducible first | refine Row.alloc ?_ _ | refine Row.drew ?_ | refine Row.step ?_ (by assumption) | refine Row.drewN ?_ _) | (with_reducible refine Row.set2' ?_ _ _; first | exact ⟨_, _, by assumption⟩ | exact ⟨_, _, Row.alloc (by assumption) _⟩) | (with_reducible refine Row.other ?_ (by first | omega | (simp; omega)) _)))
    have c_a_0_4 := R_a_4.cell 0 rfl
    have c_a_1_4 := R_a_4.cell 1 rfl
    have c_a_2_4 := R_a_4.cell 2 rfl
    have c_a_3_4 := R_a_4.cell 3 rfl
    have l_a_4 := R_a_4.lt
    have HB4 : Below w.heap.size w w4 := by (repeat' (first | (with_reducible first | exact Below.refl _ _ | assumption | exact Bw.out (by assumption) | refine bw_alloc ?_ _ | refine bw_step ?_ (by assumption) | refine Below.alloc ?_ ?_ _ | refine Below.drew ?_ | refine below_drewN ?_ _ | refine Below.setCell ?_ ?_ _ | refine below_step ?_ (by assumption) ?_ | exact Nat.le_refl _) | omega | (simp; omega) | (simp; done)))
    clear R_a_3 c_a_0_3 c_a_1_3 c_a_2_3 c_a_3_3 hb3 HB3
    go_upto_region 4 with fail
    go_quiet (fail)
    go_wp2_with fail
    go_returns
    refine ⟨rfl, ?_⟩
    (repeat' (first | (with_reducible first | exact Below.refl _ _ | assumption | exact Bw.out (by assumption) | refine bw_alloc ?_ _ | refine bw_step ?_ (by assumption) | refine Below.alloc ?_ ?_ _ | refine Below.drew ?_ | refine below_drewN ?_ _ | refine Below.setCell ?_ ?_ _ | refine below_step ?_ (by assumption) ?_ | exact Nat.le_refl _) | omega | (simp; omega) | (simp; done)))
end
section
set_option linter.unusedSimpArgs false
set_option linter.unusedVariables false
open Go.RowKit
attribute [local go_sem ↓] ld_eq st_eq
attribute [local go_sem] ldR_run ldV_drew ldV_alloc ldV_at16 stR_run sz16_rate stB_drew stB_at16 stW_at16 stB_set ldV_set stW_cell stW_frozen ldV_stW stB_stW
theorem own_form {w : World} {base : Nat} {v : Value} {zs : List Int} (h : OwnV w base v zs) : (v = .slice none 0 0 ∧ zs = []) ∨ ∃ g cp, v = .slice (some ⟨g, 0, none⟩) zs.length cp ∧ zs.length ≤ cp ∧ cp ≤ maxLen := by
 obtain ⟨h1, h2⟩ := h
 rcases h2 with h2 | ⟨g, cap, cur, e1, e2, e3, e4, e5, e6, e7⟩
 ·
  exact Or.inl ⟨h2.1, List.eq_nil_of_length_eq_zero h2.2⟩
 ·
  exact Or.inr ⟨g, cap, e1, e4, e5⟩
set_option maxHeartbeats 800000 in
theorem clip_nil (w : World) :
  Calls Try.prog 57 #[.slice none 0 0] w fun e w' => e = .returned (.slice none 0 0) ∧ Below w.heap.size w w' := by
 go_enter Try.func57, Try.ntmps57
 go_wp2_with fail
 go_ret
 exact ⟨rfl, Below.refl _ _⟩
set_option maxHeartbeats 800000 in
theorem clip_some (g n cp : Nat) (h : n ≤ cp) (hm : cp ≤ maxLen) (w : World) :
  Calls Try.prog 57 #[.slice (some ⟨g, 0, none⟩) n cp] w fun e w' => e = .returned (.slice (some ⟨g, 0, none⟩) n n) ∧ Below w.heap.size w w' := by
 have h1 : (0 : Int) ≤ (n : Int) := by omega
 have h2 : (n : Int) ≤ (cp : Int) := by omega
 unfold maxLen at hm
 go_enter Try.func57, Try.ntmps57
 go_wp2_with fail
 go_ret
 exact ⟨rfl, Below.refl _ _⟩
theorem clip_own {w : World} {base : Nat} {v : Value} {zs : List Int} (h : OwnV w base v zs) :
  Calls Try.prog 57 #[v] w fun e w' => ∃ u, e = .returned u ∧ SlV w' u zs ∧ Below w.heap.size w w' := by
 rcases own_form h with ⟨rfl, rfl⟩ | ⟨g, cp, rfl, h1, h2⟩
 ·
  refine (clip_nil w).mono ?_
  rintro e w' ⟨rfl, hb⟩
  exact ⟨_, rfl, SlV.nil _, hb⟩
 ·
  refine (clip_some g _ cp h1 h2 w).mono ?_
  rintro e w' ⟨rfl, hb⟩
  obtain ⟨ad, cap, e, h3, h4, h5⟩ := h.sl.step hb
  cases e
  exact ⟨_, rfl, ⟨_, _, rfl, h3, Nat.le_refl _, by unfold maxLen at *; omega⟩, hb⟩
theorem errT_stay {l : List RateV} {a : AskV} {j m : Nat} (h : j ≤ m) (h0 : errT l a j ≠ 0) : errT l a m = errT l a j := by
 induction m with
 | zero =>
  obtain rfl : j = 0 := by omega
  rfl
 | succ m ih =>
  rcases Nat.lt_or_ge m j with h1 | h1
  ·
   obtain rfl : j = m + 1 := by omega
   rfl
  ·
   have := ih h1
   show (if errT l a m ≠ 0 then errT l a m else _) = _
   rw [if_pos (by rw [this]; exact h0), this]
set_option maxRecDepth 100000 in
set_option maxHeartbeats 6400000 in
theorem Price_any (ad : Option Addr) (n cap : Nat) (l : List RateV) (k fr un ps : Int) (w : World) (hs : SlR w ad n l) (hm : n ≤ 9223372036854775807) (P : List Int) (K E : Int) (hR : priceV l ⟨k, fr, un, ps⟩ = (P, K, E)) :
  Calls Try.prog 28 #[.slice ad n cap, .agg #[.int .i64 k, .int .i64 fr, .int .i64 un, .int .i64 ps]] w fun e w' => ∃ v, e = .returned (.tuple #[v, .int .i64 K, .int .i64 E]) ∧ SlV w' v P ∧ Below w.heap.size w w' := by
 have HS := Lib.hid hs
 obtain ⟨p1, hp1⟩ : ∃ p, validR l = p := ⟨_, rfl⟩
 obtain ⟨p2, hp2⟩ : ∃ p, askB ⟨k, fr, un, ps⟩ = p := ⟨_, rfl⟩
 obtain ⟨M, hM⟩ : ∃ M, (⟨k, fr, un, ps⟩ : AskV).len = M := ⟨_, rfl⟩
 have hMu : M = (un - fr).toNat := by rw [← hM]; rfl
 have hno : (p1 && p2) = false → P = [] ∧ K = 0 ∧ E = 1 := fun hf => by
  have h1 := hR
  unfold priceV at h1
  rw [hp1, hp2, hf] at h1
  simp only [Bool.false_eq_true, if_false, Prod.mk.injEq] at h1
  exact ⟨h1.1.symm, h1.2.1.symm, h1.2.2.symm⟩
 have hyes : p1 = true → p2 = true → (P, K, E) = if errT l ⟨k, fr, un, ps⟩ M ≠ 0 then ([], 0, errT l ⟨k, fr, un, ps⟩ M) else if 1000000000 < sumT (fun j => (cstJ l ⟨k, fr, un, ps⟩ j).1) M then ([], 0, 3) else (cstL l ⟨k, fr, un, ps⟩ M, sumT (keepJ l ⟨k, fr, un, ps⟩) M, 0) := fun q1 q2 => by
  have h1 := hR
  unfold priceV at h1
  rw [hp1, hp2, q1, q2, hM] at h1
  exact h1.symm
 have HP1 := Lib.hid hp1
 have HP2 := Lib.hid hp2
 have HNO := Lib.hid hno
 have HYES := Lib.hid hyes
 have hun : p2 = true → 0 ≤ fr ∧ fr < un ∧ un ≤ 366 ∧ un - fr ≤ 60 := fun h => by
  obtain ⟨⟨b1, b2, b3, b4⟩, _, _⟩ := askB_in (hp2.trans h)
  simp only at b1 b2 b3 b4
  omega
 clear hR hp1 hp2 hno hyes hs hM
 go_enter Try.func28, Try.ntmps28
 go_wp2_with fail
 refine (valid_rates_p ad n cap l _ hm (HS.out.step ((Below.refl w.heap.size w).alloc (Nat.le_refl _) _)) p1 HP1.out).mono ?_
 rintro e w1 ⟨rfl, hb1⟩
 have R_a_1 : Row w1 (w.heap.size) [.int .i64 (k), .int .i64 (fr), .int .i64 (un), .int .i64 (ps)] := by (repeat' (first | (with_reducible assumption) | (with_reducible refine Row.new' _ _ _ (by first | rfl | (simp; done) | omega)) | (with_reducible first | refine Row.alloc ?_ _ | refine Row.drew ?_ | refine Row.step ?_ (by assumption) | refine Row.drewN ?_ _) | (with_reducible refine Row.set2' ?_ _ _; first | exact ⟨_, _, by assumption⟩ | exact ⟨_, _, Row.alloc (by assumption) _⟩) | (with_reducible refine Row.other ?_ (by first | omega | (simp; omega)) _)))
 have c_a_0_1 := R_a_1.cell 0 rfl
 have c_a_1_1 := R_a_1.cell 1 rfl
 have c_a_2_1 := R_a_1.cell 2 rfl
 have c_a_3_1 := R_a_1.cell 3 rfl
 have l_a_1 := R_a_1.lt
 have HB1 : Below w.heap.size w w1 := by (repeat' (first | (with_reducible first | exact Below.refl _ _ | assumption | exact Bw.out (by assumption) | refine bw_alloc ?_ _ | refine bw_step ?_ (by assumption) | refine Below.alloc ?_ ?_ _ | refine Below.drew ?_ | refine below_drewN ?_ _ | refine Below.setCell ?_ ?_ _ | refine below_step ?_ (by assumption) ?_ | exact Nat.le_refl _) | omega | (simp; omega) | (simp; done)))
 cases p1 with
 | false =>
  obtain ⟨rfl, rfl, rfl⟩ := HNO.out rfl
  go_wp2_with fail
  go_returns
  refine ⟨_, rfl, SlV.nil _, ?_⟩
  (repeat' (first | (with_reducible first | exact Below.refl _ _ | assumption | exact Bw.out (by assumption) | refine bw_alloc ?_ _ | refine bw_step ?_ (by assumption) | refine Below.alloc ?_ ?_ _ | refine Below.drew ?_ | refine below_drewN ?_ _ | refine Below.setCell ?_ ?_ _ | refine below_step ?_ (by assumption) ?_ | exact Nat.le_refl _) | omega | (simp; omega) | (simp; done)))
 | true =>
  go_wp2_with fail
  refine (right_p k fr un ps p2 HP2.out _).mono ?_
  rintro e w2 ⟨rfl, hb2⟩
  have R_a_2 : Row w2 (w.heap.size) [.int .i64 (k), .int .i64 (fr), .int .i64 (un), .int .i64 (ps)] := by (repeat' (first | (with_reducible assumption) | (with_reducible refine Row.new' _ _ _ (by first | rfl | (simp; done) | omega)) | (with_reducible first | refine Row.alloc ?_ _ | refine Row.drew ?_ | refine Row.step ?_ (by assumption) | refine Row.drewN ?_ _) | (with_reducible refine Row.set2' ?_ _ _; first | exact ⟨_, _, by assumption⟩ | exact ⟨_, _, Row.alloc (by assumption) _⟩) | (with_reducible refine Row.other ?_ (by first | omega | (simp; omega)) _)))
  have c_a_0_2 := R_a_2.cell 0 rfl
  have c_a_1_2 := R_a_2.cell 1 rfl
  have c_a_2_2 := R_a_2.cell 2 rfl
  have c_a_3_2 := R_a_2.cell 3 rfl
  have l_a_2 := R_a_2.lt
  have HB2 : Below w.heap.size w w2 := by (repeat' (first | (with_reducible first | exact Below.refl _ _ | assumption | exact Bw.out (by assumption) | refine bw_alloc ?_ _ | refine bw_step ?_ (by assumption) | refine Below.alloc ?_ ?_ _ | refine Below.drew ?_ | refine below_drewN ?_ _ | refine Below.setCell ?_ ?_ _ | refine below_step ?_ (by assumption) ?_ | exact Nat.le_refl _) | omega | (simp; omega) | (simp; done)))
  clear R_a_1 c_a_0_1 c_a_1_1 c_a_2_1 c_a_3_1 hb1 HB1
  cases p2 with
  | false =>
   obtain ⟨rfl, rfl, rfl⟩ := HNO.out rfl
   go_wp2_with fail
   go_returns
   refine ⟨_, rfl, SlV.nil _, ?_⟩
   (repeat' (first | (with_reducible first | exact Below.refl _ _ | assumption | exact Bw.out (by assumption) | refine bw_alloc ?_ _ | refine bw_step ?_ (by assumption) | refine Below.alloc ?_ ?_ _ | refine Below.drew ?_ | refine below_drewN ?_ _ | refine Below.setCell ?_ ?_ _ | refine below_step ?_ (by assumption) ?_ | exact Nat.le_refl _) | omega | (simp; omega) | (simp; done)))
  | true =>
   obtain ⟨un1, un2, un3, un4⟩ := hun (by simp)
   have HY := Lib.hid (HYES.out (by simp) (by simp))
   have HSB := Lib.hid HB2
   have HRA := Lib.hid R_a_2
   clear hun HYES HNO hb2 HB2 R_a_2
   go_wp2_with fail
   clear c_a_0_2 c_a_1_2 c_a_2_2 c_a_3_2
   go_loopw [4, 5, 7, 8] (fun v4 v5 v7 v8 wr => ∃ q : Nat, q ≤ M ∧ v5 = .int .i64 (sumT (keepJ l ⟨k, fr, un, ps⟩) q) ∧ v7 = .int .i64 (sumT (fun j => (cstJ l ⟨k, fr, un, ps⟩ j).1) q) ∧ v8 = .int .i64 (fr + q) ∧ Hid (OwnV wr w2.heap.size v4 (cstL l ⟨k, fr, un, ps⟩ q)) ∧ Hid (errT l ⟨k, fr, un, ps⟩ q = 0) ∧ Hid (Below w2.heap.size w2 wr)) (fun _ _ _ v8 _ => M - ((intOf v8) - fr).toNat)
   case atStart =>
    exact ⟨0, by omega, rfl, rfl, by simp, OwnV.nil _ _, rfl, Below.refl _ _⟩
   case round =>
    obtain ⟨q, hq, rfl, rfl, rfl, hO, hE, hB⟩ := hrel
    have hsB := hB.out.size
    have hsW := HSB.out.size
    have RA := HRA.out.step hB.out
    have a0 := RA.cell 0 rfl
    have a1 := RA.cell 1 rfl
    have a2 := RA.cell 2 rfl
    have a3 := RA.cell 3 rfl
    have al := RA.lt
    have hk0 := sumT_bound (f := keepJ l ⟨k, fr, un, ps⟩) (m := -1000000000) (M := 1000000000) (fun j => keepJ_bound _ _ j) q
    have hk1 := sumT_bound (f := fun j => (cstJ l ⟨k, fr, un, ps⟩ j).1) (m := 0) (M := 1000000000) (fun j => priceN_bound _ _ _) q
    have hk2 := keepJ_bound l ⟨k, fr, un, ps⟩ q
    have hk3 : 0 ≤ (cstJ l ⟨k, fr, un, ps⟩ q).1 ∧ (cstJ l ⟨k, fr, un, ps⟩ q).1 ≤ 1000000000 := priceN_bound _ _ _
    obtain ⟨S0, hS0⟩ : ∃ S, sumT (keepJ l ⟨k, fr, un, ps⟩) q = S := ⟨_, rfl⟩
    obtain ⟨S1, hS1⟩ : ∃ S, sumT (fun j => (cstJ l ⟨k, fr, un, ps⟩ j).1) q = S := ⟨_, rfl⟩
    have HS0 := Lib.hid hS0
    have HS1 := Lib.hid hS1
    rw [hS0] at hk0
    rw [hS1] at hk1
    rw [hS0, hS1]
    clear hS0 hS1
    have hqM : (q : Int) ≤ 60 := by omega
    obtain ⟨hk00, hk01⟩ : -60000000000 ≤ S0 ∧ S0 ≤ 60000000000 := by omega
    obtain ⟨hk10, hk11⟩ : 0 ≤ S1 ∧ S1 ≤ 60000000000 := by omega
    clear hk0 hk1
    by_cases hlt : q < M
    ·
     have hun5 : fr + q < un := by omega
     obtain ⟨N, b, F, hcst⟩ : ∃ N b F, cstJ l ⟨k, fr, un, ps⟩ q = (N, b, F) := ⟨_, _, _, rfl⟩
     obtain ⟨r, hr⟩ : ∃ r, b.getD zR = r := ⟨_, rfl⟩
     have hkj : keepJ l ⟨k, fr, un, ps⟩ q = ptVal N r.kn r.kk 3 := by unfold keepJ; rw [hcst, hr]
     rw [hcst] at hk3
     rw [hkj] at hk2
     simp only at hk3
     have HCST : Hid (priceN l ⟨k, fr, un, ps⟩ (fr + q) = (N, b, F)) := hcst
     have HCS := Lib.hid hcst
     have HRR := Lib.hid hr
     obtain ⟨T, hT⟩ : ∃ T, ptVal N r.kn r.kk 3 = T := ⟨_, rfl⟩
     have HKJ : Hid (keepJ l ⟨k, fr, un, ps⟩ q = T) := hkj.trans hT
     rw [hT] at hk2
     have hPt := Part3_any N r.kn r.kk
     rw [hT] at hPt
     have HPT := Lib.hid hPt
     obtain ⟨hk20, hk21⟩ := hk2
     obtain ⟨hk30, hk31⟩ := hk3
     have hF1 : errT l ⟨k, fr, un, ps⟩ (q + 1) = F := by unfold errT; rw [if_neg (by rw [hE.out]; simp), hcst]
     have HF1 := Lib.hid hF1
     clear hcst hr hkj hT hPt hF1 RA
     go_wp2_with fail
     refine (priced_p ad n cap l k fr un ps (fr + q) wr (HS.out.step (HSB.out.trans (hB.out.mono hsW))) HP1.out HP2.out ⟨by omega, hun5⟩ N F b r HCST.out HRR.out).mono ?_
     rintro e w3 ⟨rfl, hb3⟩
     have hB3 : Hid (Below w2.heap.size w2 w3) := hB.out.trans (hb3.mono hsB)
     have hO3 : Hid (OwnV w3 w2.heap.size u4 (cstL l ⟨k, fr, un, ps⟩ q)) := hO.out.step hb3
     have hs3 := hb3.size
     clear a0 a1 a2 a3 al hb3
     by_cases hF : F = 0
     ·
      have hF' : (F != 0) = false := by simpa using hF
      have HF := Lib.hid hF
      clear hF
      go_upto_region 8 with fail
      obtain ⟨w4, hw4⟩ : ∃ X, World.alloc w3 (.cells #[.int .i64 r.id, .int .i64 r.lv, .int .i64 r.kd, .int .i64 r.fr, .int .i64 r.un, .int .i64 r.ls, .int .i64 r.ms, .int .i64 r.ar, .int .i64 r.kn, .int .i64 r.kk, .int .i64 r.wh.op, .int .i64 r.wh.n, .slice r.wh.at' r.wh.ks.length r.wh.cap, .int .i64 r.pr.op, .int .i64 r.pr.n, .slice r.pr.at' r.pr.ks.length r.pr.cap] 30) = X := ⟨_, rfl⟩
      rw [hw4]
      have RN : Row w4 w3.heap.size [.int .i64 r.id, .int .i64 r.lv, .int .i64 r.kd, .int .i64 r.fr, .int .i64 r.un, .int .i64 r.ls, .int .i64 r.ms, .int .i64 r.ar, .int .i64 r.kn, .int .i64 r.kk, .int .i64 r.wh.op, .int .i64 r.wh.n, .slice r.wh.at' r.wh.ks.length r.wh.cap, .int .i64 r.pr.op, .int .i64 r.pr.n, .slice r.pr.at' r.pr.ks.length r.pr.cap] := by rw [← hw4]; exact Row.new' _ _ _ rfl
      have hB4 : Hid (Below w2.heap.size w2 w4) := by rw [← hw4]; exact hB3.out.alloc (by have := hB3.out.size; omega) _
      have hO4 : Hid (OwnV w4 w2.heap.size u4 (cstL l ⟨k, fr, un, ps⟩ q)) := by rw [← hw4]; exact hO3.out.alloc _
      have n8 := RN.cell 8 rfl
      have n9 := RN.cell 9 rfl
      have nl := RN.lt
      clear hw4 RN hB hO hB3 hO3
      go_wp2_with fail
      refine (HPT.out w4).mono ?_
      rintro e w5 ⟨rfl, hb5⟩
      have hB5 : Hid (Below w2.heap.size w2 w5) := hB4.out.trans (hb5.mono hB4.out.size)
      have hO5 : Hid (OwnV w5 w2.heap.size u4 (cstL l ⟨k, fr, un, ps⟩ q)) := hO4.out.step hb5
      have hs5 := hB5.out.size
      clear n8 n9 nl hb5 hB4 hO4
      go_upto_region 6 with (at_builtin; refine wpList_append_int rfl _ _ _ rfl Try.underlying56 w2.heap.size _ (cstL l ⟨k, fr, un, ps⟩ q) rfl (hO5.out.alloc _) w5.heap.size 1 N rfl ((Row.new' w5 [_] _ rfl).cell 0 rfl) (by rw [cstL_length]; omega) (by simp; omega) ?_; intro v' w6 hown1 hbl1 hsz1)
      have H7 : Hid (Below w2.heap.size w2 w6) := hbl1 w2 (hB5.out.alloc hB5.out.size _)
      have H1 : Hid (OwnV w6 w2.heap.size v' (cstL l ⟨k, fr, un, ps⟩ (q + 1))) := by
       show OwnV _ _ _ _
       rw [cstL_succ, HCS.out]; exact hown1
      have H2 : Hid (S0 + T = sumT (keepJ l ⟨k, fr, un, ps⟩) (q + 1)) := by
       show _ = _
       unfold sumT; rw [HS0.out, HKJ.out]
      have H3 : Hid (S1 + N = sumT (fun j => (cstJ l ⟨k, fr, un, ps⟩ j).1) (q + 1)) := by
       show _ = _
       unfold sumT; rw [HS1.out, HCS.out]
      have H4 : Hid (errT l ⟨k, fr, un, ps⟩ (q + 1) = 0) := HF1.out.trans HF.out
      clear hown1 hbl1 hsz1 hB5 hO5 HF1 HF HKJ HCS HS0 HS1
      go_wp2_with fail
      go_roundw
      case rel => exact ⟨q + 1, by omega, by rw [H2.out], by rw [H3.out], by go_num, H1.out, H4.out, H7.out⟩
      case measure => simp [intOf]; omega
     ·
      have hF' : (F != 0) = true := by simpa using hF
      obtain ⟨rfl, rfl, rfl⟩ : P = [] ∧ K = 0 ∧ E = F := by
       have h := HY.out
       have h2 : errT l ⟨k, fr, un, ps⟩ M = F := by rw [← HF1.out]; exact errT_stay (by omega) (by rw [HF1.out]; exact hF)
       rw [h2, if_pos hF] at h
       simp only [Prod.mk.injEq] at h
       exact h
      clear hF
      go_wp2_with fail
      go_returns
      refine ⟨_, rfl, SlV.nil _, ?_⟩
      have hBw : Below w.heap.size w w3 := HSB.out.trans (hB3.out.mono hsW)
      exact hBw.alloc hBw.size _
    ·
     obtain rfl : M = q := by omega
     have h := HY.out
     rw [hE.out, if_neg (by simp), HS0.out, HS1.out] at h
     have hun6 : fr + (M : Int) = un := by omega
     have HSM : Hid (Below w.heap.size w wr) := HSB.out.trans (hB.out.mono hsW)
     by_cases hbig : 1000000000 < S1
     ·
      rw [if_pos hbig] at h
      simp only [Prod.mk.injEq] at h
      obtain ⟨rfl, rfl, rfl⟩ := h
      have hun7 : ¬ (fr + (M : Int) < un) := by omega
      have HUN := Lib.hid hun6
      clear hun6
      go_wp2_with fail
      go_returns
      exact ⟨_, rfl, SlV.nil _, HSM.out⟩
     ·
      rw [if_neg hbig] at h
      simp only [Prod.mk.injEq] at h
      obtain ⟨hP, hK, rfl⟩ := h
      subst hK
      have HPP := Lib.hid hP
      have hun7 : ¬ (fr + (M : Int) < un) := by omega
      have HUN := Lib.hid hun6
      clear hun6 hP
      go_wp2_with fail
      refine (clip_own hO.out).mono ?_
      rintro e w4 ⟨u, rfl, hu, hb4⟩
      have HU := Lib.hid hu
      have HB4 := Lib.hid hb4
      clear hu hb4
      go_wp2_with fail
      go_returns
      exact ⟨_, rfl, by rw [HPP.out]; exact HU.out, HSM.out.trans (HB4.out.mono HSM.out.size)⟩
end
section
set_option linter.unusedSimpArgs false
set_option linter.unusedVariables false
open Go.RowKit
set_option maxHeartbeats 800000 in
theorem leaf_any (op n : Int) (w : World) :
  Calls Try.prog 51 #[.int .i64 op, .int .i64 n] w fun e w' => e = .returned (.agg #[.int .i64 op, .int .i64 n, .slice none 0 0]) ∧ Below w.heap.size w w' := by
 go_enter Try.func51, Try.ntmps51
 go_wp2_with fail
 refine bodyPost_ret (v := .agg #[.int .i64 op, .int .i64 n, .slice none 0 0]) (by simp [results, Try.results51, go_sem]) rfl ⟨rfl, by (repeat' (first | (with_reducible first | exact Below.refl _ _ | assumption | exact Bw.out (by assumption) | refine bw_alloc ?_ _ | refine bw_step ?_ (by assumption) | refine Below.alloc ?_ ?_ _ | refine Below.drew ?_ | refine below_drewN ?_ _ | refine Below.setCell ?_ ?_ _ | refine below_step ?_ (by assumption) ?_ | exact Nat.le_refl _) | omega | (simp; omega) | (simp; done)))⟩
set_option maxHeartbeats 800000 in
theorem node_any (op : Int) (ad : Option Addr) (n cap : Nat) (w : World) :
  Calls Try.prog 50 #[.int .i64 op, .slice ad n cap] w fun e w' => e = .returned (.agg #[.int .i64 op, .int .i64 0, .slice ad n cap]) ∧ Below w.heap.size w w' := by
 go_enter Try.func50, Try.ntmps50
 go_wp2_with fail
 refine bodyPost_ret (v := .agg #[.int .i64 op, .int .i64 0, .slice ad n cap]) (by simp [results, Try.results50, go_sem]) rfl ⟨rfl, by (repeat' (first | (with_reducible first | exact Below.refl _ _ | assumption | exact Bw.out (by assumption) | refine bw_alloc ?_ _ | refine bw_step ?_ (by assumption) | refine Below.alloc ?_ ?_ _ | refine Below.drew ?_ | refine below_drewN ?_ _ | refine Below.setCell ?_ ?_ _ | refine below_step ?_ (by assumption) ?_ | exact Nat.le_refl _) | omega | (simp; omega) | (simp; done)))⟩
/-- The rate of the example. -/
abbrev exR (A B C : Nat) : RateV := ⟨7, 1, 2, 10, 40, 2, 9, 127, 1, 2, nd 11 A [lf 3 1, lf 1 5], nd 4 B [lf 2 10000, nd 6 C [lf 2 2000, lf 3 2]]⟩
set_option maxRecDepth 100000 in
set_option maxHeartbeats 3200000 in
theorem example_any (w : World) :
  Calls Try.prog 48 #[] w fun e w' => ∃ D A B C, e = .returned (.slice (some ⟨D, 0, none⟩) 1 1) ∧ SlR w' (some ⟨D, 0, none⟩) 1 [exR A B C] ∧ Below w.heap.size w w' := by
 go_enter Try.func48, Try.ntmps48
 go_wp2_with fail
 refine (leaf_any 3 1 _).mono ?_
 rintro e w1 ⟨rfl, hb1⟩
 have HB1 : Below w.heap.size w w1 := by (repeat' (first | (with_reducible first | exact Below.refl _ _ | assumption | exact Bw.out (by assumption) | refine bw_alloc ?_ _ | refine bw_step ?_ (by assumption) | refine Below.alloc ?_ ?_ _ | refine Below.drew ?_ | refine below_drewN ?_ _ | refine Below.setCell ?_ ?_ _ | refine below_step ?_ (by assumption) ?_ | exact Nat.le_refl _) | omega | (simp; omega) | (simp; done)))
 go_wp2_with fail
 refine (leaf_any 1 5 _).mono ?_
 rintro e w2 ⟨rfl, hb2⟩
 have HB2 : Below w.heap.size w w2 := by (repeat' (first | (with_reducible first | exact Below.refl _ _ | assumption | exact Bw.out (by assumption) | refine bw_alloc ?_ _ | refine bw_step ?_ (by assumption) | refine Below.alloc ?_ ?_ _ | refine Below.drew ?_ | refine below_drewN ?_ _ | refine Below.setCell ?_ ?_ _ | refine below_step ?_ (by assumption) ?_ | exact Nat.le_refl _) | omega | (simp; omega) | (simp; done)))
 clear hb1 HB1
 go_wp2_with fail
 refine (node_any 11 _ 2 2 _).mono ?_
 rintro e w3 ⟨rfl, hb3⟩
 have R_b_3 : Row w3 (w2.heap.size) [.int .i64 3, .int .i64 1, .slice none 0 0, .int .i64 1, .int .i64 5, .slice none 0 0] := by (repeat' (first | (with_reducible assumption) | (with_reducible refine Row.new' _ _ _ (by first | rfl | (simp; done) | omega)) | (with_reducible first | refine Row.alloc ?_ _ | refine Row.drew ?_ | refine Row.step ?_ (by assumption) | refine Row.drewN ?_ _) | (with_reducible refine Row.set2' ?_ _ _; first | exact ⟨_, _, by assumption⟩ | exact ⟨_, _, Row.alloc (by assumption) _⟩) | (with_reducible refine Row.other ?_ (by first | omega | (simp; omega)) _)))
 have c_b_0_3 := R_b_3.cell 0 rfl
 have c_b_1_3 := R_b_3.cell 1 rfl
 have c_b_2_3 := R_b_3.cell 2 rfl
 have c_b_3_3 := R_b_3.cell 3 rfl
 have c_b_4_3 := R_b_3.cell 4 rfl
 have c_b_5_3 := R_b_3.cell 5 rfl
 have l_b_3 := R_b_3.lt
 have HB3 : Below w.heap.size w w3 := by (repeat' (first | (with_reducible first | exact Below.refl _ _ | assumption | exact Bw.out (by assumption) | refine bw_alloc ?_ _ | refine bw_step ?_ (by assumption) | refine Below.alloc ?_ ?_ _ | refine Below.drew ?_ | refine below_drewN ?_ _ | refine Below.setCell ?_ ?_ _ | refine below_step ?_ (by assumption) ?_ | exact Nat.le_refl _) | omega | (simp; omega) | (simp; done)))
 clear hb2 HB2
 go_wp2_with fail
 refine (leaf_any 2 10000 _).mono ?_
 rintro e w4 ⟨rfl, hb4⟩
 have R_b_4 : Row w4 (w2.heap.size) [.int .i64 3, .int .i64 1, .slice none 0 0, .int .i64 1, .int .i64 5, .slice none 0 0] := by (repeat' (first | (with_reducible assumption) | (with_reducible refine Row.new' _ _ _ (by first | rfl | (simp; done) | omega)) | (with_reducible first | refine Row.alloc ?_ _ | refine Row.drew ?_ | refine Row.step ?_ (by assumption) | refine Row.drewN ?_ _) | (with_reducible refine Row.set2' ?_ _ _; first | exact ⟨_, _, by assumption⟩ | exact ⟨_, _, Row.alloc (by assumption) _⟩) | (with_reducible refine Row.other ?_ (by first | omega | (simp; omega)) _)))
 have c_b_0_4 := R_b_4.cell 0 rfl
 have c_b_1_4 := R_b_4.cell 1 rfl
 have c_b_2_4 := R_b_4.cell 2 rfl
 have c_b_3_4 := R_b_4.cell 3 rfl
 have c_b_4_4 := R_b_4.cell 4 rfl
 have c_b_5_4 := R_b_4.cell 5 rfl
 have l_b_4 := R_b_4.lt
 have R_p_4 : Row w4 (w3.heap.size) [.int .i64 11, .int .i64 0, .slice (some ⟨w2.heap.size, 0, none⟩) 2 2] := by (repeat' (first | (with_reducible assumption) | (with_reducible refine Row.new' _ _ _ (by first | rfl | (simp; done) | omega)) | (with_reducible first | refine Row.alloc ?_ _ | refine Row.drew ?_ | refine Row.step ?_ (by assumption) | refine Row.drewN ?_ _) | (with_reducible refine Row.set2' ?_ _ _; first | exact ⟨_, _, by assumption⟩ | exact ⟨_, _, Row.alloc (by assumption) _⟩) | (with_reducible refine Row.other ?_ (by first | omega | (simp; omega)) _)))
 have c_p_0_4 := R_p_4.cell 0 rfl
 have c_p_1_4 := R_p_4.cell 1 rfl
 have c_p_2_4 := R_p_4.cell 2 rfl
 have l_p_4 := R_p_4.lt
 have HB4 : Below w.heap.size w w4 := by (repeat' (first | (with_reducible first | exact Below.refl _ _ | assumption | exact Bw.out (by assumption) | refine bw_alloc ?_ _ | refine bw_step ?_ (by assumption) | refine Below.alloc ?_ ?_ _ | refine Below.drew ?_ | refine below_drewN ?_ _ | refine Below.setCell ?_ ?_ _ | refine below_step ?_ (by assumption) ?_ | exact Nat.le_refl _) | omega | (simp; omega) | (simp; done)))
 clear R_b_3 c_b_0_3 c_b_1_3 c_b_2_3 c_b_3_3 c_b_4_3 c_b_5_3 hb3 HB3
 go_wp2_with fail
 refine (leaf_any 2 2000 _).mono ?_
 rintro e w5 ⟨rfl, hb5⟩
 have R_b_5 : Row w5 (w2.heap.size) [.int .i64 3, .int .i64 1, .slice none 0 0, .int .i64 1, .int .i64 5, .slice none 0 0] := by (repeat' (first | (with_reducible assumption) | (with_reducible refine Row.new' _ _ _ (by first | rfl | (simp; done) | omega)) | (with_reducible first | refine Row.alloc ?_ _ | refine Row.drew ?_ | refine Row.step ?_ (by assumption) | refine Row.drewN ?_ _) | (with_reducible refine Row.set2' ?_ _ _; first | exact ⟨_, _, by assumption⟩ | exact ⟨_, _, Row.alloc (by assumption) _⟩) | (with_reducible refine Row.other ?_ (by first | omega | (simp; omega)) _)))
 have c_b_0_5 := R_b_5.cell 0 rfl
 have c_b_1_5 := R_b_5.cell 1 rfl
 have c_b_2_5 := R_b_5.cell 2 rfl
 have c_b_3_5 := R_b_5.cell 3 rfl
 have c_b_4_5 := R_b_5.cell 4 rfl
 have c_b_5_5 := R_b_5.cell 5 rfl
 have l_b_5 := R_b_5.lt
 have R_p_5 : Row w5 (w3.heap.size) [.int .i64 11, .int .i64 0, .slice (some ⟨w2.heap.size, 0, none⟩) 2 2] := by (repeat' (first | (with_reducible assumption) | (with_reducible refine Row.new' _ _ _ (by first | rfl | (simp; done) | omega)) | (with_reducible first | refine Row.alloc ?_ _ | refine Row.drew ?_ | refine Row.step ?_ (by assumption) | refine Row.drewN ?_ _) | (with_reducible refine Row.set2' ?_ _ _; first | exact ⟨_, _, by assumption⟩ | exact ⟨_, _, Row.alloc (by assumption) _⟩) | (with_reducible refine Row.other ?_ (by first | omega | (simp; omega)) _)))
 have c_p_0_5 := R_p_5.cell 0 rfl
 have c_p_1_5 := R_p_5.cell 1 rfl
 have c_p_2_5 := R_p_5.cell 2 rfl
 have l_p_5 := R_p_5.lt
 have HB5 : Below w.heap.size w w5 := by (repeat' (first | (with_reducible first | exact Below.refl _ _ | assumption | exact Bw.out (by assumption) | refine bw_alloc ?_ _ | refine bw_step ?_ (by assumption) | refine Below.alloc ?_ ?_ _ | refine Below.drew ?_ | refine below_drewN ?_ _ | refine Below.setCell ?_ ?_ _ | refine below_step ?_ (by assumption) ?_ | exact Nat.le_refl _) | omega | (simp; omega) | (simp; done)))
 clear R_b_4 c_b_0_4 c_b_1_4 c_b_2_4 c_b_3_4 c_b_4_4 c_b_5_4 R_p_4 c_p_0_4 c_p_1_4 c_p_2_4 hb4 HB4
 go_wp2_with fail
 refine (leaf_any 3 2 _).mono ?_
 rintro e w6 ⟨rfl, hb6⟩
 have R_b_6 : Row w6 (w2.heap.size) [.int .i64 3, .int .i64 1, .slice none 0 0, .int .i64 1, .int .i64 5, .slice none 0 0] := by (repeat' (first | (with_reducible assumption) | (with_reducible refine Row.new' _ _ _ (by first | rfl | (simp; done) | omega)) | (with_reducible first | refine Row.alloc ?_ _ | refine Row.drew ?_ | refine Row.step ?_ (by assumption) | refine Row.drewN ?_ _) | (with_reducible refine Row.set2' ?_ _ _; first | exact ⟨_, _, by assumption⟩ | exact ⟨_, _, Row.alloc (by assumption) _⟩) | (with_reducible refine Row.other ?_ (by first | omega | (simp; omega)) _)))
 have c_b_0_6 := R_b_6.cell 0 rfl
 have c_b_1_6 := R_b_6.cell 1 rfl
 have c_b_2_6 := R_b_6.cell 2 rfl
 have c_b_3_6 := R_b_6.cell 3 rfl
 have c_b_4_6 := R_b_6.cell 4 rfl
 have c_b_5_6 := R_b_6.cell 5 rfl
 have l_b_6 := R_b_6.lt
 have R_p_6 : Row w6 (w3.heap.size) [.int .i64 11, .int .i64 0, .slice (some ⟨w2.heap.size, 0, none⟩) 2 2] := by (repeat' (first | (with_reducible assumption) | (with_reducible refine Row.new' _ _ _ (by first | rfl | (simp; done) | omega)) | (with_reducible first | refine Row.alloc ?_ _ | refine Row.drew ?_ | refine Row.step ?_ (by assumption) | refine Row.drewN ?_ _) | (with_reducible refine Row.set2' ?_ _ _; first | exact ⟨_, _, by assumption⟩ | exact ⟨_, _, Row.alloc (by assumption) _⟩) | (with_reducible refine Row.other ?_ (by first | omega | (simp; omega)) _)))
 have c_p_0_6 := R_p_6.cell 0 rfl
 have c_p_1_6 := R_p_6.cell 1 rfl
 have c_p_2_6 := R_p_6.cell 2 rfl
 have l_p_6 := R_p_6.lt
 have HB6 : Below w.heap.size w w6 := by (repeat' (first | (with_reducible first | exact Below.refl _ _ | assumption | exact Bw.out (by assumption) | refine bw_alloc ?_ _ | refine bw_step ?_ (by assumption) | refine Below.alloc ?_ ?_ _ | refine Below.drew ?_ | refine below_drewN ?_ _ | refine Below.setCell ?_ ?_ _ | refine below_step ?_ (by assumption) ?_ | exact Nat.le_refl _) | omega | (simp; omega) | (simp; done)))
 clear R_b_5 c_b_0_5 c_b_1_5 c_b_2_5 c_b_3_5 c_b_4_5 c_b_5_5 R_p_5 c_p_0_5 c_p_1_5 c_p_2_5 hb5 HB5
 go_wp2_with fail
 refine (node_any 6 _ 2 2 _).mono ?_
 rintro e w7 ⟨rfl, hb7⟩
 have R_b_7 : Row w7 (w2.heap.size) [.int .i64 3, .int .i64 1, .slice none 0 0, .int .i64 1, .int .i64 5, .slice none 0 0] := by (repeat' (first | (with_reducible assumption) | (with_reducible refine Row.new' _ _ _ (by first | rfl | (simp; done) | omega)) | (with_reducible first | refine Row.alloc ?_ _ | refine Row.drew ?_ | refine Row.step ?_ (by assumption) | refine Row.drewN ?_ _) | (with_reducible refine Row.set2' ?_ _ _; first | exact ⟨_, _, by assumption⟩ | exact ⟨_, _, Row.alloc (by assumption) _⟩) | (with_reducible refine Row.other ?_ (by first | omega | (simp; omega)) _)))
 have c_b_0_7 := R_b_7.cell 0 rfl
 have c_b_1_7 := R_b_7.cell 1 rfl
 have c_b_2_7 := R_b_7.cell 2 rfl
 have c_b_3_7 := R_b_7.cell 3 rfl
 have c_b_4_7 := R_b_7.cell 4 rfl
 have c_b_5_7 := R_b_7.cell 5 rfl
 have l_b_7 := R_b_7.lt
 have R_p_7 : Row w7 (w3.heap.size) [.int .i64 11, .int .i64 0, .slice (some ⟨w2.heap.size, 0, none⟩) 2 2] := by (repeat' (first | (with_reducible assumption) | (with_reducible refine Row.new' _ _ _ (by first | rfl | (simp; done) | omega)) | (with_reducible first | refine Row.alloc ?_ _ | refine Row.drew ?_ | refine Row.step ?_ (by assumption) | refine Row.drewN ?_ _) | (with_reducible refine Row.set2' ?_ _ _; first | exact ⟨_, _, by assumption⟩ | exact ⟨_, _, Row.alloc (by assumption) _⟩) | (with_reducible refine Row.other ?_ (by first | omega | (simp; omega)) _)))
 have c_p_0_7 := R_p_7.cell 0 rfl
 have c_p_1_7 := R_p_7.cell 1 rfl
 have c_p_2_7 := R_p_7.cell 2 rfl
 have l_p_7 := R_p_7.lt
 have R_q_7 : Row w7 (w6.heap.size) [.int .i64 2, .int .i64 2000, .slice none 0 0, .int .i64 3, .int .i64 2, .slice none 0 0] := by (repeat' (first | (with_reducible assumption) | (with_reducible refine Row.new' _ _ _ (by first | rfl | (simp; done) | omega)) | (with_reducible first | refine Row.alloc ?_ _ | refine Row.drew ?_ | refine Row.step ?_ (by assumption) | refine Row.drewN ?_ _) | (with_reducible refine Row.set2' ?_ _ _; first | exact ⟨_, _, by assumption⟩ | exact ⟨_, _, Row.alloc (by assumption) _⟩) | (with_reducible refine Row.other ?_ (by first | omega | (simp; omega)) _)))
 have c_q_0_7 := R_q_7.cell 0 rfl
 have c_q_1_7 := R_q_7.cell 1 rfl
 have c_q_2_7 := R_q_7.cell 2 rfl
 have c_q_3_7 := R_q_7.cell 3 rfl
 have c_q_4_7 := R_q_7.cell 4 rfl
 have c_q_5_7 := R_q_7.cell 5 rfl
 have l_q_7 := R_q_7.lt
 have HB7 : Below w.heap.size w w7 := by (repeat' (first | (with_reducible first | exact Below.refl _ _ | assumption | exact Bw.out (by assumption) | refine bw_alloc ?_ _ | refine bw_step ?_ (by assumption) | refine Below.alloc ?_ ?_ _ | refine Below.drew ?_ | refine below_drewN ?_ _ | refine Below.setCell ?_ ?_ _ | refine below_step ?_ (by assumption) ?_ | exact Nat.le_refl _) | omega | (simp; omega) | (simp; done)))
 clear R_b_6 c_b_0_6 c_b_1_6 c_b_2_6 c_b_3_6 c_b_4_6 c_b_5_6 R_p_6 c_p_0_6 c_p_1_6 c_p_2_6 hb6 HB6
 go_wp2_with fail
 refine (node_any 4 _ 2 2 _).mono ?_
 rintro e w8 ⟨rfl, hb8⟩
 have R_b_8 : Row w8 (w2.heap.size) [.int .i64 3, .int .i64 1, .slice none 0 0, .int .i64 1, .int .i64 5, .slice none 0 0] := by (repeat' (first | (with_reducible assumption) | (with_reducible refine Row.new' _ _ _ (by first | rfl | (simp; done) | omega)) | (with_reducible first | refine Row.alloc ?_ _ | refine Row.drew ?_ | refine Row.step ?_ (by assumption) | refine Row.drewN ?_ _) | (with_reducible refine Row.set2' ?_ _ _; first | exact ⟨_, _, by assumption⟩ | exact ⟨_, _, Row.alloc (by assumption) _⟩) | (with_reducible refine Row.other ?_ (by first | omega | (simp; omega)) _)))
 have c_b_0_8 := R_b_8.cell 0 rfl
 have c_b_1_8 := R_b_8.cell 1 rfl
 have c_b_2_8 := R_b_8.cell 2 rfl
 have c_b_3_8 := R_b_8.cell 3 rfl
 have c_b_4_8 := R_b_8.cell 4 rfl
 have c_b_5_8 := R_b_8.cell 5 rfl
 have l_b_8 := R_b_8.lt
 have R_p_8 : Row w8 (w3.heap.size) [.int .i64 11, .int .i64 0, .slice (some ⟨w2.heap.size, 0, none⟩) 2 2] := by (repeat' (first | (with_reducible assumption) | (with_reducible refine Row.new' _ _ _ (by first | rfl | (simp; done) | omega)) | (with_reducible first | refine Row.alloc ?_ _ | refine Row.drew ?_ | refine Row.step ?_ (by assumption) | refine Row.drewN ?_ _) | (with_reducible refine Row.set2' ?_ _ _; first | exact ⟨_, _, by assumption⟩ | exact ⟨_, _, Row.alloc (by assumption) _⟩) | (with_reducible refine Row.other ?_ (by first | omega | (simp; omega)) _)))
 have c_p_0_8 := R_p_8.cell 0 rfl
 have c_p_1_8 := R_p_8.cell 1 rfl
 have c_p_2_8 := R_p_8.cell 2 rfl
 have l_p_8 := R_p_8.lt
 have R_q_8 : Row w8 (w6.heap.size) [.int .i64 2, .int .i64 2000, .slice none 0 0, .int .i64 3, .int .i64 2, .slice none 0 0] := by (repeat' (first | (with_reducible assumption) | (with_reducible refine Row.new' _ _ _ (by first | rfl | (simp; done) | omega)) | (with_reducible first | refine Row.alloc ?_ _ | refine Row.drew ?_ | refine Row.step ?_ (by assumption) | refine Row.drewN ?_ _) | (with_reducible refine Row.set2' ?_ _ _; first | exact ⟨_, _, by assumption⟩ | exact ⟨_, _, Row.alloc (by assumption) _⟩) | (with_reducible refine Row.other ?_ (by first | omega | (simp; omega)) _)))
 have c_q_0_8 := R_q_8.cell 0 rfl
 have c_q_1_8 := R_q_8.cell 1 rfl
 have c_q_2_8 := R_q_8.cell 2 rfl
 have c_q_3_8 := R_q_8.cell 3 rfl
 have c_q_4_8 := R_q_8.cell 4 rfl
 have c_q_5_8 := R_q_8.cell 5 rfl
 have l_q_8 := R_q_8.lt
 have R_m_8 : Row w8 (w7.heap.size) [.int .i64 2, .int .i64 10000, .slice none 0 0, .int .i64 6, .int .i64 0, .slice (some ⟨w6.heap.size, 0, none⟩) 2 2] := by (repeat' (first | (with_reducible assumption) | (with_reducible refine Row.new' _ _ _ (by first | rfl | (simp; done) | omega)) | (with_reducible first | refine Row.alloc ?_ _ | refine Row.drew ?_ | refine Row.step ?_ (by assumption) | refine Row.drewN ?_ _) | (with_reducible refine Row.set2' ?_ _ _; first | exact ⟨_, _, by assumption⟩ | exact ⟨_, _, Row.alloc (by assumption) _⟩) | (with_reducible refine Row.other ?_ (by first | omega | (simp; omega)) _)))
 have c_m_0_8 := R_m_8.cell 0 rfl
 have c_m_1_8 := R_m_8.cell 1 rfl
 have c_m_2_8 := R_m_8.cell 2 rfl
 have c_m_3_8 := R_m_8.cell 3 rfl
 have c_m_4_8 := R_m_8.cell 4 rfl
 have c_m_5_8 := R_m_8.cell 5 rfl
 have l_m_8 := R_m_8.lt
 have HB8 : Below w.heap.size w w8 := by (repeat' (first | (with_reducible first | exact Below.refl _ _ | assumption | exact Bw.out (by assumption) | refine bw_alloc ?_ _ | refine bw_step ?_ (by assumption) | refine Below.alloc ?_ ?_ _ | refine Below.drew ?_ | refine below_drewN ?_ _ | refine Below.setCell ?_ ?_ _ | refine below_step ?_ (by assumption) ?_ | exact Nat.le_refl _) | omega | (simp; omega) | (simp; done)))
 clear R_b_7 c_b_0_7 c_b_1_7 c_b_2_7 c_b_3_7 c_b_4_7 c_b_5_7 R_p_7 c_p_0_7 c_p_1_7 c_p_2_7 R_q_7 c_q_0_7 c_q_1_7 c_q_2_7 c_q_3_7 c_q_4_7 c_q_5_7 hb7 HB7
 go_wp2_with fail
 go_ret
 have hI : (exR w2.heap.size w7.heap.size w6.heap.size).In (w8.alloc (.cells #[.int .i64 4, .int .i64 0, .slice (some ⟨w7.heap.size, 0, none⟩) 2 2] 24)) :=
  ⟨nd_row2 (R_b_8.alloc _) 11 (lf 3 1) (lf 1 5) rfl (lf_in _ _ _) (lf_in _ _ _), nd_row2 (R_m_8.alloc _) 4 (lf 2 10000) (nd 6 w6.heap.size [lf 2 2000, lf 3 2]) rfl (lf_in _ _ _) (nd_row2 (R_q_8.alloc _) 6 (lf 2 2000) (lf 3 2) rfl (lf_in _ _ _) (lf_in _ _ _))⟩
 refine ⟨w8.heap.size + 1, w2.heap.size, w7.heap.size, w6.heap.size, rfl, slr_new [exR w2.heap.size w7.heap.size w6.heap.size] _ _ (by simp) rfl (fun x hx => by simp at hx; subst hx; exact hI) 1 rfl, ?_⟩
 (repeat' (first | (with_reducible first | exact Below.refl _ _ | assumption | exact Bw.out (by assumption) | refine bw_alloc ?_ _ | refine bw_step ?_ (by assumption) | refine Below.alloc ?_ ?_ _ | refine Below.drew ?_ | refine below_drewN ?_ _ | refine Below.setCell ?_ ?_ _ | refine below_step ?_ (by assumption) ?_ | exact Nat.le_refl _) | omega | (simp; omega) | (simp; done)))
end
section
set_option linter.unusedSimpArgs false
set_option linter.unusedVariables false
open Go.RowKit
theorem take_succ_getD {l : List Int} {k : Nat} (h : k < l.length) : l.take (k + 1) = l.take k ++ [l.getD k 0] := by
 rw [List.take_succ_eq_append_getElem h]; simp [List.getD, h]
set_option maxRecDepth 100000 in
set_option maxHeartbeats 1600000 in
theorem R_sameInts_q (a b : Option Addr) (n m cap cap2 : Nat) (zs ys : List Int) (w : World) (hn : n ≤ 9223372036854775807) (hm : m ≤ 9223372036854775807) (hs : SlI w a n zs) (ht : SlI w b m ys) :
  Calls Try.prog 29 #[.slice a n cap, .slice b m cap2] w fun e w' => e = .returned (.bool (decide (zs = ys))) ∧ ∃ q, w' = w.drewN q := by
 have l1 := Lib.hid hs.1
 have l2 := Lib.hid ht.1
 have HS := Lib.hid hs
 have HT := Lib.hid ht
 clear hs ht
 by_cases hnm : n = m
 ·
  subst hnm
  obtain ⟨R, hR⟩ : ∃ R, decide (zs = ys) = R := ⟨_, rfl⟩
  rw [hR]
  have HR := Lib.hid hR
  clear hR
  go_enter Try.func29, Try.ntmps29
  go_wp2_with fail
  go_loopw [5] (fun i wr => ∃ k : Nat, k ≤ n ∧ i = .int .i64 k ∧ Hid (zs.take k = ys.take k) ∧ Hid (∃ q, wr = w.drewN q)) (fun i _ => n - (intOf i).toNat)
  case atStart => exact ⟨0, Nat.zero_le _, rfl, by show _ = _; simp, 0, rfl⟩
  case round =>
   obtain ⟨k, hk, rfl, hT, hq⟩ := hrel
   obtain ⟨q, hq⟩ := hq.out
   subst hq
   by_cases hlt : k < n
   ·
    obtain ⟨b1, o1, x, e1, _, c1, g1, _, _⟩ := HS.out.get hlt
    obtain ⟨b2, o2, y, e2, _, c2, g2, _, _⟩ := HT.out.get hlt
    subst e1 e2
    have i1 : (0 : Int) ≤ (k : Int) := by omega
    have i2 : (k : Int) < (n : Int) := by omega
    by_cases hxy : x = y
    ·
     subst hxy
     go_wp2_with fail
     go_quiet (fail)
     go_wp2_with fail
     go_roundw
     case rel => exact ⟨k + 1, by omega, by go_num, by show _ = _; rw [take_succ_getD (by rw [l1.out]; exact hlt), take_succ_getD (by rw [l2.out]; exact hlt), hT.out, g1.out, g2.out], _, rfl⟩
     case measure => simp [intOf]; omega
    ·
     have hb : (x != y) = true := by simpa using hxy
     have hr : R = false := by
      rw [← HR.out]; simp; intro h; rw [h] at g1; exact hxy (g1.out.symm.trans g2.out)
     subst hr
     clear hxy
     go_wp2_with fail
     go_quiet (fail)
     go_wp2_with fail
     go_ret
     exact ⟨rfl, _, by first | rfl | exact World.drewN_drewN _ _ _⟩
   ·
    obtain rfl : n = k := by omega
    have hr : R = true := by
     rw [← HR.out]; simp
     have := hT.out
     rwa [List.take_of_length_le (by rw [l1.out]; omega), List.take_of_length_le (by rw [l2.out]; omega)] at this
    subst hr
    go_wp2_with fail
    go_ret
    exact ⟨rfl, q, rfl⟩
 ·
  have hr : decide (zs = ys) = false := by
   simp; intro h; apply hnm; rw [← l1.out, ← l2.out, h]
  rw [hr]
  clear hr
  have hb : ((n : Int) != (m : Int)) = true := by simp; omega
  have hb2 : (n != m) = true := by simp; omega
  clear hnm
  go_enter Try.func29, Try.ntmps29
  go_wp2_with fail
  go_ret
  exact ⟨rfl, 0, rfl⟩
theorem R_sameInts (v u : Value) (zs ys : List Int) (w : World) (hs : SlV w v zs) (ht : SlV w u ys) :
  Calls Try.prog 29 #[v, u] w fun e w' => e = .returned (.bool (decide (zs = ys))) ∧ Below w.heap.size w w' := by
 obtain ⟨a, c, rfl, h1, h2, h3⟩ := hs
 obtain ⟨b, d, rfl, g1, g2, g3⟩ := ht
 unfold maxLen at h3 g3
 refine (R_sameInts_q a b _ _ c d zs ys w (by omega) (by omega) h1 g1).mono ?_
 rintro e w' ⟨he, q, rfl⟩
 exact ⟨he, below_drewN (Below.refl _ _) q⟩
theorem R_same_c (v u : Value) (zs ys : List Int) (w : World) (hv : SlV w v zs) (hu : SlV w u ys) (b : Bool) (hb : decide (zs = ys) = b) :
  Calls Try.prog 29 #[v, u] w fun e w' => e = .returned (.bool b) ∧ Below w.heap.size w w' := by
 rw [← hb]; exact R_sameInts v u zs ys w hv hu
theorem SlV.lit {w : World} {g n : Nat} {cs : List Value} {zs : List Int} (h : Row w g cs) (hz : cs = zs.map (Value.int .i64)) (hn : zs.length = n) (hm : n ≤ 1000) : SlV w (.slice (some ⟨g, 0, none⟩) n n) zs := by
 subst hn
 subst hz
 exact ⟨_, _, rfl, SlI.row (rest := []) (by simpa using h) rfl, Nat.le_refl _, by unfold maxLen; omega⟩
theorem SlV.form {w : World} {v : Value} {zs : List Int} (h : SlV w v zs) {m : Nat} (hm : zs.length = m) : ∃ ad cp, v = .slice ad m cp ∧ SlV w (.slice ad m cp) zs := by
 have h' := h
 obtain ⟨ad, cp, e, _⟩ := h
 subst hm
 exact ⟨ad, cp, e, e ▸ h'⟩
end
end Go.Proofs.Ytcmodmchnokmgaa
