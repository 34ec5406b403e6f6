/-
 Loads of whole rates, at once: cell by cell they cost the kernel a quarter of a minute each.
-/
import Derived.Test.YtcmodmchnokmgaaMA
import Derived.Test.YtcmodmchnokmgaaME
import Derived.Deep.MidRow
namespace Go.Proofs.Ytcmodmchnokmgaa
set_option linter.unusedSimpArgs false
set_option linter.unusedVariables false
open Go.RowKit
/-- The 16 cells that lie at p. -/
def ldV (w : World) (p : Value) : Option Value := match p with
 | .pointer (some ⟨b, o, none⟩) => if ∀ j, j < 16 → (w.cell? ⟨b, o + j, none⟩).isSome = true then some (.agg ((List.range 16).map (fun j => (w.cell? ⟨b, o + j, none⟩).getD undef)).toArray) else none
 | _ => none
def ldR (p : Value) : Sem Value := Instr.loadAt 30 p
def ldX (p : Value) : Sem Value := Instr.loadAt 30 p
theorem ld_eq (p : Value) : Instr.loadAt 30 p = ldR p := rfl
theorem ldV_at {w : World} {b o : Nat} {cs : List Value} (h : ∀ j v, cs[j]? = some v → w.cell? ⟨b, o + j, none⟩ = some v) (hl : cs.length = 16) : ldV w (.pointer (some ⟨b, o, none⟩)) = some (.agg cs.toArray) := by
 have hc : ∀ j, j < 16 → w.cell? ⟨b, o + j, none⟩ = cs[j]? := fun j hj => by
  rw [List.getElem?_eq_getElem (by omega)]; exact h j _ (List.getElem?_eq_getElem (by omega))
 unfold ldV
 simp only
 rw [if_pos (fun j hj => by rw [hc j hj, List.getElem?_eq_getElem (by omega)]; rfl)]
 congr 3
 refine List.ext_getElem? fun j => ?_
 by_cases hj : j < 16
 ·
  rw [List.getElem?_map, List.getElem?_range hj, Option.map_some, hc j hj, List.getElem?_eq_getElem (by omega)]; rfl
 ·
  rw [List.getElem?_eq_none (by simp; omega), List.getElem?_eq_none (by omega)]
theorem ldV_row {w : World} {b : Nat} {cs : List Value} (h : Row w b cs) (hl : cs.length = 16) : ldV w (.pointer (some ⟨b, 0, none⟩)) = some (.agg cs.toArray) :=
 ldV_at (fun j v hj => by rw [Nat.zero_add]; exact h.cell j hj) hl
theorem ldR_run (w : World) (p : Value) : (ldR p).run Try.prog w = match ldV w p with | some v => .ok v w | none => (ldX p).run Try.prog w := by
 cases hv : ldV w p with
 | none => rfl
 | some v =>
  unfold ldV at hv
  split at hv
  ·
   rename_i b o
   split at hv
   ·
    rename_i h
    cases hv
    unfold ldR
    refine run_loadAt_mid w b o 30 _ _ (fun j v hj => ?_) Try.underlying30 rfl (by kernel_rfl)
    have hlt : j < 16 := by have := (List.getElem?_eq_some_iff.1 hj).1; simpa using this
    rw [List.getElem?_map, List.getElem?_range hlt, Option.map_some] at hj
    obtain ⟨u, hu⟩ := Option.isSome_iff_exists.1 (h j hlt)
    rw [hu] at hj ⊢
    exact hj
   ·
    cases hv
  ·
   cases hv
theorem ldV_drew (w : World) (p : Value) : ldV w.drew p = ldV w p := rfl
theorem ldV_alloc (w : World) (ob : Obj) (b o : Nat) (h : b < w.heap.size) : ldV (w.alloc ob) (.pointer (some ⟨b, o, none⟩)) = ldV w (.pointer (some ⟨b, o, none⟩)) := by
 have hc : ∀ j, (w.alloc ob).cell? ⟨b, o + j, none⟩ = w.cell? ⟨b, o + j, none⟩ := fun j => World.cell?_alloc_lt w ob _ h
 unfold ldV
 simp only [hc]
theorem ldV_set (w : World) (b o c i : Nat) (v : Value) (h : c ≠ b) : ldV (w.setCell ⟨c, i, none⟩ v) (.pointer (some ⟨b, o, none⟩)) = ldV w (.pointer (some ⟨b, o, none⟩)) := by
 have hc : ∀ j, (w.setCell ⟨c, i, none⟩ v).cell? ⟨b, o + j, none⟩ = w.cell? ⟨b, o + j, none⟩ := fun j => World.cell?_setCell_other _ _ _ _ (fun e => h (by injection e))
 unfold ldV
 simp only [hc]
theorem ldV_new (w : World) (cs : Array Value) (T : TypeId) (h : cs.size = 16) : ldV (w.alloc (.cells cs T)) (.pointer (some ⟨w.heap.size, 0, none⟩)) = some (.agg cs) := by
 have hr : Row (w.alloc (.cells cs T)) w.heap.size cs.toList := by simpa using Row.new' w cs.toList T rfl
 exact ldV_row hr (by simpa using h)
/-! Stores of whole rates. -/
def sz16 (v : Value) : Bool := match v with | .agg cs => cs.size == 16 && cs.all (·.oneCell') | _ => false
/-- May 16 cells be stored at p? -/
def stB (w : World) (p : Value) : Bool := match p with
 | .pointer (some ⟨b, o, none⟩) => (List.range 16).all (fun j => (w.cell? ⟨b, o + j, none⟩).isSome && !w.frozen? ⟨b, o + j, none⟩)
 | _ => false
def stW (w : World) (p v : Value) : World := match p, v with
 | .pointer (some ⟨b, o, none⟩), .agg cs => Go.Proofs.Ytcmodmchnokmgaa.puz w b o cs.toList
 | _, _ => w
def stR (p v : Value) : Sem Unit := Instr.storeAt 30 p v
def stX (p v : Value) : Sem Unit := Instr.storeAt 30 p v
theorem st_eq (p v : Value) : Instr.storeAt 30 p v = stR p v := rfl
theorem sz16_rate (v0 v1 v2 v3 v4 v5 v6 v7 v8 v9 v10 v11 v13 v14 : Int) (a12 a15 : Option Addr) (n12 c12 n15 c15 : Nat) : sz16 (.agg #[.int .i64 v0, .int .i64 v1, .int .i64 v2, .int .i64 v3, .int .i64 v4, .int .i64 v5, .int .i64 v6, .int .i64 v7, .int .i64 v8, .int .i64 v9, .int .i64 v10, .int .i64 v11, .slice a12 n12 c12, .int .i64 v13, .int .i64 v14, .slice a15 n15 c15]) = true := by simp [sz16, Value.oneCell']
theorem stB_row {w : World} {b : Nat} {cs : List Value} (h : Row w b cs) (hl : cs.length = 16) : stB w (.pointer (some ⟨b, 0, none⟩)) = true := by
 unfold stB
 simp only [List.all_eq_true, List.mem_range]
 intro j hj
 rw [Nat.zero_add, h.cell j (List.getElem?_eq_getElem (by omega)), h.frozen j]
 rfl
theorem stB_drew (w : World) (p : Value) : stB w.drew p = stB w p := rfl
theorem stB_new (w : World) (v0 v1 v2 v3 v4 v5 v6 v7 v8 v9 v10 v11 v12 v13 v14 v15 : Value) (T : TypeId) : stB (w.alloc (.cells #[v0, v1, v2, v3, v4, v5, v6, v7, v8, v9, v10, v11, v12, v13, v14, v15] T)) (.pointer (some ⟨w.heap.size, 0, none⟩)) = true :=
 stB_row (Row.new' w [v0, v1, v2, v3, v4, v5, v6, v7, v8, v9, v10, v11, v12, v13, v14, v15] T rfl) rfl
def putA : Array Value → Nat → List Value → Array Value
 | c, _, [] => c
 | c, i, v :: r => putA (c.setIfInBounds i v) (i + 1) r
theorem puz_new (w : World) (T : TypeId) : ∀ (vs : List Value) (i : Nat) (c : Array Value), Go.Proofs.Ytcmodmchnokmgaa.puz (w.alloc (.cells c T)) w.heap.size i vs = w.alloc (.cells (putA c i vs) T)
 | [], _, _ => rfl
 | v :: r, i, c => by
  unfold Go.Proofs.Ytcmodmchnokmgaa.puz putA
  rw [World.setCell_alloc_at c T w.heap.size i v rfl]
  exact puz_new w T r (i + 1) _
theorem putA_list : ∀ (vs : List Value) (i : Nat) (c : List Value), i + vs.length ≤ c.length → putA c.toArray i vs = (c.take i ++ vs ++ c.drop (i + vs.length)).toArray
 | [], i, c, _ => by unfold putA; simp
 | v :: r, i, c, hl => by
  unfold putA
  simp only [List.setIfInBounds_toArray]
  simp at hl
  rw [putA_list r (i + 1) _ (by simp; omega)]
  have e1 : (c.set i v).take (i + 1) = c.take i ++ [v] := by
   rw [List.take_succ_eq_append_getElem (by simp; omega), List.take_set_of_le (Nat.le_refl _)]
   simp
  have e2 : (c.set i v).drop (i + 1 + r.length) = c.drop (i + (v :: r).length) := by
   rw [List.drop_set_of_lt (by omega)]
   congr 1
   simp; omega
  rw [e1, e2]
  simp
theorem putA_all (vs c : List Value) (h : vs.length = c.length) : putA c.toArray 0 vs = vs.toArray := by
 rw [putA_list vs 0 c (by omega)]
 simp [h]
theorem stW_new (w : World) (v0 v1 v2 v3 v4 v5 v6 v7 v8 v9 v10 v11 v12 v13 v14 v15 u0 u1 u2 u3 u4 u5 u6 u7 u8 u9 u10 u11 u12 u13 u14 u15 : Value) (T : TypeId) : stW (w.alloc (.cells #[v0, v1, v2, v3, v4, v5, v6, v7, v8, v9, v10, v11, v12, v13, v14, v15] T)) (.pointer (some ⟨w.heap.size, 0, none⟩)) (.agg #[u0, u1, u2, u3, u4, u5, u6, u7, u8, u9, u10, u11, u12, u13, u14, u15]) = w.alloc (.cells #[u0, u1, u2, u3, u4, u5, u6, u7, u8, u9, u10, u11, u12, u13, u14, u15] T) := by
 exact (puz_new w T [u0, u1, u2, u3, u4, u5, u6, u7, u8, u9, u10, u11, u12, u13, u14, u15] 0 #[v0, v1, v2, v3, v4, v5, v6, v7, v8, v9, v10, v11, v12, v13, v14, v15]).trans (congrArg (fun c => w.alloc (.cells c T)) (putA_all [u0, u1, u2, u3, u4, u5, u6, u7, u8, u9, u10, u11, u12, u13, u14, u15] [v0, v1, v2, v3, v4, v5, v6, v7, v8, v9, v10, v11, v12, v13, v14, v15] rfl))
theorem setCells_puz (b : Nat) : ∀ (vs : List Value) (o : Nat) (w : World), w.setCells b o vs = Go.Proofs.Ytcmodmchnokmgaa.puz w b o vs
 | [], _, _ => rfl
 | v :: r, o, w => by
  unfold Go.Proofs.Ytcmodmchnokmgaa.puz
  rw [← setCells_puz b r (o + 1)]
  rfl
theorem stR_run (w : World) (p v : Value) : (stR p v).run Try.prog w = if (stB w p && sz16 v) = true then .ok () (stW w p v) else (stX p v).run Try.prog w := by
 by_cases h : (stB w p && sz16 v) = true
 ·
  rw [if_pos h]
  rw [Bool.and_eq_true] at h
  obtain ⟨h1, h2⟩ := h
  unfold stB at h1
  split at h1
  ·
   rename_i b o
   unfold sz16 at h2
   split at h2
   ·
    rename_i cs
    simp only [List.all_eq_true, List.mem_range, Bool.and_eq_true, Bool.not_eq_true'] at h1
    simp only [Bool.and_eq_true, beq_iff_eq] at h2
    unfold stR stW
    simp only
    rw [← setCells_puz]
    exact run_storeAt_mid w b o 30 cs (fun j hj => h1 j (by omega)) (by rw [h2.1]; kernel_rfl) h2.2
   ·
    cases h2
  ·
   cases h1
 ·
  rw [if_neg h]; rfl
/-- Behind a store the block holds the value; no other block is changed. -/
theorem stW_row {w : World} {b : Nat} {cs : List Value} (h : Row w b cs) (hl : cs.length = 16) (vs : Array Value) (hv : vs.size = 16) : Row (stW w (.pointer (some ⟨b, 0, none⟩)) (.agg vs)) b vs.toList ∧ Ch (fun k => k = b) w (stW w (.pointer (some ⟨b, 0, none⟩)) (.agg vs)) := by
 have := puz_all h vs.toList (by simp [hl, hv])
 exact this
theorem stB_set (w : World) (b o c i : Nat) (v : Value) (h : c ≠ b) : stB (w.setCell ⟨c, i, none⟩ v) (.pointer (some ⟨b, o, none⟩)) = stB w (.pointer (some ⟨b, o, none⟩)) := by
 have e : (w.setCell ⟨c, i, none⟩ v).heap[b]? = w.heap[b]? := Below.heap_setCell _ _ _ _ (Ne.symm h)
 unfold stB
 simp only [World.cell?, World.frozen?, e]
/-! As the walk wants them. -/
theorem ldV_at16 (w : World) (v0 v1 v2 v3 v4 v5 v6 v7 v8 v9 v10 v11 v12 v13 v14 v15 : Value) (T : TypeId) (n : Nat) (hn : n = w.heap.size) : ldV (w.alloc (.cells #[v0, v1, v2, v3, v4, v5, v6, v7, v8, v9, v10, v11, v12, v13, v14, v15] T)) (.pointer (some ⟨n, 0, none⟩)) = some (.agg #[v0, v1, v2, v3, v4, v5, v6, v7, v8, v9, v10, v11, v12, v13, v14, v15]) := by
 subst hn; exact ldV_new w _ T rfl
theorem stB_at16 (w : World) (v0 v1 v2 v3 v4 v5 v6 v7 v8 v9 v10 v11 v12 v13 v14 v15 : Value) (T : TypeId) (n : Nat) (hn : n = w.heap.size) : stB (w.alloc (.cells #[v0, v1, v2, v3, v4, v5, v6, v7, v8, v9, v10, v11, v12, v13, v14, v15] T)) (.pointer (some ⟨n, 0, none⟩)) = true := by
 subst hn; exact stB_new w v0 v1 v2 v3 v4 v5 v6 v7 v8 v9 v10 v11 v12 v13 v14 v15 T
theorem stW_at16 (w : World) (v0 v1 v2 v3 v4 v5 v6 v7 v8 v9 v10 v11 v12 v13 v14 v15 u0 u1 u2 u3 u4 u5 u6 u7 u8 u9 u10 u11 u12 u13 u14 u15 : Value) (T : TypeId) (n : Nat) (hn : n = w.heap.size) : stW (w.alloc (.cells #[v0, v1, v2, v3, v4, v5, v6, v7, v8, v9, v10, v11, v12, v13, v14, v15] T)) (.pointer (some ⟨n, 0, none⟩)) (.agg #[u0, u1, u2, u3, u4, u5, u6, u7, u8, u9, u10, u11, u12, u13, u14, u15]) = w.alloc (.cells #[u0, u1, u2, u3, u4, u5, u6, u7, u8, u9, u10, u11, u12, u13, u14, u15] T) := by
 subst hn; exact stW_new w v0 v1 v2 v3 v4 v5 v6 v7 v8 v9 v10 v11 v12 v13 v14 v15 u0 u1 u2 u3 u4 u5 u6 u7 u8 u9 u10 u11 u12 u13 u14 u15 T
end Go.Proofs.Ytcmodmchnokmgaa
