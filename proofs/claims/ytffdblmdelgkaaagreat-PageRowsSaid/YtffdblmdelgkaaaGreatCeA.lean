/- Cells: empty, blank, pair. Conditions: none. -/
import Derived.Test.YtffdblmdelgkaaaGreatWdB
import Derived.Test.YtffdblmdelgkaaaGreatGnB
import Derived.Deep.CutBlock
import Derived.Deep.DeepCutAuto
namespace Go.Proofs.YtffdblmdelgkaaaGreat
open Go.RowKit

def encCl (c : Cl) : List Value := [.int .i32 c.r, .string c.more, .int .i64 c.half, .int .i64 c.fk, .int .i64 c.fn, .int .i64 c.bk, .int .i64 c.bn, .int .i64 c.fl]
theorem encCl_len : ∀ c, (encCl c).length = 8 := fun _ => rfl
theorem encCl_one : ∀ c, ∀ v ∈ encCl c, v.oneCell' = true := fun c v hv => by
  simp only [encCl, List.mem_cons, List.not_mem_nil, or_false] at hv
  rcases hv with rfl | rfl | rfl | rfl | rfl | rfl | rfl | rfl <;> rfl
def atV (a : Atr) : Value := .agg #[.int .i64 a.fk, .int .i64 a.fn, .int .i64 a.bk, .int .i64 a.bn, .int .i64 a.fl]
def colV (b : Col) : Value := .agg #[.int .i64 b.k, .int .i64 b.n]
theorem info_cell : (Tryz.prog.info? 109).map (·.size) = some 8 := by kernel_rfl
theorem cl_one (c : Cl) : (encCl c).toArray.all (·.oneCell') = true := all_oneCell_toArray (encCl_one c)
theorem ret_cell {fn : Func} {p : Tmp} (hr : fn.results = #[.cell p 109]) (tmps : Array Value) (w : World) (b : Nat) (c : Cl) (hp : tmps.getD p undef = .pointer (some ⟨b, 0, none⟩)) (h : w.rangeAt b 0 (encCl c)) :
    (results fn tmps).run Tryz.prog w = .ok (clV c) w := by
  rw [results_cell1 hr, hp]
  have := run_loadVar_mid (P := Tryz.prog) w b 0 109 (encCl c) _ h Tryz.underlying109 rfl info_cell
  simp only [asAddr, Sem.run_pure, Result.andThen_ok, this]
  rfl
theorem range_new {w : World} {g : Nat} {cs : List Value} {t : TypeId} (h : w.heap[g]? = some (.cells cs.toArray t (0, 0))) : w.rangeAt g 0 cs := fun j v hj => by rw [Nat.zero_add]; exact (whole_at h j v hj).1
def CellPost (c : Cl) (w : World) (e : Ending) (w' : World) : Prop := e = .returned (clV c) ∧ Below w.heap.size w w'
set_option maxRecDepth 100000 in
set_option maxHeartbeats 1600000 in
theorem cempty_any (a : Atr) (w : World) : Calls Tryz.prog 152 #[.agg #[.int .i64 a.fk, .int .i64 a.fn, .int .i64 a.bk, .int .i64 a.bn, .int .i64 a.fl]] w (CellPost (emptyA a) w) := by
  go_enter Tryz.func152, Tryz.ntmps152
  go_wp2
  exact bodyPost_ret (ret_cell rfl _ _ (w.heap.size + 1) (emptyA a) rfl (range_new (hp_new (by simp)))) rfl ⟨rfl, below_allocs (below_allocs (Below.refl _ _) _) _⟩
set_option maxRecDepth 100000 in
set_option maxHeartbeats 1600000 in
theorem cblank_any (b : Col) (w : World) : Calls Tryz.prog 149 #[.agg #[.int .i64 b.k, .int .i64 b.n]] w (CellPost (blankC b) w) := by
  have HE := Lib.hid (fun w => cempty_any ⟨0, 0, b.k, b.n, 0⟩ w)
  have HB0 := Lib.hid (below_allocs (below_allocs (Below.refl w.heap.size w) (.cells #[.int .i64 b.k, .int .i64 b.n] 32)) (.cells (encCl (emptyA ⟨0, 0, 0, 0, 0⟩)).toArray 109))
  have HT0 := Lib.hid (there_new (cs := (encCl (emptyA ⟨0, 0, 0, 0, 0⟩)).toArray) (w := (w.alloc (.cells #[.int .i64 b.k, .int .i64 b.n] 32)).alloc (.cells (encCl (emptyA ⟨0, 0, 0, 0, 0⟩)).toArray 109)) (g := w.heap.size + 1) (hp_new (by simp)))
  go_enter Tryz.func149, Tryz.ntmps149
  go_wp2_with (first
    | (go_at_call 152; refine (HE.out _).mono ?_; rintro e w1 ⟨rfl, hb⟩; have HB1 := Lib.hid hb; clear hb; have HT1 := Lib.hid (there_below HT0.out HB1.out))
    | (refine wpList_store_mid (op := ⟨none, .store 109 (.tmp 2) (.tmp 5), _, _, _, _⟩) rfl 109 (.tmp 2) (.tmp 5) rfl (w.heap.size + 1) 0 (encCl (blankC b)).toArray rfl rfl HT1.out info_cell (cl_one (blankC b)) ?_))
  exact bodyPost_ret (ret_cell rfl _ _ (w.heap.size + 1) (blankC b) rfl (World.rangeAt_setCells_same _ _ _ _ HT1.out)) rfl ⟨rfl, below_setCells (below_tail HB0.out HB1.out) (by omega) _ _⟩
def pairH (a b : Cl) : Bool := decide (a.half = 1) && decide (a = { b with half := 1 })
set_option maxRecDepth 100000 in
set_option maxHeartbeats 1600000 in
theorem cpair_any (a b : Cl) (w : World) : Calls Tryz.prog 151 #[clV a, clV b] w fun e w' => e = .returned (.bool (pairH a b)) ∧ Below w.heap.size w w' := by
  unfold clV
  have HB2 := Lib.hid (below_allocs (below_allocs (Below.refl w.heap.size w) (.cells (encCl a).toArray 109)) (.cells (encCl { b with half := 1 }).toArray 109))
  have HA2 := Lib.hid (show ((w.alloc (.cells (encCl a).toArray 109)).alloc (.cells (encCl { b with half := 1 }).toArray 109)).heap[w.heap.size]? = some (.cells (encCl a).toArray 109 (0, 0)) from hp_old (hp_new rfl))
  have HC2 := Lib.hid (show ((w.alloc (.cells (encCl a).toArray 109)).alloc (.cells (encCl { b with half := 1 }).toArray 109)).heap[w.heap.size + 1]? = some (.cells (encCl { b with half := 1 }).toArray 109 (0, 0)) from hp_new (by simp))
  by_cases h : a.half = 1
  · have hv : pairH a b = decide (a = { b with half := 1 }) := by unfold pairH; rw [h]; simp
    rw [hv]
    clear hv
    obtain ⟨ar, am, ah, a1, a2, a3, a4, a5⟩ := a
    obtain rfl : ah = 1 := h
    go_enter Tryz.func151, Tryz.ntmps151
    go_upto_region 2 with fail
    refine wp_region_lit ?_
    refine wpList_valG (.pointer (some ⟨w.heap.size, 2, none⟩)) (by rfl) (by go_simp) ?_
    simp only [Act.put, List.setIfInBounds_toArray, List.set_cons_zero, List.set_cons_succ]
    refine wpList_valG (.int .i64 1) (by rfl) (by go_simp) ?_
    simp only [Act.put, List.setIfInBounds_toArray, List.set_cons_zero, List.set_cons_succ]
    refine wpList_valG (.bool true) (by rfl) (by go_simp) ?_
    simp only [Act.put, List.setIfInBounds_toArray, List.set_cons_zero, List.set_cons_succ]
    refine wpList_valG (.bool true) (by rfl) (by rfl) ?_
    simp only [Act.put, List.setIfInBounds_toArray, List.set_cons_zero, List.set_cons_succ]
    refine load_mid_g (by rfl) 109 (.tmp 2) rfl w.heap.size 0 rfl (encCl ⟨ar, am, 1, a1, a2, a3, a4, a5⟩) _ (range_new HA2.out) Tryz.underlying109 rfl info_cell ?_
    simp only [Act.put, List.setIfInBounds_toArray, List.set_cons_zero, List.set_cons_succ]
    refine load_mid_g (by rfl) 109 (.tmp 3) rfl (w.heap.size + 1) 0 rfl (encCl { b with half := 1 }) _ (range_new HC2.out) Tryz.underlying109 rfl info_cell ?_
    simp only [Act.put, List.setIfInBounds_toArray, List.set_cons_zero, List.set_cons_succ]
    refine wpList_valG (.bool (decide ((⟨ar, am, 1, a1, a2, a3, a4, a5⟩ : Cl) = { b with half := 1 }))) (by rfl) (exec_eql_cell _ _ _ _ _ _ (.tmp 10) (.tmp 11) ⟨ar, am, 1, a1, a2, a3, a4, a5⟩ { b with half := 1 } rfl rfl _) ?_
    simp only [Act.put, List.setIfInBounds_toArray, List.set_cons_zero, List.set_cons_succ]
    generalize hD : decide ((⟨ar, am, 1, a1, a2, a3, a4, a5⟩ : Cl) = { b with half := 1 }) = D
    have HD := Lib.hid hD
    clear hD
    go_wp2
    go_ret
    exact ⟨by rw [← HD.out]; rfl, HB2.out⟩
  · have hv : pairH a b = false := by unfold pairH; simp [h]
    rw [hv]
    have h1 : (a.half == 1) = false := beq_eq_false_iff_ne.2 h
    clear hv
    go_enter Tryz.func151, Tryz.ntmps151
    go_wp2
    go_ret
    exact ⟨rfl, HB2.out⟩
end Go.Proofs.YtffdblmdelgkaaaGreat
