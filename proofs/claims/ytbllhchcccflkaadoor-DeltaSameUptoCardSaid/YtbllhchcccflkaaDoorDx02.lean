/- Joined by a tool of this claim out of smaller texts. Conditions: as stated. -/
import Derived.Test.YtbllhchcccflkaaDoorDx01
import Derived.Deep.MidRow
import Derived.Laws.IdiomCopy
import Derived.Deep.CutBlock
import Derived.Deep.DeepCutAuto
import Derived.StillTail
import Derived.OwnWalk
set_option linter.unusedVariables false
set_option linter.unusedSimpArgs false
namespace Go.Proofs.YtbllhchcccflkaaDoor
open Go.RowKit
theorem below_setCells {B : Nat} {W w1 : World} (h : Below B W w1) {b : Nat} (hb : B ≤ b) : ∀ (vs : List Value) (o : Nat), Below B W (w1.setCells b o vs)
  | [], o => h
  | v :: vs, o => by
    rw [World.setCells]
    exact below_setCells (below_set' h hb v) hb vs (o + 1)
where below_set' {B : Nat} {W w1 : World} (h : Below B W w1) {b o : Nat} (hb : B ≤ b) (v : Value) : Below B W (w1.setCell ⟨b, o, none⟩ v) := h.setCell (p := ⟨b, o, none⟩) hb v
theorem there_new {w : World} {g : Nat} {cs : Array Value} {t : TypeId} (h : w.heap[g]? = some (.cells cs t (0, 0))) : w.there g 0 cs.size := fun j hj => by
  rw [Nat.zero_add]
  exact ⟨by rw [cell_of_row w g j cs t (0, 0) h, Array.getElem?_eq_getElem hj]; rfl, frozen_of_row w g j cs t h⟩
theorem range_below {w w1 : World} {b o : Nat} {cs : List Value} (h : w.rangeAt b o cs) (hb : Below w.heap.size w w1) : w1.rangeAt b o cs := fun j v hj => holda hb (h j v hj)
section
variable {P : Program}
theorem results_cell1 {fn : Func} {p : Tmp} {ty : TypeId} (h : fn.results = #[.cell p ty]) (tmps : Array Value) (P : Program) (w : World) :
    (results fn tmps).run P w = ((asAddr (tmps.getD p undef)).run P w).andThen fun a w₁ => (loadVar ty a).run P w₁ := by
  simp only [results, h]
  simp [Sem.run_bind, Result.andThen]
end
/-- A block known whole, some cells of which are set. -/
theorem whole_setCells {b : Nat} {t : TypeId} : ∀ (vs : List Value) (o : Nat) (cs : List Value) (w : World), w.heap[b]? = some (.cells cs.toArray t (0, 0)) → o + vs.length ≤ cs.length → (w.setCells b o vs).heap[b]? = some (.cells (cs.take o ++ (vs ++ cs.drop (o + vs.length))).toArray t (0, 0))
  | [], o, cs, w, h, _ => by simpa [World.setCells] using h
  | v :: vs, o, cs, w, h, hl => by
    rw [List.length_cons] at hl
    have h1 := whole_set h o v rfl
    have ih := whole_setCells vs (o + 1) (cs.set o v) (w.setCell ⟨b, o, none⟩ v) h1 (by rw [List.length_set]; omega)
    have hlt : o < (cs.set o v).length := by rw [List.length_set]; omega
    rw [List.take_succ_eq_append_getElem hlt, List.getElem_set_self, List.take_set_of_le (Nat.le_refl o), List.drop_set_of_lt (by omega), List.append_assoc] at ih
    rw [World.setCells, List.length_cons, show o + (vs.length + 1) = o + 1 + vs.length by omega]
    exact ih
theorem mod_setCellsN {X : List Nat} {w : World} {g : Nat} (hg : g ∈ X ∨ w.heap.size ≤ g) : ∀ (cs : List Value) (o : Nat) (w1 : World), Mod X w w1 → Mod X w (w1.setCells g o cs)
  | [], _, _, h => h
  | v :: r, o, _, h => mod_setCellsN hg r (o + 1) _ (h.setCell (a := ⟨g, o, none⟩) hg v)
theorem owns_set1 {w : World} {base g : Nat} {e : TypeId} {size n cap : Nat} {xs : List Value} (h : w.ownsRow base e size (.slice (some ⟨g, 0, none⟩) n cap) n xs) (o : Nat) (v : Value) :
    (w.setCell ⟨g, o, none⟩ v).ownsRow base e size (.slice (some ⟨g, 0, none⟩) n cap) n (xs.set o v) := by
  obtain ⟨h1, h2 | ⟨g', cap', cur, hv, e2, e3, e4, e5, e6, e7⟩⟩ := h
  · exact absurd h2.1 (by simp)
  · simp only [Value.slice.injEq, Option.some.injEq, Addr.mk.injEq, and_true, true_and] at hv
    obtain ⟨rfl, rfl⟩ := hv
    refine ⟨by simpa using h1, .inr ⟨g, cap, cur.setIfInBounds o v, rfl, e2, heap_setCell_eq e3, e4, e5, by simpa using e6, ?_⟩⟩
    rw [← e7, Array.toList_setIfInBounds]
    rw [List.take_set]
theorem owns_hold {w : World} {base g : Nat} {e : TypeId} {size n cap : Nat} {xs : List Value} (h : w.ownsRow base e size (.slice (some ⟨g, 0, none⟩) n cap) n xs) {i : Nat} {v : Value} (hi : xs[i]? = some v) : HoldAt w g i v := by
  obtain ⟨-, h2 | ⟨g', cap', cur, hv, -, e3, -, -, -, e7⟩⟩ := h
  · exact absurd h2.1 (by simp)
  · simp only [Value.slice.injEq, Option.some.injEq, Addr.mk.injEq, and_true, true_and] at hv
    obtain ⟨rfl, rfl⟩ := hv
    refine at_ e3 i v ?_
    rw [← e7, List.getElem?_take] at hi
    split at hi
    · simpa using hi
    · cases hi
/-- Some cells of a row of the call's own set. -/
theorem owns_setCells {base g : Nat} {e : TypeId} {size n cap : Nat} : ∀ (vs : List Value) (o : Nat) (xs : List Value) (w : World), w.ownsRow base e size (.slice (some ⟨g, 0, none⟩) n cap) n xs → o + vs.length ≤ xs.length →
    (w.setCells g o vs).ownsRow base e size (.slice (some ⟨g, 0, none⟩) n cap) n (xs.take o ++ (vs ++ xs.drop (o + vs.length)))
  | [], o, xs, w, h, _ => by simpa [World.setCells] using h
  | v :: vs, o, xs, w, h, hl => by
    rw [List.length_cons] at hl
    have h1 := owns_set1 h o v
    have ih := owns_setCells vs (o + 1) (xs.set o v) (w.setCell ⟨g, o, none⟩ v) h1 (by rw [List.length_set]; omega)
    have e1 : (xs.set o v).take (o + 1) = xs.take o ++ [v] := by
      rw [List.take_succ_eq_append_getElem (by rw [List.length_set]; omega), List.getElem_set_self, List.take_set_of_le (Nat.le_refl _)]
    have e2 : (xs.set o v).drop (o + 1 + vs.length) = xs.drop (o + (v :: vs).length) := by
      rw [List.drop_set_of_lt (by omega), List.length_cons, show o + 1 + vs.length = o + (vs.length + 1) by omega]
    rw [e1, e2, List.append_assoc] at ih
    exact ih
theorem load_mid_g {P : Program} {ops : Array Oper} {rest : List Oper} {op : Oper} {a : Act} {w : World} {Q : Exit → Act → World → Prop} (hw : Region.wanted op (yielded ops a.tmps) = true) (ty : TypeId) (x : Operand) (ho : op.op = .load ty x)
    (b o : Nat) (hx : a.eval x = .pointer (some ⟨b, o, none⟩)) (cs : List Value) (d : TypeDesc) (hc : w.rangeAt b o cs)
    (hu : P.underlying ty = some d) (hd : d.isRow = true) (hi : (P.info? ty).map (·.size) = some cs.length)
    (h : wpList P ops Q rest (a.put op.dst (.agg cs.toArray)) w) : wpList P ops Q (op :: rest) a w := by
  unfold wpList
  rw [if_pos hw]
  exact .inl (wp_load_mid ty x ho b o hx cs d hc hu hd hi h)
end Go.Proofs.YtbllhchcccflkaaDoor

namespace Go.Proofs.YtbllhchcccflkaaDoor
open Go.RowKit
def encCl (c : Cl) : List Value := [.int .i32 c.r, .string c.more, .int .i64 c.half, .int .i64 c.fk, .int .i64 c.fn, .int .i64 c.bk, .int .i64 c.bn, .int .i64 c.fl]
theorem encCl_len : ∀ c, (encCl c).length = 8 := fun _ => rfl
theorem encCl_one : ∀ c, ∀ v ∈ encCl c, v.oneCell' = true := fun c v hv => by
  simp only [encCl, List.mem_cons, List.not_mem_nil, or_false] at hv
  rcases hv with rfl | rfl | rfl | rfl | rfl | rfl | rfl | rfl <;> rfl
theorem info_cell : (Tryd.prog.info? 44).map (·.size) = some 8 := by kernel_rfl
theorem cl_one (c : Cl) : (encCl c).toArray.all (·.oneCell') = true := all_oneCell_toArray (encCl_one c)
theorem ret_cell {fn : Func} {p : Tmp} (hr : fn.results = #[.cell p 44]) (tmps : Array Value) (w : World) (b : Nat) (c : Cl) (hp : tmps.getD p undef = .pointer (some ⟨b, 0, none⟩)) (h : w.rangeAt b 0 (encCl c)) :
    (results fn tmps).run Tryd.prog w = .ok (clV c) w := by
  rw [results_cell1 hr, hp]
  have := run_loadVar_mid (P := Tryd.prog) w b 0 44 (encCl c) _ h Tryd.underlying44 rfl info_cell
  simp only [asAddr, Sem.run_pure, Result.andThen_ok, this]
  rfl
theorem range_new {w : World} {g : Nat} {cs : List Value} {t : TypeId} (h : w.heap[g]? = some (.cells cs.toArray t (0, 0))) : w.rangeAt g 0 cs := fun j v hj => by rw [Nat.zero_add]; exact (whole_at h j v hj).1
def CellPost (c : Cl) (w : World) (e : Ending) (w' : World) : Prop := e = .returned (clV c) ∧ Below w.heap.size w w'
set_option maxRecDepth 100000 in
set_option maxHeartbeats 1600000 in
theorem cempty_any (a : Atr) (w : World) : Calls Tryd.prog 76 #[.agg #[.int .i64 a.fk, .int .i64 a.fn, .int .i64 a.bk, .int .i64 a.bn, .int .i64 a.fl]] w (CellPost (emptyA a) w) := by
  go_enter Tryd.func76, Tryd.ntmps76
  go_wp2
  exact bodyPost_ret (ret_cell rfl _ _ (w.heap.size + 1) (emptyA a) rfl (range_new (hp_new (by simp)))) rfl ⟨rfl, below_allocs (below_allocs (Below.refl _ _) _) _⟩
def pairH (a b : Cl) : Bool := decide (a.half = 1) && decide (a = { b with half := 1 })
set_option maxRecDepth 100000 in
set_option maxHeartbeats 1600000 in
theorem cpair_any (a b : Cl) (w : World) : Calls Tryd.prog 75 #[clV a, clV b] w fun e w' => e = .returned (.bool (pairH a b)) ∧ Below w.heap.size w w' := by
  unfold clV
  have HB2 := Lib.hid (below_allocs (below_allocs (Below.refl w.heap.size w) (.cells (encCl a).toArray 44)) (.cells (encCl { b with half := 1 }).toArray 44))
  have HA2 := Lib.hid (show ((w.alloc (.cells (encCl a).toArray 44)).alloc (.cells (encCl { b with half := 1 }).toArray 44)).heap[w.heap.size]? = some (.cells (encCl a).toArray 44 (0, 0)) from hp_old (hp_new rfl))
  have HC2 := Lib.hid (show ((w.alloc (.cells (encCl a).toArray 44)).alloc (.cells (encCl { b with half := 1 }).toArray 44)).heap[w.heap.size + 1]? = some (.cells (encCl { b with half := 1 }).toArray 44 (0, 0)) from hp_new (by simp))
  by_cases h : a.half = 1
  · have hv : pairH a b = decide (a = { b with half := 1 }) := by unfold pairH; rw [h]; simp
    rw [hv]
    clear hv
    obtain ⟨ar, am, ah, a1, a2, a3, a4, a5⟩ := a
    obtain rfl : ah = 1 := h
    go_enter Tryd.func75, Tryd.ntmps75
    go_upto_region 2 with fail
    refine wp_region_lit ?_
    refine wpList_valG (.pointer (some ⟨w.heap.size, 2, none⟩)) (by rfl) (by go_simp) ?_
    simp only [Act.put, List.setIfInBounds_toArray, List.set_cons_zero, List.set_cons_succ]
    refine wpList_valG (.int .i64 1) (by rfl) (by go_simp) ?_
    simp only [Act.put, List.setIfInBounds_toArray, List.set_cons_zero, List.set_cons_succ]
    refine wpList_valG (.bool true) (by rfl) (by go_simp) ?_
    simp only [Act.put, List.setIfInBounds_toArray, List.set_cons_zero, List.set_cons_succ]
    refine wpList_valG (.bool true) (by rfl) (by rfl) ?_
    simp only [Act.put, List.setIfInBounds_toArray, List.set_cons_zero, List.set_cons_succ]
    refine load_mid_g (by rfl) 44 (.tmp 2) rfl w.heap.size 0 rfl (encCl ⟨ar, am, 1, a1, a2, a3, a4, a5⟩) _ (range_new HA2.out) Tryd.underlying44 rfl info_cell ?_
    simp only [Act.put, List.setIfInBounds_toArray, List.set_cons_zero, List.set_cons_succ]
    refine load_mid_g (by rfl) 44 (.tmp 3) rfl (w.heap.size + 1) 0 rfl (encCl { b with half := 1 }) _ (range_new HC2.out) Tryd.underlying44 rfl info_cell ?_
    simp only [Act.put, List.setIfInBounds_toArray, List.set_cons_zero, List.set_cons_succ]
    refine wpList_valG (.bool (decide ((⟨ar, am, 1, a1, a2, a3, a4, a5⟩ : Cl) = { b with half := 1 }))) (by rfl) (exec_eql_cell _ _ _ _ _ _ (.tmp 10) (.tmp 11) ⟨ar, am, 1, a1, a2, a3, a4, a5⟩ { b with half := 1 } rfl rfl _) ?_
    simp only [Act.put, List.setIfInBounds_toArray, List.set_cons_zero, List.set_cons_succ]
    generalize hD : decide ((⟨ar, am, 1, a1, a2, a3, a4, a5⟩ : Cl) = { b with half := 1 }) = D
    have HD := Lib.hid hD
    clear hD
    go_wp2
    go_ret
    exact ⟨by rw [← HD.out]; rfl, HB2.out⟩
  · have hv : pairH a b = false := by unfold pairH; simp [h]
    rw [hv]
    have h1 : (a.half == 1) = false := beq_eq_false_iff_ne.2 h
    clear hv
    go_enter Tryd.func75, Tryd.ntmps75
    go_wp2
    go_ret
    exact ⟨rfl, HB2.out⟩
end Go.Proofs.YtbllhchcccflkaaDoor

namespace Go.Proofs.YtbllhchcccflkaaDoor
open Go.RowKit
theorem pairB_H (c d : Cl) : pairB c d = (pairH c d && decide (d.half = 2)) := by
  unfold pairB pairH
  cases decide (c.half = 1) <;> cases decide (d.half = 2) <;> cases decide (c = { d with half := 1 }) <;> rfl
theorem mendL_pair {c d : Cl} (h : pairB c d = true) (l : List Cl) : mendL (c :: d :: l) = c :: d :: mendL l := by
  have h0 : ¬ c.half = 0 := fun e => by unfold pairB at h; simp [e] at h
  rw [mendL_cons, if_neg h0, if_pos h]
theorem mendL_other {c : Cl} {l : List Cl} (h0 : ¬ c.half = 0) (h3 : ¬ (c.half = 3 ∧ l = [])) (hp : ∀ d m, l = d :: m → pairB c d = false) : mendL (c :: l) = emptyC c :: mendL l := by
  match l with
  | [] => rw [mendL_one, if_neg (fun h => h.elim h0 (fun h => h3 ⟨h, rfl⟩))]; rfl
  | d :: m => rw [mendL_cons, if_neg h0, hp d m rfl]; rfl
theorem mendL_pad {c : Cl} (h : c.half = 3) : mendL [c] = [c] := by rw [mendL_one, if_pos (.inr h)]
/-- A row of cells of the call's own. -/
def CrO (w : World) (base g cap : Nat) (l : List Cl) : Prop := w.ownsRow base 44 8 (.slice (some ⟨g, 0, none⟩) l.length cap) l.length (flat encCl l)
theorem CrO.mod {w w' : World} {base g cap : Nat} {l : List Cl} {X : List Nat} (h : CrO w base g cap l) (hm : Mod X w w') (hX : g ∉ X) : CrO w' base g cap l := owns_mod h hm (fun k hk => by simp [Value.ownBlock] at hk; rw [← hk]; exact hX)
theorem CrO.below {w w' : World} {base g cap : Nat} {l : List Cl} (h : CrO w base g cap l) (hb : Below w.heap.size w w') : CrO w' base g cap l := h.mod (Mod.of_below (X := []) hb) (fun h => by cases h)
theorem CrO.lt {w : World} {base g cap : Nat} {l : List Cl} (h : CrO w base g cap l) : base ≤ g ∧ g < w.heap.size := World.ownsRow.lt h g rfl
theorem CrO.range {w : World} {base g cap : Nat} {l : List Cl} (h : CrO w base g cap l) {i : Nat} {c : Cl} (hc : l[i]? = some c) : w.rangeAt g (i * 8) (encCl c) := fun j v hj => by
  have hj8 : j < 8 := by have := (List.getElem?_eq_some_iff.1 hj).1; rwa [encCl_len] at this
  exact (owns_hold h (i := i * 8 + j) (v := v) (by rw [flat_at2 encCl_len l i c j hc hj8]; exact hj)).1
theorem CrO.there {w : World} {base g cap : Nat} {l : List Cl} (h : CrO w base g cap l) {i : Nat} (hi : i < l.length) : w.there g (i * 8) 8 := fun j hj => by
  obtain ⟨c, hc⟩ : ∃ c, l[i]? = some c := ⟨l[i], List.getElem?_eq_getElem hi⟩
  obtain ⟨v, hv⟩ : ∃ v, (encCl c)[j]? = some v := ⟨_, List.getElem?_eq_getElem (by rw [encCl_len]; exact hj)⟩
  have := owns_hold h (i := i * 8 + j) (v := v) (by rw [flat_at2 encCl_len l i c j hc hj]; exact hv)
  exact ⟨by rw [this.1]; rfl, this.2⟩
theorem CrO.set {w : World} {base g cap : Nat} {l : List Cl} (h : CrO w base g cap l) {i : Nat} (hi : i < l.length) (c : Cl) : CrO (w.setCells g (i * 8) (encCl c)) base g cap (l.set i c) ∧ Mod [g] w (w.setCells g (i * 8) (encCl c)) := by
  refine ⟨?_, mod_setCellsN (.inl (by simp)) _ _ _ (Mod.refl _ _)⟩
  have h1 := owns_setCells (encCl c) (i * 8) (flat encCl l) w h (by rw [flat_len encCl_len, encCl_len]; omega)
  unfold CrO
  rw [List.length_set]
  have e : (flat encCl l).take (i * 8) ++ (encCl c ++ (flat encCl l).drop (i * 8 + (encCl c).length)) = flat encCl (l.set i c) := by
    rw [encCl_len]
    clear h h1
    induction l generalizing i with
    | nil => simp at hi
    | cons x l ih =>
      have e : flat encCl (x :: l) = encCl x ++ flat encCl l := rfl
      match i with
      | 0 =>
        have e2 : flat encCl ((x :: l).set 0 c) = encCl c ++ flat encCl l := rfl
        rw [e, e2, Nat.zero_mul, List.take_zero, List.nil_append, Nat.zero_add, List.drop_left' (encCl_len x)]
      | i + 1 =>
        have e2 : flat encCl ((x :: l).set (i + 1) c) = encCl x ++ flat encCl (l.set i c) := rfl
        rw [e, e2, ← ih (by simpa using hi), Nat.add_mul, Nat.one_mul]
        rw [List.take_append, List.drop_append, encCl_len, List.take_of_length_le (by rw [encCl_len]; omega), List.drop_eq_nil_of_le (by rw [encCl_len]; omega)]
        rw [show i * 8 + 8 - 8 = i * 8 by omega, show i * 8 + 8 + 8 - 8 = i * 8 + 8 by omega, List.nil_append, List.append_assoc]
  rw [e] at h1
  exact h1
end Go.Proofs.YtbllhchcccflkaaDoor

namespace Go
section
variable {P : Program} {ops : Array Oper} {md : Region.Mode} {S : World → Prop}
def samePut (n : Nat) (dst : Option Tmp) (u v : Value) : Prop := ∀ a : Act, a.tmps.size = n → a.put dst u = a.put dst v
theorem samePut.rfl' {n : Nat} {dst : Option Tmp} {v : Value} : samePut n dst v v := fun _ _ => rfl
def upU (P : Program) (S : World → Prop) (n : Nat) (dst : Option Tmp) (v : Value) : Result Next → Prop
  | .ok (.value u) w' => samePut n dst u v ∧ S w'
  | .ok .skip w' => samePut n dst undef v ∧ S w'
  | .ok (.enter f args) w' => Calls P f args w' fun e w'' => match e with
      | .returned u => samePut n dst u v ∧ S w''
      | _ => False
  | .ok (.row row args) w' => Rows P row args w' fun u w'' => samePut n dst u v ∧ S w''
  | _ => False
/-- In state 'a', from every world that meets S, operation 'o' yields 'v' (up to its slot), and S holds behind it. -/
def StabU (P : Program) (ops : Array Oper) (S : World → Prop) (o : Oper) (v : Value) (a : Act) : Prop :=
  (Region.wanted o (yielded ops a.tmps) = true ∧ ∀ w, S w → upU P S a.tmps.size o.dst v ((execOp a.eval o).run P w)) ∨
  (Region.wanted o (yielded ops a.tmps) = false ∧ v = undef)
theorem StabU.of_same {o : Oper} {v : Value} {a a' : Act} (hy : StabU P ops S o v a) (he : execOp a'.eval o = execOp a.eval o)
    (hw : Region.wanted o (yielded ops a'.tmps) = Region.wanted o (yielded ops a.tmps)) (hs : a'.tmps.size = a.tmps.size) : StabU P ops S o v a' := by
  unfold StabU at *
  rw [he, hw, hs]
  exact hy
theorem Act.put_size (a : Act) (dst : Option Tmp) (v : Value) : (a.put dst v).tmps.size = a.tmps.size := by
  cases dst <;> simp [Act.put]
theorem StabU.wpOp {Q : Exit → Act → World → Prop} {i : Nat} {o : Oper} {v : Value} {a : Act} (hi : ops[i]? = some o) (hy : StabU P ops S o v a)
    {K : Act → World → Prop} {w : World} (hS : S w) (h : ∀ w', S w' → K (a.put o.dst v) w') : wpOp P ops Q i K a w := by
  unfold Go.wpOp
  simp only [hi]
  rcases hy with ⟨hw, hv⟩ | ⟨hw, rfl⟩
  · simp only [hw, if_true, Oper.wp]
    refine .inl ?_
    have hv := hv w hS
    generalize (execOp a.eval o).run P w = r at *
    cases r with
    | ok n w' =>
      cases n <;> simp only [upU, Oper.upon] at hv ⊢
      case value u => rw [hv.1 a rfl]; exact h _ hv.2
      case skip => rw [hv.1 a rfl]; exact h _ hv.2
      case enter f args =>
        refine Calls.mono hv fun e w'' he => ?_
        cases e with
        | returned u => simp only at he ⊢; rw [he.1 a rfl]; exact h _ he.2
        | panicked c => exact he.elim
        | outgrown => exact he.elim
      case row row args => exact Rows.mono hv fun u w'' he => (by rw [he.1 a rfl]; exact h _ he.2)
    | halt x w' => exact hv.elim
  · simp only [hw, Bool.false_eq_true, if_false]; exact h _ hS
/-- Whatever order is picked, each operation of the head (numbers below n) is stable; 'L' behind it. No world. -/
def wpUL (P : Program) (md : Region.Mode) (ops : Array Oper) (S : World → Prop) (n : Nat) (L : Array Bool → Act → Prop) : Nat → Array Bool → Act → Prop
  | 0, listed, a => L listed a
  | f + 1, listed, a =>
    Region.ready md ops listed ≠ [] ∧ ∀ i ∈ Region.ready md ops listed, i < n ∧ ∃ o v, ops[i]? = some o ∧ StabU P ops S o v a ∧ wpUL P md ops S n L f (listed.setIfInBounds i true) (a.put o.dst v)
theorem wpAny_of_headU {n g : Nat} {L : Array Bool → Act → Prop} {Q' : Exit → Act → World → Prop} (hL : ∀ listed a, L listed a → ∀ w, S w → wpAny P md ops Q' g listed a w) :
    ∀ (f : Nat) (listed : Array Bool) (a : Act), wpUL P md ops S n L f listed a → ∀ w, S w → wpAny P md ops Q' (f + g) listed a w
  | 0, listed, a, h, w, hS => by rw [Nat.zero_add]; exact hL _ _ h w hS
  | f + 1, listed, a, h, w, hS => by
    rw [show f + 1 + g = (f + g) + 1 by omega]
    refine ⟨fun h0 => absurd h0 h.1, fun i hi => ?_⟩
    obtain ⟨_, o, v, ho, hy, hr⟩ := h.2 i hi
    exact hy.wpOp ho hS (fun w' hS' => wpAny_of_headU hL f _ _ hr w' hS')
theorem wpUL_first {n i : Nat} {oi : Oper} {v : Value} {L : Array Bool → Act → Prop} (hi : ops[i]? = some oi) (hsel : ∀ (j : Nat) (o : Oper) cs b, ops[j]? = some o → o.op ≠ .select cs b)
    (hs : Region.sinkB md ops n = true) (hc : Region.chainB md ops n = true) (hn : n < ops.size) (hin : i < n)
    (hdone : ∀ listed a, L listed a → ∀ j ∈ Region.ready md ops listed, n ≤ j) :
    ∀ (f : Nat) (listed : Array Bool) (a : Act), HeadInv md ops n listed →
      (∀ j oj, ops[j]? = some oj → j ≠ i → listed.getD j true = false → (∀ e ∈ oj.after, Region.binds md e = true → e.on ≠ i) → oi.apart ops oj = true) →
      i ∈ Region.ready md ops listed → StabU P ops S oi v a →
      wpUL P md ops S n L f (listed.setIfInBounds i true) (a.put oi.dst v) → wpUL P md ops S n L (f + 1) listed a := by
  intro f
  induction f with
  | zero =>
    intro listed a inv _ hr hy H
    have hun := (mem_ready.1 hr).1
    refine ⟨fun h => (by rw [h] at hr; cases hr), fun j hj => ?_⟩
    have hjn : j < n := by
      rcases Nat.lt_or_ge j n with h | h
      · exact h
      · exact absurd hj (tail_waits hs hc hn inv _ i rfl hin hun j h)
    refine ⟨hjn, ?_⟩
    by_cases hji : j = i
    · subst hji; exact ⟨oi, v, hi, hy, H⟩
    · have := hdone _ _ H j (ready_mono hj hji)
      omega
  | succ f ih =>
    intro listed a inv hfree hr hy H
    have hun := (mem_ready.1 hr).1
    refine ⟨fun h => (by rw [h] at hr; cases hr), fun j hj => ?_⟩
    have hjn : j < n := by
      rcases Nat.lt_or_ge j n with h | h
      · exact h
      · exact absurd hj (tail_waits hs hc hn inv _ i rfl hin hun j h)
    refine ⟨hjn, ?_⟩
    by_cases hji : j = i
    · subst hji; exact ⟨oi, v, hi, hy, H⟩
    · obtain ⟨_, oj', u, hoj', hyj, Hj⟩ := H.2 j (ready_mono hj hji)
      obtain ⟨hjun, oj, hoj, hall⟩ := mem_ready.1 hj
      obtain rfl : oj' = oj := Option.some.inj (hoj'.symm.trans hoj)
      have hnot : ∀ e ∈ oj'.after, Region.binds md e = true → e.on ≠ i := fun e he hb heq => by
        have h1 := hall e he hb
        rw [heq, getD_both hun] at h1
        cases h1
      obtain ⟨h1, h2, h3⟩ := Oper.apart_spec (hfree j oj' hoj hji hjun hnot)
      have hsi := fun cs b => hsel i oi cs b hi
      have hsj := fun cs b => hsel j oj' cs b hoj
      have hyj' : StabU P ops S oj' u a := hyj.of_same (execOp_put oj' hsj a oi.dst v h1).symm (wanted_put oj' a oi.dst v h1).symm (Act.put_size _ _ _).symm
      have hyi' : StabU P ops S oi v (a.put oj'.dst u) := hy.of_same (execOp_put oi hsi a oj'.dst u h3) (wanted_put oi a oj'.dst u h3) (Act.put_size _ _ _)
      have hfree' : ∀ k ok, ops[k]? = some ok → k ≠ i → (listed.setIfInBounds j true).getD k true = false →
          (∀ e ∈ ok.after, Region.binds md e = true → e.on ≠ i) → oi.apart ops ok = true := fun k ok hk hki hun hno => by
        refine hfree k ok hk hki ?_ hno
        by_cases hjk : j = k
        · subst hjk; exact hjun
        · rw [getD_set_ne true hjk] at hun; exact hun
      refine ⟨oj', u, hoj, hyj', ih (listed.setIfInBounds j true) _ (inv.set hj hjn) hfree' (ready_mono hr (Ne.symm hji)) hyi' ?_⟩
      rw [Array.setIfInBounds_comm _ _ hji, ← Act.put_comm a v u h2]
      exact Hj
/-- The walk in the order of the text. -/
def seqU (P : Program) (ops : Array Oper) (S : World → Prop) (Lq : Act → Prop) : List Oper → Act → Prop
  | [], a => Lq a
  | o :: l, a => ∃ v, StabU P ops S o v a ∧ seqU P ops S Lq l (a.put o.dst v)
theorem wpUL_lex {n g : Nat} {Lq : Act → Prop} (hsel : Region.noSelect ops = true) (hs : Region.sinkB md ops n = true) (hc : Region.chainB md ops n = true) (hn : n < ops.size) :
    ∀ (l : List Oper) (k : Nat) (listed : Array Bool) (a : Act), (∀ j, j < l.length → l[j]? = ops[k + j]?) → k + l.length = n → HeadInv md ops n listed →
    Region.lexHead md ops g l.length k listed = true → seqU P ops S Lq l a →
    wpUL P md ops S n (fun listed' a' => Region.seqB md ops g n listed' = true ∧ Lq a') l.length listed a
  | [], k, listed, a, _, hk, _, hB, h => by
    have : k = n := by simpa using hk
    subst this
    exact ⟨by simpa [Region.lexHead] using hB, h⟩
  | o :: l, k, listed, a, hl, hk, inv, hB, h => by
    have h0 : ops[k]? = some o := by simpa using (hl 0 (by simp)).symm
    simp only [List.length_cons, Region.lexHead, Bool.and_eq_true] at hB
    obtain ⟨⟨hr, hf⟩, hB'⟩ := hB
    have hkn : k < n := by simp only [List.length_cons] at hk; omega
    have hr' : k ∈ Region.ready md ops listed := by simpa using hr
    obtain ⟨v, hy, hK⟩ := h
    exact wpUL_first h0 (Region.noSelect_spec hsel) hs hc hn hkn (fun listed' a' hL => seqB_ready hL.1) l.length listed a inv (Region.free_spec h0 hf) hr' hy
      (wpUL_lex hsel hs hc hn l (k + 1) _ _ (fun j hj => by have := hl (j + 1) (by simp; omega); simpa [Nat.add_assoc, Nat.add_comm 1 j] using this) (by simp only [List.length_cons] at hk; omega) (inv.set hr' hkn) hB' hK)
theorem wp_region_u {id : Nat} {Q : Exit → Act → World → Prop} {a : Act} {w : World} {l : List Oper} (n : Nat) (S : World → Prop) (hm : P.follows .mixedOrders = true) (hB : Region.lexTailB .any l.toArray n = true)
    (hS : S w.drew) (h : seqU P l.toArray S (fun a' => ∀ w', S w' → wpList P l.toArray Q (l.drop n) a' w') (l.take n) a) : (Code.region id l.toArray true).wp P Q a w := by
  simp only [Region.lexTailB, Bool.and_eq_true, decide_eq_true_eq] at hB
  obtain ⟨⟨⟨⟨hsel, hn⟩, hs⟩, hc⟩, hlex⟩ := hB
  have htl : (l.take n).length = n := by
    have hn' : n < l.length := by simpa using hn
    simp; omega
  have hdl : (l.drop n).length = l.toArray.size - n := by simp
  have inv0 : HeadInv .any l.toArray n (Array.replicate l.toArray.size false) :=
    ⟨by simp, fun j oj _ hl => (by rw [getD_replicate_false] at hl; cases hl), fun t _ ht => getD_in (by simpa using ht) (getD_replicate_false _ _)⟩
  have H := wpUL_lex (md := .any) (g := l.toArray.size - n) hsel hs hc hn (l.take n) 0 _ a (fun j hj => by
    have hj' : j < n := by rw [htl] at hj; exact hj
    simp [hj']) (by simpa using htl) inv0 (by rw [htl]; exact hlex) h
  refine wp_region_any hm ?_
  have := wpAny_of_headU (Q' := Q) (g := l.toArray.size - n) (fun listed a' hL w' hS' => by
    have := wpAny_of_seq (md := .any) (Q' := Q) (l.drop n) n listed a' w' (fun j => by simp [List.getElem?_drop]) (by rw [hdl]; exact hL.1) (hL.2 w' hS')
    rwa [hdl] at this) _ _ _ H w.drew hS
  rw [htl, show n + (l.toArray.size - n) = l.toArray.size by simp at hn; simp; omega] at this
  exact this
variable {Lq : Act → Prop}
theorem seqU_nil {a : Act} (h : Lq a) : seqU P ops S Lq [] a := h
theorem seqU_skip {o : Oper} {l : List Oper} {a : Act} (hw : Region.wanted o (yielded ops a.tmps) = false) (hr : seqU P ops S Lq l (a.put o.dst undef)) : seqU P ops S Lq (o :: l) a :=
  ⟨undef, .inr ⟨hw, rfl⟩, hr⟩
/-- An operation that yields its value and leaves the world. -/
theorem seqU_val {o : Oper} {l : List Oper} {a : Act} (v : Value) (hw : Region.wanted o (yielded ops a.tmps) = true) (h : ∀ w, S w → (execOp a.eval o).run P w = .ok (.value v) w)
    (hr : seqU P ops S Lq l (a.put o.dst v)) : seqU P ops S Lq (o :: l) a :=
  ⟨v, .inl ⟨hw, fun w hS => by rw [h w hS]; exact ⟨samePut.rfl', hS⟩⟩, hr⟩
/-- A call. -/
theorem seqU_call {o : Oper} {l : List Oper} {a : Act} (f : FuncId) (args : Array Value) (v : Value) (hw : Region.wanted o (yielded ops a.tmps) = true) (h : ∀ w, (execOp a.eval o).run P w = .ok (.enter f args) w)
    (hc : ∀ w, S w → Calls P f args w fun e w' => e = .returned v ∧ S w')
    (hr : seqU P ops S Lq l (a.put o.dst v)) : seqU P ops S Lq (o :: l) a :=
  ⟨v, .inl ⟨hw, fun w hS => by
    rw [h w]
    refine (hc w hS).mono fun e w' he => ?_
    rw [he.1]
    exact ⟨samePut.rfl', he.2⟩⟩, hr⟩
end
end Go
