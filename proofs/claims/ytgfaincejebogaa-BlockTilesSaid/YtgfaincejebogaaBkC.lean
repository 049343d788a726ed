/- Blocks as values and in memory; a copy of elements; a result of several cells. Conditions: none. -/
import Derived.Test.YtgfaincejebogaaGnA
import Derived.Deep.MidRow
import Derived.Laws.IdiomCopy
namespace Go.Proofs.Ytgfaincejebogaa
open Go.RowKit

structure Bk where
  id : Int
  ph : Int
  sr : Int
  sc : Int
  ir : Int
  ic : Int
  pr : Int
  pc : Int
  dr : Int
  dc : Int
  tr : Int
  tc : Int
  code : Int
  has : Bool
  cut : Bool
  dir : ByteArray
  line : ByteArray
def bkCells (c : Bk) : List Value := [.int .u64 c.id, .int .i64 c.ph, .int .i64 c.sr, .int .i64 c.sc, .int .i64 c.ir, .int .i64 c.ic, .int .i64 c.pr, .int .i64 c.pc, .int .i64 c.dr, .int .i64 c.dc, .int .i64 c.tr, .int .i64 c.tc, .int .i64 c.code, .bool c.has, .bool c.cut, .string c.dir, .string c.line]
theorem bkCells_len : ∀ c, (bkCells c).length = 17 := fun _ => rfl
theorem bkCells_one : ∀ c, ∀ v ∈ bkCells c, v.oneCell' = true := fun c v hv => by
  simp only [bkCells, List.mem_cons, List.not_mem_nil, or_false] at hv
  rcases hv with rfl | rfl | rfl | rfl | rfl | rfl | rfl | rfl | rfl | rfl | rfl | rfl | rfl | rfl | rfl | rfl | rfl <;> rfl
theorem info_block : (Try.prog.info? 43).map (·.size) = some 17 := by kernel_rfl
theorem info_posS : (Try.prog.info? 24).map (·.size) = some 2 := by kernel_rfl
def vB (c : Bk) : Value := .agg (bkCells c).toArray
def zeroBk : Bk := ⟨0, 0, 0, 0, 0, 0, 0, 0, 0, 0, 0, 0, 0, false, false, ByteArray.empty, ByteArray.empty⟩
theorem there_below {w w1 : World} {b o n : Nat} (h : w.there b o n) (hb : Below w.heap.size w w1) : w1.there b o n := fun j hj => by
  obtain ⟨h1, h2⟩ := h j hj
  obtain ⟨u, hu⟩ := Option.isSome_iff_exists.1 h1
  have := hold hb ⟨hu, h2⟩
  exact ⟨by rw [this.1]; rfl, this.2⟩
theorem below_setCells {B : Nat} {W w1 : World} (h : Below B W w1) {b : Nat} (hb : B ≤ b) : ∀ (vs : List Value) (o : Nat), Below B W (w1.setCells b o vs)
  | [], o => h
  | v :: vs, o => by
    rw [World.setCells]
    exact below_setCells (below_set' h hb v) hb vs (o + 1)
where below_set' {B : Nat} {W w1 : World} (h : Below B W w1) {b o : Nat} (hb : B ≤ b) (v : Value) : Below B W (w1.setCell ⟨b, o, none⟩ v) := h.setCell (p := ⟨b, o, none⟩) hb v
theorem one_arr (c : Bk) : (bkCells c).toArray.all (·.oneCell') = true := all_oneCell_toArray (bkCells_one c)
theorem there_new {w : World} {g : Nat} {cs : Array Value} {t : TypeId} (h : w.heap[g]? = some (.cells cs t (0, 0))) : w.there g 0 cs.size := fun j hj => by
  rw [Nat.zero_add]
  exact ⟨by rw [cell_of_row w g j cs t (0, 0) h, Array.getElem?_eq_getElem hj]; rfl, frozen_of_row w g j cs t h⟩
theorem range_below {w w1 : World} {b o : Nat} {cs : List Value} (h : w.rangeAt b o cs) (hb : Below w.heap.size w w1) : w1.rangeAt b o cs := fun j v hj => holda hb (h j v hj)
section
variable {P : Program}
theorem run_copy_k (w : World) (dT sT ty elem : TypeId) (b o dLen dCap : Nat) (a : Addr) (sLen sCap k : Nat) (cs : List Value) (hu : P.underlying dT = some (.slice elem)) (hs : (P.info? elem).map (·.size) = some k) (hn : cs.length = Nat.min sLen dLen * k)
    (hsrc : ∀ j v, cs[j]? = some v → w.cell? (a.add j) = some v) (hc : ∀ j, j < cs.length → (w.cell? ⟨b, o + j, none⟩).isSome = true) (hf : ∀ j, j < cs.length → w.frozen? ⟨b, o + j, none⟩ = false) (h1 : ∀ v ∈ cs, v.oneCell' = true) :
    (Builtin.copy_ #[dT, sT] ty #[.slice (some ⟨b, o, none⟩) dLen dCap, .slice (some a) sLen sCap]).run P w = .ok (goInt (Nat.min sLen dLen)) (w.setCells b o cs) := by
  have hl := run_loadCells_list (P := P) w a cs hsrc
  have hst := run_storeCells_cells (P := P) b o cs 0 w (by simpa using hc) (by simpa using hf) h1
  cases hq : P.info? elem with
  | none => simp [hq] at hs
  | some i =>
    have hi : i.size = k := by simpa [hq] using hs
    simp [Builtin.copy_, run_underlying hu, Builtin.lenOf, Builtin.firstCells, sizeOf, typeInfo, hq, hi, ← hn, hl, hst]
theorem results_cell1 {fn : Func} {p : Tmp} {ty : TypeId} (h : fn.results = #[.cell p ty]) (tmps : Array Value) (P : Program) (w : World) :
    (results fn tmps).run P w = ((asAddr (tmps.getD p undef)).run P w).andThen fun a w₁ => (loadVar ty a).run P w₁ := by
  simp only [results, h]
  simp [Sem.run_bind, Result.andThen]
end
theorem ret_block {fn : Func} {p : Tmp} (hr : fn.results = #[.cell p 43]) (tmps : Array Value) (w : World) (b : Nat) (c : Bk) (hp : tmps.getD p undef = .pointer (some ⟨b, 0, none⟩)) (h : w.rangeAt b 0 (bkCells c)) :
    (results fn tmps).run Try.prog w = .ok (vB c) w := by
  rw [results_cell1 hr, hp]
  have := run_loadVar_mid (P := Try.prog) w b 0 43 (bkCells c) _ h Try.underlying43 rfl info_block
  simp only [asAddr, Sem.run_pure, Result.andThen_ok, this]
  rfl
/-- A block known whole, some cells of which are set. -/
theorem whole_setCells {b : Nat} {t : TypeId} : ∀ (vs : List Value) (o : Nat) (cs : List Value) (w : World), w.heap[b]? = some (.cells cs.toArray t (0, 0)) → o + vs.length ≤ cs.length → (w.setCells b o vs).heap[b]? = some (.cells (cs.take o ++ (vs ++ cs.drop (o + vs.length))).toArray t (0, 0))
  | [], o, cs, w, h, _ => by simpa [World.setCells] using h
  | v :: vs, o, cs, w, h, hl => by
    rw [List.length_cons] at hl
    have h1 := whole_set h o v rfl
    have ih := whole_setCells vs (o + 1) (cs.set o v) (w.setCell ⟨b, o, none⟩ v) h1 (by rw [List.length_set]; omega)
    have hlt : o < (cs.set o v).length := by rw [List.length_set]; omega
    rw [List.take_succ_eq_append_getElem hlt, List.getElem_set_self, List.take_set_of_le (Nat.le_refl o), List.drop_set_of_lt (by omega), List.append_assoc] at ih
    rw [World.setCells, List.length_cons, show o + (vs.length + 1) = o + 1 + vs.length by omega]
    exact ih
theorem mod_setCellsN {X : List Nat} {w : World} {g : Nat} (hg : g ∈ X ∨ w.heap.size ≤ g) : ∀ (cs : List Value) (o : Nat) (w1 : World), Mod X w w1 → Mod X w (w1.setCells g o cs)
  | [], _, _, h => h
  | v :: r, o, _, h => mod_setCellsN hg r (o + 1) _ (h.setCell (a := ⟨g, o, none⟩) hg v)
end Go.Proofs.Ytgfaincejebogaa
