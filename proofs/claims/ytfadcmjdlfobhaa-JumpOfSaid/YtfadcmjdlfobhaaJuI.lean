/- jump.stop and Of. Conditions: as stated. -/
import Derived.Test.YtfadcmjdlfobhaaBkA
import Derived.Test.YtfadcmjdlfobhaaJuH
namespace Go.Proofs.Ytfadcmjdlfobhaa
open Go.RowKit Go.Sort

def bkV (c : Bk) : Value := .agg #[.int .u64 c.id, .int .i64 c.ph, .int .i64 c.sr, .int .i64 c.sc, .int .i64 c.ir, .int .i64 c.ic, .int .i64 c.pr, .int .i64 c.pc, .int .i64 c.dr, .int .i64 c.dc, .int .i64 c.tr, .int .i64 c.tc, .int .i64 c.code, .bool c.has, .bool c.cut, .string c.dir, .string c.line]
/-- A block, loaded whole. -/
theorem load_bk {ops : Array Oper} {rest : List Oper} {op : Oper} {a : Act} {w : World} {Q : Exit → Act → World → Prop} (hgd : op.guard = none) (x : Operand) (ho : op.op = .load 72 x)
    (b o : Nat) (hx : a.eval x = .pointer (some ⟨b, o, none⟩)) (c : Bk) (hc : w.rangeAt b o (bkCells c))
    (h : wpList Try.prog ops Q rest (a.put op.dst (.agg #[.int .u64 c.id, .int .i64 c.ph, .int .i64 c.sr, .int .i64 c.sc, .int .i64 c.ir, .int .i64 c.ic, .int .i64 c.pr, .int .i64 c.pc, .int .i64 c.dr, .int .i64 c.dc, .int .i64 c.tr, .int .i64 c.tc, .int .i64 c.code, .bool c.has, .bool c.cut, .string c.dir, .string c.line])) w) : wpList Try.prog ops Q (op :: rest) a w :=
  wpList_load_mid hgd 72 x ho b o hx (bkCells c) _ hc Try.underlying72 rfl info_block h
def stopB (c : Bk) (kind : Int) : Int × Bool :=
  if c.id = 0 then (0, false) else if kind = 0 then (c.sr, true) else if kind = 1 then (c.pr, c.ph == 3 || c.ph == 4) else if kind = 2 then (c.sr, c.has && c.code != 0) else (0, false)
theorem stop_cases (c : Bk) (kind : Int) :
    ((c.id == 0) = true ∧ (c.id != 0) = false ∧ stopB c kind = (0, false)) ∨
    ((c.id == 0) = false ∧ (c.id != 0) = true ∧ kind = 0 ∧ stopB c kind = (c.sr, true)) ∨
    ((c.id == 0) = false ∧ (c.id != 0) = true ∧ kind = 1 ∧ (c.ph == 3) = true ∧ stopB c kind = (c.pr, true)) ∨
    ((c.id == 0) = false ∧ (c.id != 0) = true ∧ kind = 1 ∧ (c.ph == 3) = false ∧ (c.ph == 4) = true ∧ stopB c kind = (c.pr, true)) ∨
    ((c.id == 0) = false ∧ (c.id != 0) = true ∧ kind = 1 ∧ (c.ph == 3) = false ∧ (c.ph == 4) = false ∧ stopB c kind = (c.pr, false)) ∨
    ((c.id == 0) = false ∧ (c.id != 0) = true ∧ kind = 2 ∧ c.has = false ∧ stopB c kind = (c.sr, false)) ∨
    ((c.id == 0) = false ∧ (c.id != 0) = true ∧ kind = 2 ∧ c.has = true ∧ (c.code != 0) = false ∧ stopB c kind = (c.sr, false)) ∨
    ((c.id == 0) = false ∧ (c.id != 0) = true ∧ kind = 2 ∧ c.has = true ∧ (c.code != 0) = true ∧ stopB c kind = (c.sr, true)) ∨
    ((c.id == 0) = false ∧ (c.id != 0) = true ∧ (kind == 0) = false ∧ (kind == 1) = false ∧ (kind == 2) = false ∧ stopB c kind = (0, false)) := by
  unfold stopB
  by_cases h0 : c.id = 0
  · simp [h0]
  · by_cases h1 : kind = 0
    · simp [h0, h1]
    · by_cases h2 : kind = 1
      · subst h2
        by_cases h3 : c.ph = 3
        · simp [h0, h3]
        · by_cases h4 : c.ph = 4 <;> simp [h0, h3, h4]
      · by_cases h3 : kind = 2
        · subst h3
          cases h4 : c.has
          · simp [h0]
          · by_cases h5 : c.code = 0 <;> simp [h0, h5]
        · simp [h0, h1, h2, h3]
def StopPost (w : World) (x : Int × Bool) (e : Ending) (w' : World) : Prop := e = .returned (.tuple #[.int .i64 x.1, .bool x.2]) ∧ Below w.heap.size w w'
set_option maxRecDepth 100000 in
set_option maxHeartbeats 3200000 in
theorem stop_any (c : Bk) (kind : Int) (w : World) :
    Calls Try.prog 64 #[bkV c, .int .i64 kind] w (StopPost w (stopB c kind)) := by
  unfold bkV
  rcases stop_cases c kind with ⟨h1, h2, hs⟩ | ⟨h1, h2, rfl, hs⟩ | ⟨h1, h2, rfl, h3, hs⟩ | ⟨h1, h2, rfl, h3, h4, hs⟩ | ⟨h1, h2, rfl, h3, h4, hs⟩ | ⟨h1, h2, rfl, h3, hs⟩ | ⟨h1, h2, rfl, h3, h4, hs⟩ | ⟨h1, h2, rfl, h3, h4, hs⟩ | ⟨h1, h2, h3, h4, h5, hs⟩
  all_goals rw [hs]
  all_goals clear hs
  all_goals go_enter Try.func64, Try.ntmps64
  all_goals go_wp2_with fail
  all_goals try (go_quiet (fail))
  all_goals try go_wp2
  all_goals go_ret2
  all_goals exact ⟨rfl, by repeat (first | exact Below.refl _ _ | refine below_drewNs ?_ _ | refine Below.drew ?_ | refine below_allocs ?_ _)⟩
def rowsOf (l : List Bk) (kind : Int) : List Int := l.flatMap fun c => if (stopB c kind).2 then [(stopB c kind).1] else []
theorem rowsOf_take {l : List Bk} {k : Nat} {c : Bk} (kind : Int) (h : l[k]? = some c) : rowsOf (l.take (k + 1)) kind = rowsOf (l.take k) kind ++ (if (stopB c kind).2 then [(stopB c kind).1] else []) := by
  have hk := List.getElem?_eq_some_iff.1 h
  rw [List.take_succ_eq_append_getElem hk.1, hk.2]
  simp [rowsOf]
theorem rowsOf_len (l : List Bk) (kind : Int) : (rowsOf l kind).length ≤ l.length := by
  induction l with
  | nil => simp [rowsOf]
  | cons c l ih =>
    have e : rowsOf (c :: l) kind = (if (stopB c kind).2 then [(stopB c kind).1] else []) ++ rowsOf l kind := rfl
    rw [e, List.length_append, List.length_cons]
    split <;> simp <;> omega
theorem rowsOf_ok {l : List Bk} {kind : Int} (h : ∀ c ∈ l, bkOk c) : ∀ y ∈ rowsOf l kind, okI y := by
  intro y hy
  unfold rowsOf at hy
  rw [List.mem_flatMap] at hy
  obtain ⟨c, hc, hy⟩ := hy
  obtain ⟨k1, k2⟩ := h c hc
  by_cases hs : (stopB c kind).2 = true
  · rw [if_pos hs, List.mem_singleton] at hy
    subst hy
    unfold stopB at hs ⊢
    repeat' split
    all_goals first | exact k1 | exact k2 | (unfold okI; simp; done) | (unfold okI; simp only; omega)
  · rw [if_neg hs] at hy; cases hy
def OfSt (w : World) (xs : List Int) (v : Value) (wr : World) : Prop := wr.ownsRow w.heap.size 3 1 v xs.length (vals xs) ∧ Below w.heap.size w wr
theorem OfSt.add {w wr wm w1 : World} {xs : List Int} {v v1 : Value} {n : Int} {o : Obj} (h : OfSt w xs v wr) (hm : Below wr.heap.size wr wm) (hown1 : w1.ownsRow w.heap.size 3 1 v1 (xs.length + 1) (vals xs ++ [Value.int .i64 n])) (hg : (wm.alloc o).grownBy w1 v.ownBlock) : OfSt w (xs ++ [n]) v1 w1 := by
  obtain ⟨hown, hB⟩ := h
  refine ⟨?_, ?_⟩
  · rw [← vals_snoc, List.length_append]; exact hown1
  · have hB1 := below_allocs (below_tail hB hm) o
    exact hB1.grown hg hB1.size (fun k hk => (hown.lt k hk).1)
theorem OfSt.below {w wr w1 : World} {xs : List Int} {v : Value} (h : OfSt w xs v wr) (hb : Below wr.heap.size wr w1) : OfSt w xs v w1 := ⟨owns_below h.1 hb, below_tail h.2 hb⟩
theorem range_of_gr {w : World} {A : Option Addr} {l : List Bk} (h : GrAt bkCells 17 w A l) {k : Nat} (hk : k < l.length) : ∃ b off c, A = some ⟨b, off, none⟩ ∧ l[k]? = some c ∧ w.rangeAt b (off + k * 17) (bkCells c) := by
  obtain ⟨b, off, c, e, hc, h2⟩ := h.at_ hk
  exact ⟨b, off, c, e, hc, h2⟩
theorem range_below {w w1 : World} {b o : Nat} {cs : List Value} (h : w.rangeAt b o cs) (hb : Below w.heap.size w w1) : w1.rangeAt b o cs := fun j v hj => holda hb (h j v hj)
set_option maxRecDepth 100000 in
set_option maxHeartbeats 3200000 in
theorem Of_any (A : Option Addr) (l : List Bk) (ca : Nat) (kind : Int) (w : World) (hl : GrAt bkCells 17 w A l) (hz : l.length ≤ 1000000) :
    Calls Try.prog 44 #[.slice A l.length ca, .int .i64 kind] w (OwnPost w (srtd (rowsOf l kind))) := by
  obtain ⟨i0, hi, hz0, hz1, hz2⟩ := info_parts info_int
  have HL := Lib.hid hl
  clear hl
  go_enter Try.func44, Try.ntmps44
  go_wp2_with fail
  go_loopw [5, 12] (fun s5 i wr => ∃ k : Nat, k ≤ l.length ∧ i = .int .i64 k ∧ OfSt w (rowsOf (l.take k) kind) s5 wr) (fun _ i _ => l.length - (intOf i).toNat)
  case atStart => exact ⟨0, Nat.zero_le _, rfl, World.ownsRow_nil _ _ _ _, Below.refl _ _⟩
  case round =>
    obtain ⟨k, hk, rfl, hst⟩ := hrel
    have HST := Lib.hid hst
    have hB := hst.2
    have hlen := rowsOf_len (l.take k) kind
    rw [List.length_take] at hlen
    clear hst
    by_cases hlt : k < l.length
    rotate_left
    · obtain rfl : k = l.length := by omega
      have ho := HST.out.1
      rw [List.take_length] at ho hlen
      generalize hxs : rowsOf l kind = xs at ho hlen
      have HXS := Lib.hid hxs
      clear hxs
      obtain ⟨A1, c1, rfl, -, -, -, hg⟩ := ints_of_owns ho rfl
      have HS := Lib.hid (JSort_any A1 xs c1 _ hg (by omega))
      clear ho hg HST
      go_wp2_with (go_at_call 35; refine HS.out.mono ?_; rintro e w1 ⟨v, rfl, how, hb1⟩)
      go_ret
      rw [HXS.out]
      obtain ⟨h1, h2 | ⟨g, cap, cur, e1, e2, e3⟩⟩ := how
      · exact ⟨v, rfl, ⟨h1, .inl h2⟩, below_tail hB hb1⟩
      · exact ⟨v, rfl, ⟨h1, .inr ⟨g, cap, cur, e1, Nat.le_trans hB.size e2, e3⟩⟩, below_tail hB hb1⟩
    · obtain ⟨b, off, c, rfl, hc, hr⟩ := range_of_gr HL.out hlt
      have HR := Lib.hid (range_below hr hB)
      have HC := Lib.hid (rowsOf_take kind hc)
      have hlt' : (k : Int) < (l.length : Int) := by omega
      have HSP : Hid (∀ W : World, Calls Try.prog 64 #[.agg #[.int .u64 c.id, .int .i64 c.ph, .int .i64 c.sr, .int .i64 c.sc, .int .i64 c.ir, .int .i64 c.ic, .int .i64 c.pr, .int .i64 c.pc, .int .i64 c.dr, .int .i64 c.dc, .int .i64 c.tr, .int .i64 c.tc, .int .i64 c.code, .bool c.has, .bool c.cut, .string c.dir, .string c.line], .int .i64 kind] W (StopPost W (stopB c kind))) := Lib.hid fun W => stop_any c kind W
      clear hr hc
      generalize stopB c kind = sb at HSP HC
      obtain ⟨row, ok⟩ := sb
      generalize hxs : rowsOf (l.take k) kind = xs at HST HC hlen
      clear hxs
      cases ok
      · go_wp2_with (first
          | (refine load_bk (op := ⟨some 15, _, _, _, _, _⟩) rfl _ rfl b (off + k * 17) rfl c HR.out ?_)
          | (go_at_call 64; refine (HSP.out _).mono ?_; rintro e w2 ⟨rfl, hb2⟩; simp only))
        go_roundw
        case rel => exact ⟨k + 1, by omega, by go_num, by
          rw [HC.out]
          simp only [Bool.false_eq_true, if_false, List.append_nil]
          exact HST.out.below (below_tail (below_allocs (Below.refl _ _) _) hb2)⟩
        case measure => simp [intOf]; omega
      · go_wp2_with (first
          | (refine load_bk (op := ⟨some 15, _, _, _, _, _⟩) rfl _ rfl b (off + k * 17) rfl c HR.out ?_)
          | (go_at_call 64; refine (HSP.out _).mono ?_; rintro e w2 ⟨rfl, hb2⟩; have hb3 := below_tail (below_allocs (Below.refl wr.heap.size wr) _) hb2; have HST2 := Lib.hid (HST.out.below hb3); simp only)
          | (at_builtin; refine wpList_append_own _ rfl (.tmp 23) (.tmp 25) _ rfl w.heap.size 3 i0 (.int .i64 0) 1 8 Try.underlying53 hi hz0 hz1 hz2 rfl (by decide) _ _ _ rfl (HST2.out.1.alloc _) ⟨w2.heap.size, 0, none⟩ 1 1 [.int .i64 row] rfl rfl (cell_one_new _ _ _) (by simp [Value.oneCell']) (by simp only [maxLen]; omega) (by omega) (by have := HST2.out.2.size; simp; omega) ?_; intro v1 w1 hown1 hg1 _; have HO1 := Lib.hid hown1; have HG1 := Lib.hid hg1; clear hown1 hg1))
        go_roundw
        case rel => exact ⟨k + 1, by omega, by go_num, by
          rw [HC.out]
          simp only [if_true]
          exact HST2.out.add (Below.refl _ _) HO1.out HG1.out⟩
        case measure => simp [intOf]; omega
end Go.Proofs.Ytfadcmjdlfobhaa
