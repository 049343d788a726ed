/- The document's example of blocks. Conditions: none. -/
import Derived.Test.YtgfaincejebogaaBsB
namespace Go.Proofs.Ytgfaincejebogaa
open Go.RowKit

theorem eql_bk (c : Bk) (w : World) : (binOp .eql 43 (.agg (bkCells c).toArray) (.agg (bkCells c).toArray)).run Try.prog w = .ok (.bool true) w := by
  unfold bkCells
  go_simp
theorem load_mid_g {ops : Array Oper} {rest : List Oper} {op : Oper} {a : Act} {w : World} {Q : Exit → Act → World → Prop} (hw : Region.wanted op (yielded ops a.tmps) = true) (ty : TypeId) (x : Operand) (ho : op.op = .load ty x)
    (b o : Nat) (hx : a.eval x = .pointer (some ⟨b, o, none⟩)) (cs : List Value) (d : TypeDesc) (hc : w.rangeAt b o cs)
    (hu : Try.prog.underlying ty = some d) (hd : d.isRow = true) (hi : (Try.prog.info? ty).map (·.size) = some cs.length)
    (h : wpList Try.prog ops Q rest (a.put op.dst (.agg cs.toArray)) w) : wpList Try.prog ops Q (op :: rest) a w := by
  unfold wpList
  rw [if_pos hw]
  exact .inl (wp_load_mid ty x ho b o hx cs d hc hu hd hi h)
theorem val_g {ops : Array Oper} {rest : List Oper} {op : Oper} {a : Act} {w : World} {Q : Exit → Act → World → Prop} (hw : Region.wanted op (yielded ops a.tmps) = true) (v : Value) (hr : (execOp a.eval op).run Try.prog w = .ok (.value v) w)
    (h : wpList Try.prog ops Q rest (a.put op.dst v) w) : wpList Try.prog ops Q (op :: rest) a w := by
  unfold wpList
  rw [if_pos hw]
  refine .inl ?_
  unfold Oper.wp
  rw [hr]
  exact h
theorem exec_eql {ρ : Operand → Value} {o : Oper} {w : World} (s x : Operand) (ho : o.op = .binOp .eql 43 s x 43) (c : Bk) (hs : ρ s = .agg (bkCells c).toArray) (hx : ρ x = .agg (bkCells c).toArray) : (execOp ρ o).run Try.prog w = .ok (.value (.bool true)) w := by
  unfold execOp
  simp only [ho, hs, hx]
  unfold bkCells
  go_simp
/-- The store alone, from B on. -/
def AwS (B p : Nat) (S : Bs) (w : World) : Prop := ∃ v L, BlO w p v L 9 S.ids S.dir ∧ L.map (·.2) = S.es ∧ ∀ g ∈ foot p v L, B ≤ g
theorem AwS.size {B p : Nat} {S : Bs} {w : World} (h : AwS B p S w) : B ≤ w.heap.size := by
  obtain ⟨v, L, h1, -, h3⟩ := h
  have := h1.lt p (by simp [foot])
  have := h3 p (by simp [foot])
  omega
theorem AwS.take {B p : Nat} {S : Bs} {w : World} (h : AwS B p S w) (x : Sg) (r c : Int) (hl : S.es.length ≤ 900) (hi0 : 0 ≤ S.ids) (hi1 : S.ids ≤ 1000000) :
    Calls Try.prog 15 #[.pointer (some ⟨p, 0, none⟩), .agg #[.int .i64 x.k, .int .i64 x.code, .bool x.has, .string x.text], .agg #[.int .i64 r, .int .i64 c]] w fun e w' => e = .returned (.tuple #[]) ∧ AwS B p (takeB 9 S x (r, c)) w' ∧ Below B w w' := by
  have hB := h.size
  obtain ⟨v, L, h1, h2, h3⟩ := h
  have := bltake_any (mo := 9) x r c w h1 (by decide) (by rw [← List.length_map (f := (·.2)), h2]; exact hl) hi0 hi1
  rw [h2] at this
  refine this.mono fun e w' ⟨he, v', L', k1, k2, k3, k4⟩ => ⟨he, ⟨v', L', k1, k2, fun g hg => ?_⟩, k3.below h3 hB⟩
  rcases k4 g hg with h | h
  · exact h3 g h
  · omega
def aw0 : Bs := ⟨0, ByteArray.empty, []⟩
def aw1 : Bs := takeB 9 aw0 ⟨1, 0, false, ByteArray.empty⟩ (0, 0)
def aw2 : Bs := takeB 9 aw1 ⟨2, 0, false, ByteArray.empty⟩ (0, 2)
def aw3 : Bs := takeB 9 aw2 ⟨3, 0, false, ByteArray.empty⟩ (1, 0)
def aw4 : Bs := takeB 9 aw3 ⟨4, 0, true, ByteArray.empty⟩ (3, 0)
def awB : Bk := ⟨1, 4, 0, 0, 0, 2, 1, 0, 3, 0, 5, 0, 0, true, false, ByteArray.empty, ByteArray.empty⟩
theorem aw1_eq : aw1.es.length = 1 ∧ aw1.ids = 1 := by decide
theorem aw2_eq : aw2.es.length = 1 ∧ aw2.ids = 1 := by decide
theorem aw3_eq : aw3.es.length = 1 ∧ aw3.ids = 1 := by decide
theorem aw4_eq : aw4.es.length = 1 ∧ aw4.ids = 1 := by decide
theorem aw_find : findB (listB aw4.es (5, 0)) 1 = some awB := by rfl
set_option maxRecDepth 100000 in
set_option maxHeartbeats 3200000 in
theorem awake19 (w : World) : Calls Try.prog 6 #[] w fun e w' => e = .returned (.bool true) ∧ Below w.heap.size w w' := by
  obtain ⟨x, hx⟩ : ∃ x, x = awB := ⟨_, rfl⟩
  have HN := Lib.hid (fun w => blNew_ok 9 w (by decide) (by decide))
  have HT1 : Hid (∀ w1, AwS w.heap.size w.heap.size aw0 w1 → Calls Try.prog 15 #[.pointer (some ⟨w.heap.size, 0, none⟩), .agg #[.int .i64 1, .int .i64 0, .bool false, .string ByteArray.empty], .agg #[.int .i64 0, .int .i64 0]] w1 fun e w' => e = .returned (.tuple #[]) ∧ AwS w.heap.size w.heap.size aw1 w' ∧ Below w.heap.size w1 w') := Lib.hid (fun w1 h => h.take ⟨1, 0, false, ByteArray.empty⟩ 0 0 (by decide) (by decide) (by decide))
  have HT2 : Hid (∀ w1, AwS w.heap.size w.heap.size aw1 w1 → Calls Try.prog 15 #[.pointer (some ⟨w.heap.size, 0, none⟩), .agg #[.int .i64 2, .int .i64 0, .bool false, .string ByteArray.empty], .agg #[.int .i64 0, .int .i64 2]] w1 fun e w' => e = .returned (.tuple #[]) ∧ AwS w.heap.size w.heap.size aw2 w' ∧ Below w.heap.size w1 w') := Lib.hid (fun w1 h => h.take ⟨2, 0, false, ByteArray.empty⟩ 0 2 (by rw [aw1_eq.1]; decide) (by rw [aw1_eq.2]; decide) (by rw [aw1_eq.2]; decide))
  have HT3 : Hid (∀ w1, AwS w.heap.size w.heap.size aw2 w1 → Calls Try.prog 15 #[.pointer (some ⟨w.heap.size, 0, none⟩), .agg #[.int .i64 3, .int .i64 0, .bool false, .string ByteArray.empty], .agg #[.int .i64 1, .int .i64 0]] w1 fun e w' => e = .returned (.tuple #[]) ∧ AwS w.heap.size w.heap.size aw3 w' ∧ Below w.heap.size w1 w') := Lib.hid (fun w1 h => h.take ⟨3, 0, false, ByteArray.empty⟩ 1 0 (by rw [aw2_eq.1]; decide) (by rw [aw2_eq.2]; decide) (by rw [aw2_eq.2]; decide))
  have HT4 : Hid (∀ w1, AwS w.heap.size w.heap.size aw3 w1 → Calls Try.prog 15 #[.pointer (some ⟨w.heap.size, 0, none⟩), .agg #[.int .i64 4, .int .i64 0, .bool true, .string ByteArray.empty], .agg #[.int .i64 3, .int .i64 0]] w1 fun e w' => e = .returned (.tuple #[]) ∧ AwS w.heap.size w.heap.size aw4 w' ∧ Below w.heap.size w1 w') := Lib.hid (fun w1 h => h.take ⟨4, 0, true, ByteArray.empty⟩ 3 0 (by rw [aw3_eq.1]; decide) (by rw [aw3_eq.2]; decide) (by rw [aw3_eq.2]; decide))
  have HF : Hid (∀ w1, AwS w.heap.size w.heap.size aw4 w1 → Calls Try.prog 16 #[.pointer (some ⟨w.heap.size, 0, none⟩), .int .u64 1, .agg #[.int .i64 5, .int .i64 0]] w1 (FindPost w1 (some x))) := Lib.hid (fun w1 ⟨v, L, h1, h2, _⟩ => by
    have := blFind_any 1 5 0 w1 h1 (by rw [← List.length_map (f := (·.2)), h2, aw4_eq.1]; decide)
    rwa [h2, aw_find, ← hx] at this)
  have HX := Lib.hid hx
  clear hx
  go_enter Try.func6, Try.ntmps6
  go_upto_region 9 with (first
    | (go_at_call 14; refine (HN.out _).mono ?_; rintro e w1 ⟨rfl, hbl, hb1⟩; have A0 := Lib.hid (show AwS w.heap.size w.heap.size aw0 w1 from ⟨_, [], hbl, rfl, by simp [foot, Value.ownBlock]⟩); have B1 := Lib.hid hb1; clear hbl hb1)
    | (go_at_call 15; first
        | (refine (HT4.out _ A3.out).mono ?_; rintro e w5 ⟨rfl, ha, hb⟩; have A4 := Lib.hid ha; have B5 := Lib.hid (B4.out.trans hb); clear ha hb)
        | (refine (HT3.out _ A2.out).mono ?_; rintro e w4 ⟨rfl, ha, hb⟩; have A3 := Lib.hid ha; have B4 := Lib.hid (B3.out.trans hb); clear ha hb)
        | (refine (HT2.out _ A1.out).mono ?_; rintro e w3 ⟨rfl, ha, hb⟩; have A2 := Lib.hid ha; have B3 := Lib.hid (B2.out.trans hb); clear ha hb)
        | (refine (HT1.out _ A0.out).mono ?_; rintro e w2 ⟨rfl, ha, hb⟩; have A1 := Lib.hid ha; have B2 := Lib.hid (B1.out.trans hb); clear ha hb))
    | (go_at_call 16; refine (HF.out _ A4.out).mono ?_; rintro e w6 ⟨rfl, hb⟩; have B6 := Lib.hid (below_tail B5.out hb); clear hb; have HTN := Lib.hid (there_new (cs := (bkCells zeroBk).toArray) (w := w6.alloc (.cells (bkCells zeroBk).toArray 43)) (g := w6.heap.size) (hp_new rfl)); have HRR := Lib.hid (World.rangeAt_setCells_same _ _ _ (bkCells x) HTN.out))
    | (refine wpList_store_mid (op := ⟨none, .store 43 (.tmp 3) (.tmp 35), _, _, _, _⟩) rfl 43 (.tmp 3) (.tmp 35) rfl w6.heap.size 0 (bkCells x).toArray rfl rfl HTN.out info_block (one_arr x) ?_))
  generalize hW7 : World.setCells _ _ _ _ = W7
  have HR7 := Lib.hid (show W7.rangeAt w6.heap.size 0 (bkCells x) from by rw [← hW7]; exact HRR.out)
  rw [HX.out] at HR7
  have HB7 := Lib.hid (show Below w.heap.size w W7 from by rw [← hW7]; exact below_setCells (below_allocs B6.out _) (by have := B6.out.size; omega) _ _)
  clear hW7 HRR HTN HT1 HT2 HT3 HT4 HF
  go_wp2_with (first
    | (refine load_mid_g (op := ⟨some 39, _, _, _, _, _⟩) (by rfl) 43 (.tmp 3) rfl w6.heap.size 0 rfl (bkCells awB) _ HR7.out Try.underlying43 rfl info_block ?_)
    | (refine val_g (op := ⟨some 44, _, _, _, _, _⟩) (by rfl) (.agg (bkCells awB).toArray) (by kernel_rfl) ?_)
    | (refine val_g (op := ⟨some 45, _, _, _, _, _⟩) (by rfl) (.bool true) (exec_eql (.tmp 39) (.tmp 44) rfl awB rfl rfl) ?_))
  go_ret
  exact ⟨rfl, HB7.out⟩
end Go.Proofs.Ytgfaincejebogaa
