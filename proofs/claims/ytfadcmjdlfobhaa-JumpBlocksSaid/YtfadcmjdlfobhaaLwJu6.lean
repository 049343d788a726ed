/- JumpBlocks: the walk of the law. Conditions: none. -/
import Derived.Test.YtfadcmjdlfobhaaJuJ
import Derived.Deep.CutBlock
namespace Go.Proofs.Ytfadcmjdlfobhaa
open Go.RowKit Go.Sort

theorem eql_bk (c : Bk) (w : World) : (binOp .eql 72 (.agg (bkCells c).toArray) (.agg (bkCells c).toArray)).run Try.prog w = .ok (.bool true) w := by
  unfold bkCells
  go_simp
theorem load_mid_g {ops : Array Oper} {rest : List Oper} {op : Oper} {a : Act} {w : World} {Q : Exit → Act → World → Prop} (hw : Region.wanted op (yielded ops a.tmps) = true) (ty : TypeId) (x : Operand) (ho : op.op = .load ty x)
    (b o : Nat) (hx : a.eval x = .pointer (some ⟨b, o, none⟩)) (cs : List Value) (d : TypeDesc) (hc : w.rangeAt b o cs)
    (hu : Try.prog.underlying ty = some d) (hd : d.isRow = true) (hi : (Try.prog.info? ty).map (·.size) = some cs.length)
    (h : wpList Try.prog ops Q rest (a.put op.dst (.agg cs.toArray)) w) : wpList Try.prog ops Q (op :: rest) a w := by
  unfold wpList
  rw [if_pos hw]
  exact .inl (wp_load_mid ty x ho b o hx cs d hc hu hd hi h)
/-- What the loop keeps: the place, the program's answer, the document's so far. -/
def LbSt (w : World) (g5 g7 : Nat) (r c : Int) (o s : Option Bk) (wr : World) : Prop :=
  Below w.heap.size w wr ∧ wr.cell? ⟨w.heap.size, 0, none⟩ = some (.int .i64 r) ∧ wr.cell? ⟨w.heap.size, 1, none⟩ = some (.int .i64 c) ∧ wr.rangeAt g5 0 (bkCells (o.getD zeroBk)) ∧ wr.rangeAt g7 0 (bkCells (s.getD zeroBk)) ∧ wr.there g7 0 17
theorem LbSt.below {w wr w2 : World} {g5 g7 : Nat} {r c : Int} {o s : Option Bk} (h : LbSt w g5 g7 r c o s wr) (hb : Below wr.heap.size wr w2) : LbSt w g5 g7 r c o s w2 := by
  obtain ⟨h1, h2, h3, h4, h5, h6⟩ := h
  exact ⟨below_tail h1 hb, holda hb h2, holda hb h3, range_below h4 hb, range_below h5 hb, there_below h6 hb⟩
theorem LbSt.store {w wr : World} {g5 g7 : Nat} {r c : Int} {o s : Option Bk} {x : Bk} (h : LbSt w g5 g7 r c o s wr) (hw : w.heap.size < g5) (hg : g5 < g7) : LbSt w g5 g7 r c o (some x) (wr.setCells g7 0 (bkCells x)) := by
  obtain ⟨h1, h2, h3, h4, h5, h6⟩ := h
  have k2 : wr.rangeAt w.heap.size 0 [.int .i64 r, .int .i64 c] := fun j v hj => by
    match j, hj with
    | 0, hj => simp at hj; subst hj; exact h2
    | 1, hj => simp at hj; subst hj; exact h3
  have k3 := World.rangeAt_setCells_apart k2 g7 0 (bkCells x) (.inl (by omega))
  exact ⟨below_setCells h1 (by omega) _ _, by simpa using k3 0 _ rfl, by simpa using k3 1 _ rfl, World.rangeAt_setCells_apart h4 _ _ _ (.inl (by omega)), World.rangeAt_setCells_same _ _ _ _ h6, World.there_setCells h6 _ _ _⟩
set_option maxRecDepth 100000 in
set_option maxHeartbeats 3200000 in
theorem JumpBlocks_walk (A : Option Addr) (l : List Bk) (ca : Nat) (r c : Int) (w : World) (hm : l.length ≤ 9223372036854775807) (hl : GrAt bkCells 17 w A l) :
    Calls Try.prog 12 #[.slice A l.length ca, .agg #[.int .i64 r, .int .i64 c]] w fun e w' => e = .returned (.bool true) ∧ Below w.heap.size w w' := by
  have HL := Lib.hid hl
  clear hl
  by_cases hbig : 100 < l.length
  · go_enter Try.func12, Try.ntmps12
    go_wp2_with (go_at_call 30; refine (awake25 _).mono ?_; rintro e w3 ⟨rfl, hb3⟩)
    go_ret
    exact ⟨by simp, below_tail (below_allocs (Below.refl _ _) _) hb3⟩
  · have HB : Hid (∀ W : World, GrAt bkCells 17 W A l → Calls Try.prog 43 #[.slice A l.length ca, .agg #[.int .i64 r, .int .i64 c]] W (BlkPost W (lastB l (r, c)))) := Lib.hid fun W h => Block_any A l ca r c W h (by omega)
    have HEQ := Lib.hid (fun o w => eql_bk o w)
    have h0 := below_allocs (Below.refl w.heap.size w) (.cells #[.int .i64 r, .int .i64 c] 30)
    have HP : Hid (∀ w1 : World, Below (w.alloc (.cells #[.int .i64 r, .int .i64 c] 30)).heap.size (w.alloc (.cells #[.int .i64 r, .int .i64 c] 30)) w1 → w1.cell? ⟨w.heap.size, 0, none⟩ = some (.int .i64 r) ∧ w1.cell? ⟨w.heap.size, 1, none⟩ = some (.int .i64 c)) :=
      Lib.hid fun w1 hb => ⟨(hold hb (at_new (Below.refl _ _) (hp_new rfl) 0 _ rfl)).1, (hold hb (at_new (Below.refl _ _) (hp_new rfl) 1 _ rfl)).1⟩
    have H0 := Lib.hid h0
    clear h0
    generalize ho : lastB l (r, c) = o at HB
    have HO := Lib.hid ho
    clear ho
    go_enter Try.func12, Try.ntmps12
    go_upto_region 4 with (first
      | (go_at_call 30; refine (awake25 _).mono ?_; rintro e w2 ⟨rfl, hb2⟩; obtain ⟨p0, p1⟩ := HP.out _ hb2; have H2 := Lib.hid (below_tail H0.out hb2))
      | (go_at_call 43; refine (HB.out _ (HL.out.below H2.out)).mono ?_; rintro e w1 ⟨rfl, hb1⟩; unfold vB; have HTN5 := Lib.hid (there_new (cs := (bkCells zeroBk).toArray) (w := w1.alloc (.cells (bkCells zeroBk).toArray 72)) (g := w1.heap.size) (hp_new rfl)))
      | (refine wpList_store_mid (op := ⟨none, .store 72 (.tmp 5) (.tmp 22), _, _, _, _⟩) rfl 72 (.tmp 5) (.tmp 22) rfl w1.heap.size 0 (bkCells (o.getD zeroBk)).toArray rfl rfl HTN5.out info_block (one_arr _) ?_))
    generalize hW2 : World.setCells _ _ _ _ = W2
    have hlt := World.block_lt_of_cell? _ _ p0
    have hb2 : Below w1.heap.size w1 W2 := by rw [← hW2]; exact below_setCells (below_allocs (Below.refl _ _) _) (Nat.le_refl _) _ _
    have HR5 := Lib.hid (show W2.rangeAt w1.heap.size 0 (bkCells (o.getD zeroBk)) from by rw [← hW2]; exact World.rangeAt_setCells_same _ _ _ _ HTN5.out)
    have hlt5 : w1.heap.size < W2.heap.size := by
      have := World.block_lt_of_cell? _ _ (HR5.out 0 _ rfl)
      exact this
    have hlw : w.heap.size < w1.heap.size := by have := hb1.size; simp at hlt; omega
    replace p0 := holda hb2 (holda hb1 p0)
    replace p1 := holda hb2 (holda hb1 p1)
    have HBW := Lib.hid (below_tail (below_tail H2.out hb1) hb2)
    clear hW2 HTN5 hb1 hb2 hlt
    have HTN7 := Lib.hid (there_new (cs := (bkCells zeroBk).toArray) (w := W2.alloc (.cells (bkCells zeroBk).toArray 72)) (g := W2.heap.size) (hp_new rfl))
    have HST0 : Hid (LbSt w w1.heap.size W2.heap.size r c o none ((W2.alloc (.cells (bkCells zeroBk).toArray 72)).setCells W2.heap.size 0 (bkCells zeroBk))) := Lib.hid (by
      have hb := below_setCells (below_allocs (Below.refl W2.heap.size W2) (.cells (bkCells zeroBk).toArray 72)) (Nat.le_refl _) (bkCells zeroBk) 0
      exact ⟨below_tail HBW.out hb, holda hb p0, holda hb p1, range_below HR5.out hb, World.rangeAt_setCells_same _ _ _ _ HTN7.out, World.there_setCells HTN7.out _ _ _⟩)
    clear p0 p1 HR5 HP H2
    go_upto_block 0 with (refine wpList_store_mid (op := ⟨none, .store 72 (.tmp 7) (.tmp 24), _, _, _, _⟩) rfl 72 (.tmp 7) (.tmp 24) rfl W2.heap.size 0 (bkCells zeroBk).toArray rfl rfl HTN7.out info_block (one_arr _) ?_)
    generalize hW3 : World.setCells _ _ _ _ = W3
    have HST3 := Lib.hid (show LbSt w w1.heap.size W2.heap.size r c o none W3 from by rw [← hW3]; exact HST0.out)
    clear hW3 HST0 HTN7
    go_wp2_with fail
    go_loopw [8, 9] (fun s8 i wr => ∃ k : Nat, k ≤ l.length ∧ i = .int .i64 k ∧ s8 = .bool (lastB (l.take k) (r, c)).isSome ∧ LbSt w w1.heap.size W2.heap.size r c o (lastB (l.take k) (r, c)) wr) (fun _ i _ => l.length - (intOf i).toNat)
    case atStart => exact ⟨0, Nat.zero_le _, rfl, rfl, HST3.out⟩
    case round =>
      obtain ⟨k, hk, rfl, rfl, hst⟩ := hrel
      have HST := Lib.hid hst
      have HGR := Lib.hid (HL.out.below hst.1)
      have p0 := hst.2.1
      have p1 := hst.2.2.1
      clear hst
      by_cases hlt : k < l.length
      rotate_left
      · obtain rfl : k = l.length := by omega
        have h4 := HST.out.2.2.2.1
        have h5 := HST.out.2.2.2.2.1
        have hB := HST.out.1
        rw [List.take_length, HO.out] at h5
        have e8 : (lastB (List.take l.length l) (r, c)).isSome = o.isSome := by rw [List.take_length, HO.out]
        rw [e8]
        have heq := HEQ.out (o.getD zeroBk)
        have H4 := Lib.hid h4
        have H5 := Lib.hid h5
        clear h4 h5 e8 HO HST HB HEQ
        generalize o.getD zeroBk = x at H4 H5 heq
        go_wp2_with (first
          | (refine load_mid_g (op := ⟨some 47, _, _, _, _, _⟩) (by rfl) 72 (.tmp 5) rfl w1.heap.size 0 rfl (bkCells x) _ H4.out Try.underlying72 rfl info_block ?_)
          | (refine load_mid_g (op := ⟨some 48, _, _, _, _, _⟩) (by rfl) 72 (.tmp 7) rfl W2.heap.size 0 rfl (bkCells x) _ H5.out Try.underlying72 rfl info_block ?_))
        go_ret
        exact ⟨by simp, hB⟩
      · obtain ⟨b, off, x, rfl, hx, hr⟩ := range_of_gr HGR.out hlt
        have d0 := hr 2 _ rfl
        have d1 := hr 3 _ rfl
        have HR := Lib.hid hr
        have HX := Lib.hid (lastB_take (r, c) hx)
        clear hr hx
        have hkl : (k : Int) < (l.length : Int) := by omega
        have HLS := RLess_hid r c x.sr x.sc
        have HOK := Lib.hid (show okAt (r, c) x = !lessB r c x.sr x.sc from rfl)
        generalize lessB r c x.sr x.sc = b1 at HLS HOK
        go_wp2_with fail
        refine wp_region_u 7 (fun w' => Below wr.heap.size wr w' ∧ w'.cell? ⟨w.heap.size, 0, none⟩ = some (.int .i64 r) ∧ w'.cell? ⟨w.heap.size, 1, none⟩ = some (.int .i64 c) ∧ w'.cell? ⟨b, off + k * 17 + 2, none⟩ = some (.int .i64 x.sr) ∧ w'.cell? ⟨b, off + k * 17 + 3, none⟩ = some (.int .i64 x.sc)) (by kernel_rfl) (by kernel_rfl) ?_ ?_
        · exact ⟨(Below.refl _ _).drew, p0, p1, d0, d1⟩
        simp only [List.take_succ_cons, List.take_zero, List.drop_succ_cons, List.drop_zero]
        repeat (first
          | (refine seqU_skip (by rfl) ?_; simp only [Act.put, List.setIfInBounds_toArray, List.set_cons_zero, List.set_cons_succ])
          | (refine seqU_val ?_ (by rfl) ?_ ?_; rotate_left; · (intro w' hS; obtain ⟨_, _⟩ := hS; go_simp; first | done | with_reducible rfl)
             simp only [Act.put, List.setIfInBounds_toArray, List.set_cons_zero, List.set_cons_succ])
          | (refine seqU_call 27 #[.agg #[.int .i64 r, .int .i64 c], .agg #[.int .i64 x.sr, .int .i64 x.sc]] (.bool b1) (by rfl) ?_ (fun w' hS => (HLS.out w').mono fun e w2 ⟨he, hb⟩ => ⟨he, ⟨below_tail hS.1 hb, holda hb hS.2.1, holda hb hS.2.2.1, holda hb hS.2.2.2.1, holda hb hS.2.2.2.2⟩⟩) ?_; · (intro w'; go_simp; done)
             simp only [Act.put, List.setIfInBounds_toArray, List.set_cons_zero, List.set_cons_succ]))
        refine seqU_nil (fun w' hS => ?_)
        have hBS := hS.1
        clear hS d0 d1 p0 p1
        have HST2 := Lib.hid (HST.out.below hBS)
        have HR2 := Lib.hid (range_below HR.out hBS)
        have hth := HST2.out.2.2.2.2.2
        have HTH := Lib.hid hth
        clear hth
        cases b1
        · generalize hcs : (bkCells x).toArray = cells
          have hone := one_arr x
          rw [hcs] at hone
          go_wp2_with (first
            | (refine wpList_load_mid (op := ⟨some 42, _, _, _, _, _⟩) rfl 72 (.tmp 41) rfl b (off + k * 17) rfl (bkCells x) _ HR2.out Try.underlying72 rfl info_block ?_)
            | (refine wpList_store_mid (op := ⟨none, .store 72 (.tmp 7) (.tmp 42), _, _, _, _⟩) rfl 72 (.tmp 7) (.tmp 42) rfl W2.heap.size 0 (bkCells x).toArray rfl rfl HTH.out info_block (one_arr x) ?_))
          go_roundw
          case rel =>
            refine ⟨k + 1, by omega, by go_num, ?_, ?_⟩
            · rw [HX.out, HOK.out]; rfl
            · rw [HX.out, HOK.out]; exact HST2.out.store hlw hlt5
          case measure => simp [intOf]; omega
        · go_wp2
          go_roundw
          case rel =>
            refine ⟨k + 1, by omega, by go_num, ?_, ?_⟩
            · rw [HX.out, HOK.out]; rfl
            · rw [HX.out, HOK.out]; exact HST2.out
          case measure => simp [intOf]; omega
end Go.Proofs.Ytfadcmjdlfobhaa
