/- jump.Block: the last block that doesn't start behind a place. Conditions: none. -/
import Derived.Test.YtfadcmjdlfobhaaBkB
import Derived.Test.YtfadcmjdlfobhaaJuH
import Derived.Test.YtfadcmjdlfobhaaShC
import Derived.Test.YtfadcmjdlfobhaaPtPl
import Derived.Test.YtfadcmjdlfobhaaRegU
namespace Go.Proofs.Ytfadcmjdlfobhaa
open Go.RowKit Go.Sort

def okAt (p : P2) (c : Bk) : Bool := !ltP p (c.sr, c.sc)
def lastB (l : List Bk) (p : P2) : Option Bk := l.foldl (fun o c => if okAt p c then some c else o) none
theorem lastB_take {l : List Bk} {k : Nat} {c : Bk} (p : P2) (h : l[k]? = some c) : lastB (l.take (k + 1)) p = if okAt p c then some c else lastB (l.take k) p := by
  have hk := List.getElem?_eq_some_iff.1 h
  rw [List.take_succ_eq_append_getElem hk.1, hk.2]
  simp [lastB]
theorem lastB_rest (p : P2) : ∀ (m : List Bk) (o : Option Bk), (∀ c ∈ m, okAt p c = false) → m.foldl (fun o c => if okAt p c then some c else o) o = o
  | [], o, _ => rfl
  | c :: m, o, h => by
    rw [List.foldl_cons, if_neg (by rw [h c (by simp)]; simp)]
    exact lastB_rest p m o (fun x hx => h x (List.mem_cons_of_mem _ hx))
theorem lastB_drop {l : List Bk} {k : Nat} (p : P2) (h : ∀ c ∈ l.drop k, okAt p c = false) : lastB l p = lastB (l.take k) p := by
  have e : l = l.take k ++ l.drop k := (List.take_append_drop k l).symm
  rw [e]
  unfold lastB
  rw [List.foldl_append, lastB_rest p (l.drop k) _ h]
  simp
theorem Less2_hid (r c r' c' : Int) : Hid (∀ w : World, Calls Try.prog 52 #[.agg #[.int .i64 r, .int .i64 c], .agg #[.int .i64 r', .int .i64 c']] w fun e w' => e = .returned (.bool (lessB r c r' c')) ∧ Below w.heap.size w w') := Lib.hid (Less_any r c r' c')
theorem RLess_hid (r c r' c' : Int) : Hid (∀ w : World, Calls Try.prog 27 #[.agg #[.int .i64 r, .int .i64 c], .agg #[.int .i64 r', .int .i64 c']] w fun e w' => e = .returned (.bool (lessB r c r' c')) ∧ Below w.heap.size w w') := Lib.hid (RLess_any r c r' c')
theorem range_of_gr {w : World} {A : Option Addr} {l : List Bk} (h : GrAt bkCells 17 w A l) {k : Nat} (hk : k < l.length) : ∃ b off c, A = some ⟨b, off, none⟩ ∧ l[k]? = some c ∧ w.rangeAt b (off + k * 17) (bkCells c) := by
  obtain ⟨b, off, c, e, hc, h2⟩ := h.at_ hk
  exact ⟨b, off, c, e, hc, h2⟩
theorem range_below {w w1 : World} {b o : Nat} {cs : List Value} (h : w.rangeAt b o cs) (hb : Below w.heap.size w w1) : w1.rangeAt b o cs := fun j v hj => holda hb (h j v hj)
def BlkPost (w : World) (o : Option Bk) (e : Ending) (w' : World) : Prop := e = .returned (.tuple #[vB (o.getD zeroBk), .bool o.isSome]) ∧ Below w.heap.size w w'
/-- The two boxes of the call: the place, and what is handed back. -/
def BkSt (w : World) (r c : Int) (wr : World) : Prop := Below w.heap.size w wr ∧ wr.cell? ⟨w.heap.size, 0, none⟩ = some (.int .i64 r) ∧ wr.cell? ⟨w.heap.size, 1, none⟩ = some (.int .i64 c) ∧ wr.there (w.heap.size + 1) 0 17
set_option maxRecDepth 100000 in
set_option maxHeartbeats 3200000 in
theorem Block_any (A : Option Addr) (l : List Bk) (ca : Nat) (r c : Int) (w : World) (hl : GrAt bkCells 17 w A l) (hz : l.length ≤ 1000000) :
    Calls Try.prog 43 #[.slice A l.length ca, .agg #[.int .i64 r, .int .i64 c]] w (BlkPost w (lastB l (r, c))) := by
  have HL := Lib.hid hl
  clear hl
  go_enter Try.func43, Try.ntmps43
  go_wp2_with fail
  go_loopw [6] (fun i wr => ∃ k : Nat, k ≤ l.length ∧ i = .int .i64 ((k : Int) - 1) ∧ BkSt w r c wr ∧ (∀ x ∈ l.drop k, okAt (r, c) x = false)) (fun i _ => (intOf i + 1).toNat)
  case atStart =>
    refine ⟨l.length, Nat.le_refl _, rfl, ⟨below_allocs (below_allocs (Below.refl _ _) _) _, (hold_alloc (at_new (Below.refl _ _) (hp_new rfl) 0 _ rfl)).1, (hold_alloc (at_new (Below.refl _ _) (hp_new rfl) 1 _ rfl)).1, ?_⟩, by simp⟩
    exact there_new (cs := (bkCells zeroBk).toArray) (hp_new (by simp))
  case round =>
    obtain ⟨k, hk, rfl, ⟨hB, p0, p1, hth⟩, hno⟩ := hrel
    have HNO := Lib.hid hno
    have HTH := Lib.hid hth
    clear hno hth
    rcases Nat.eq_zero_or_pos k with h0 | h0
    · subst h0
      have h1 : ¬ ((0 : Int) ≤ ((0 : Nat) : Int) - 1) := by omega
      have HZ := Lib.hid (lastB_drop (l := l) (k := 0) (r, c) HNO.out)
      go_wp2_with (first
        | (refine wpList_store_mid (op := ⟨none, .store 72 (.tmp 4) (.tmp 26), _, _, _, _⟩) rfl 72 (.tmp 4) (.tmp 26) rfl (w.heap.size + 1) 0 (bkCells zeroBk).toArray rfl rfl HTH.out info_block (one_arr zeroBk) ?_))
      have hlv : ∀ W : World, W.rangeAt (w.heap.size + 1) 0 (bkCells zeroBk) → (loadVar 72 ⟨w.heap.size + 1, 0, none⟩).run Try.prog W = .ok (vB zeroBk) W := fun W h => run_loadVar_mid W _ _ 72 _ _ h Try.underlying72 rfl info_block
      refine bodyPost_ret (v := .tuple #[vB zeroBk, .bool false]) (by simp [results, Try.results43, asAddr, hlv _ (World.rangeAt_setCells_same wr _ 0 (bkCells zeroBk) HTH.out)]) rfl ?_
      rw [HZ.out]
      exact ⟨rfl, below_setCells hB (by omega) _ _⟩
    · obtain ⟨q, rfl⟩ : ∃ q, k = q + 1 := ⟨k - 1, by omega⟩
      have eq1 : (((q + 1 : Nat) : Int) - 1) = (q : Int) := by omega
      rw [eq1]
      obtain ⟨b, off, x, rfl, hx, hr⟩ := range_of_gr HL.out (k := q) (by omega)
      replace hr := range_below hr hB
      have d0 := hr 2 _ rfl
      have d1 := hr 3 _ rfl
      have HR := Lib.hid hr
      have HX := Lib.hid hx
      clear hr hx
      have hql : (q : Int) < (l.length : Int) := by omega
      have hq0 : (0 : Int) ≤ (q : Int) := by omega
      have HLS := Less2_hid r c x.sr x.sc
      have HOK := Lib.hid (show okAt (r, c) x = !lessB r c x.sr x.sc from rfl)
      generalize lessB r c x.sr x.sc = b1 at HLS HOK
      go_wp2_with fail
      refine wp_region_u 7 (fun w' => Below wr.heap.size wr w' ∧ w'.cell? ⟨w.heap.size, 0, none⟩ = some (.int .i64 r) ∧ w'.cell? ⟨w.heap.size, 1, none⟩ = some (.int .i64 c) ∧ w'.cell? ⟨b, off + q * 17 + 2, none⟩ = some (.int .i64 x.sr) ∧ w'.cell? ⟨b, off + q * 17 + 3, none⟩ = some (.int .i64 x.sc)) (by kernel_rfl) (by kernel_rfl) ?_ ?_
      · exact ⟨(Below.refl _ _).drew, p0, p1, d0, d1⟩
      simp only [List.take_succ_cons, List.take_zero, List.drop_succ_cons, List.drop_zero]
      repeat (first
        | (refine seqU_skip (by rfl) ?_; simp only [Act.put, List.setIfInBounds_toArray, List.set_cons_zero, List.set_cons_succ])
        | (refine seqU_val ?_ (by rfl) ?_ ?_; rotate_left; · (intro w' hS; obtain ⟨_, _⟩ := hS; go_simp; first | done | with_reducible rfl)
           simp only [Act.put, List.setIfInBounds_toArray, List.set_cons_zero, List.set_cons_succ])
        | (refine seqU_call 52 #[.agg #[.int .i64 r, .int .i64 c], .agg #[.int .i64 x.sr, .int .i64 x.sc]] (.bool b1) (by rfl) ?_ (fun w' hS => (HLS.out w').mono fun e w2 ⟨he, hb⟩ => ⟨he, ⟨below_tail hS.1 hb, holda hb hS.2.1, holda hb hS.2.2.1, holda hb hS.2.2.2.1, holda hb hS.2.2.2.2⟩⟩) ?_; · (intro w'; go_simp; done)
           simp only [Act.put, List.setIfInBounds_toArray, List.set_cons_zero, List.set_cons_succ]))
      refine seqU_nil (fun w' hS => ?_)
      have hBS := hS.1
      replace p0 := hS.2.1
      replace p1 := hS.2.2.1
      clear hS d0 d1
      replace hB := below_tail hB hBS
      have HTH2 := Lib.hid (there_below HTH.out hBS)
      have HR2 := Lib.hid (range_below HR.out hBS)
      cases b1
      · have HZ := Lib.hid (show lastB l (r, c) = some x by
          rw [lastB_drop (k := q + 1) (r, c) HNO.out, lastB_take (r, c) HX.out, HOK.out]; try rfl)
        go_wp2_with (first
          | (refine wpList_load_mid (op := ⟨some 25, _, _, _, _, _⟩) rfl 72 (.tmp 24) rfl b (off + q * 17) rfl (bkCells x) _ HR2.out Try.underlying72 rfl info_block ?_)
          | (refine wpList_store_mid (op := ⟨none, .store 72 (.tmp 4) (.tmp 25), _, _, _, _⟩) rfl 72 (.tmp 4) (.tmp 25) rfl (w.heap.size + 1) 0 (bkCells x).toArray rfl rfl HTH2.out info_block (one_arr x) ?_))
        have hlv : ∀ W : World, W.rangeAt (w.heap.size + 1) 0 (bkCells x) → (loadVar 72 ⟨w.heap.size + 1, 0, none⟩).run Try.prog W = .ok (vB x) W := fun W h => run_loadVar_mid W _ _ 72 _ _ h Try.underlying72 rfl info_block
        refine bodyPost_ret (v := .tuple #[vB x, .bool true]) (by simp [results, Try.results43, asAddr, hlv _ (World.rangeAt_setCells_same w' _ 0 (bkCells x) HTH2.out)]) rfl ?_
        rw [HZ.out]
        exact ⟨rfl, below_setCells hB (by omega) _ _⟩
      · go_wp2
        go_roundw
        case rel =>
          refine ⟨q, by omega, by go_num, ⟨hB, p0, p1, HTH2.out⟩, fun y hy => ?_⟩
          have hk2 := List.getElem?_eq_some_iff.1 HX.out
          rw [List.drop_eq_getElem_cons hk2.1] at hy
          rcases List.mem_cons.1 hy with rfl | hy
          · rw [hk2.2, HOK.out]; try rfl
          · exact HNO.out y hy
        case measure => simp [intOf]
end Go.Proofs.Ytfadcmjdlfobhaa
