/- The program's blocks: List of any store, Find; the document's example. Conditions: as stated. -/
import Derived.Test.YtgfaincejebogaaBsA
namespace Go.Proofs.Ytgfaincejebogaa
open Go.RowKit

theorem bllist_any {p : Nat} {v : Value} {L : List (Nat × Ent)} {mo : Nat} {ids : Int} {dir : ByteArray} (r c : Int) (w : World) (h : BlO w p v L mo ids dir) (hz : L.length ≤ 1000) :
    Calls Try.prog 10 #[.pointer (some ⟨p, 0, none⟩), .agg #[.int .i64 r, .int .i64 c]] w (BksPost w (listB (L.map (·.2)) (r, c))) := by
  match L, h, hz with
  | [], h, _ => exact blList_none r c w h
  | (b0, E0) :: L', h, hz =>
    have hne : ((b0, E0) :: L') ≠ [] := by simp
    have := blList_any (b0 := b0) (bl := (((b0, E0) :: L').getLast hne).1) (E0 := E0) (El := (((b0, E0) :: L').getLast hne).2) r c w h rfl (List.getLast?_eq_some_getLast hne) hz
    have e : ((E0 :: L'.map (·.2)).getLast (by simp)) = (((b0, E0) :: L').getLast hne).2 := by
      have := List.getLast_map (f := fun x : Nat × Ent => x.2) (l := (b0, E0) :: L') (by simp)
      simpa using this
    show Calls _ _ _ _ (BksPost w (firstB E0.first :: shownAll (E0 :: L'.map (·.2)) (laterP (r, c) ((E0 :: L'.map (·.2)).getLast (by simp)).last) ((L'.map (·.2)).length + 1)))
    rw [e, List.length_map]
    exact this
theorem listB_len (es : List Ent) (p : P2) : (listB es p).length = es.length + 1 := by
  unfold listB
  split
  · rfl
  · rw [List.length_cons, shownAll_len _ _ _ (by simp)]; simp
theorem range_of_gr {w : World} {A : Option Addr} {l : List Bk} (h : GrAt bkCells 17 w A l) {k : Nat} (hk : k < l.length) : ∃ b off c, A = some ⟨b, off, none⟩ ∧ l[k]? = some c ∧ w.rangeAt b (off + k * 17) (bkCells c) := by
  obtain ⟨b, off, c, e, hc, h2⟩ := h.at_ hk
  exact ⟨b, off, c, e, hc, h2⟩
def findB (l : List Bk) (id : Int) : Option Bk := l.find? (fun b => b.id == id)
def FindPost (w : World) (o : Option Bk) (e : Ending) (w' : World) : Prop := e = .returned (.tuple #[vB (o.getD zeroBk), .bool o.isSome]) ∧ Below w.heap.size w w'
theorem findB_drop {l : List Bk} {id : Int} : ∀ {k : Nat}, (∀ m ∈ l.take k, m.id ≠ id) → findB l id = findB (l.drop k) id := by
  intro k h
  unfold findB
  conv => lhs; rw [← List.take_append_drop k l]
  rw [List.find?_append]
  have : (l.take k).find? (fun b => b.id == id) = none := List.find?_eq_none.2 (fun x hx => by simpa using h x hx)
  rw [this]; rfl
set_option maxRecDepth 100000 in
set_option maxHeartbeats 3200000 in
theorem blFind_any {p : Nat} {v : Value} {L : List (Nat × Ent)} {mo : Nat} {ids : Int} {dir : ByteArray} (id r c : Int) (w : World) (h : BlO w p v L mo ids dir) (hz : L.length ≤ 900) :
    Calls Try.prog 16 #[.pointer (some ⟨p, 0, none⟩), .int .u64 id, .agg #[.int .i64 r, .int .i64 c]] w (FindPost w (findB (listB (L.map (·.2)) (r, c)) id)) := by
  have HL := Lib.hid (fun w1 hb => bllist_any r c w1 (h.below (w' := w1) hb) (by omega))
  have hlen := listB_len (L.map (·.2)) (r, c)
  rw [List.length_map] at hlen
  generalize listB (L.map (·.2)) (r, c) = l at HL hlen
  have hb0 : Below w.heap.size w ((w.alloc (.cells #[.int .i64 r, .int .i64 c] 24)).alloc (.cells (bkCells zeroBk).toArray 43)) := below_allocs (below_allocs (Below.refl _ _) _) _
  have HB0 := Lib.hid hb0
  have HT0 := Lib.hid (show ((w.alloc (.cells #[.int .i64 r, .int .i64 c] 24)).alloc (.cells (bkCells zeroBk).toArray 43)).there (w.heap.size + 1) 0 17 from there_new (cs := (bkCells zeroBk).toArray) (hp_new (by simp)))
  have hl900 : l.length ≤ 1000 := by omega
  clear h hb0 hlen hz
  go_enter Try.func16, Try.ntmps16
  go_wp2_with (go_at_call 10; refine (HL.out _ HB0.out).mono ?_; rintro e w1 ⟨vl, rfl, hown, hb1⟩; obtain ⟨A, ca, hv, -, -, -, hg⟩ := gr_of_owns bkCells_len hown rfl; subst hv; have HG := Lib.hid hg; have HB1 := Lib.hid hb1; clear hg hb1 hown)
  have HT1 := Lib.hid (there_below HT0.out HB1.out)
  go_loopw [14] (fun s14 wr => ∃ k : Nat, k ≤ l.length ∧ s14 = .int .i64 k ∧ (∀ m ∈ l.take k, m.id ≠ id) ∧ Below w1.heap.size w1 wr) (fun s14 _ => l.length - (intOf s14).toNat)
  case atStart => exact ⟨0, Nat.zero_le _, rfl, by simp, Below.refl _ _⟩
  case round =>
    obtain ⟨k, hk, rfl, hno, hb⟩ := hrel
    have HNO := Lib.hid hno
    have HB := Lib.hid hb
    have HTH := Lib.hid (there_below HT1.out hb)
    have HBW := Lib.hid (below_tail (below_tail HB0.out HB1.out) hb)
    clear hno hb
    by_cases hlt : k < l.length
    rotate_left
    · have hge : ¬ (k : Int) < (l.length : Int) := by omega
      have HZ := Lib.hid (show findB l id = none from by rw [findB_drop HNO.out, List.drop_eq_nil_of_le (by omega)]; rfl)
      go_wp2_with (first
        | (refine wpList_store_mid (op := ⟨none, .store 43 (.tmp 6) (.tmp 24), _, _, _, _⟩) rfl 43 (.tmp 6) (.tmp 24) rfl (w.heap.size + 1) 0 (bkCells zeroBk).toArray rfl rfl HTH.out info_block (one_arr zeroBk) ?_))
      have hlv : ∀ W : World, W.rangeAt (w.heap.size + 1) 0 (bkCells zeroBk) → (loadVar 43 ⟨w.heap.size + 1, 0, none⟩).run Try.prog W = .ok (vB zeroBk) W := fun W h => run_loadVar_mid W _ _ 43 _ _ h Try.underlying43 rfl info_block
      refine bodyPost_ret (v := .tuple #[vB zeroBk, .bool false]) (by simp [results, Try.results16, asAddr, hlv _ (World.rangeAt_setCells_same wr _ 0 (bkCells zeroBk) HTH.out)]) rfl ?_
      rw [HZ.out]
      exact ⟨rfl, below_setCells HBW.out (by omega) _ _⟩
    · obtain ⟨b, off, x, rfl, hx, hr⟩ := range_of_gr (HG.out.below HB.out) hlt
      have hkl : (k : Int) < (l.length : Int) := by omega
      have HR := Lib.hid hr
      have HX := Lib.hid hx
      have HTN := Lib.hid (there_new (cs := (bkCells zeroBk).toArray) (w := wr.alloc (.cells (bkCells zeroBk).toArray 43)) (g := wr.heap.size) (hp_new rfl))
      clear hr hx
      go_upto_region 4 with (first
        | (refine wpList_load_mid (op := ⟨some 17, _, _, _, _, _⟩) rfl 43 (.tmp 16) rfl b (off + k * 17) rfl (bkCells x) _ HR.out Try.underlying43 rfl info_block ?_)
        | (refine wpList_store_mid (op := ⟨none, .store 43 (.tmp 9) (.tmp 17), _, _, _, _⟩) rfl 43 (.tmp 9) (.tmp 17) rfl wr.heap.size 0 (bkCells x).toArray rfl rfl HTN.out info_block (one_arr x) ?_))
      have hbs := below_setCells (below_allocs (Below.refl wr.heap.size wr) (.cells (bkCells zeroBk).toArray 43)) (Nat.le_refl wr.heap.size) (bkCells x) 0
      have hrs := World.rangeAt_setCells_same _ _ _ (bkCells x) HTN.out
      generalize hW3 : World.setCells _ _ _ _ = W3
      replace hbs : Below wr.heap.size wr W3 := by rw [← hW3]; exact hbs
      replace hrs : W3.rangeAt wr.heap.size 0 (bkCells x) := by rw [← hW3]; exact hrs
      have d0 := hrs 0 _ rfl
      have HB3 := Lib.hid (below_tail HB.out hbs)
      have HBW3 := Lib.hid (below_tail HBW.out hbs)
      have HT3 := Lib.hid (there_below HTH.out hbs)
      have HR3 := Lib.hid hrs
      clear hW3 hbs hrs HR HTN
      by_cases he : x.id = id
      · have HZ := Lib.hid (show findB l id = some x from by
          rw [findB_drop HNO.out, List.drop_eq_getElem_cons hlt, (List.getElem?_eq_some_iff.1 HX.out).2]
          unfold findB
          simp [he])
        subst he
        go_wp2_with (first
          | (refine wpList_load_mid (op := ⟨some 22, _, _, _, _, _⟩) rfl 43 (.tmp 9) rfl wr.heap.size 0 rfl (bkCells x) _ HR3.out Try.underlying43 rfl info_block ?_)
          | (refine wpList_store_mid (op := ⟨none, .store 43 (.tmp 6) (.tmp 22), _, _, _, _⟩) rfl 43 (.tmp 6) (.tmp 22) rfl (w.heap.size + 1) 0 (bkCells x).toArray rfl rfl HT3.out info_block (one_arr x) ?_))
        have hlv : ∀ W : World, W.rangeAt (w.heap.size + 1) 0 (bkCells x) → (loadVar 43 ⟨w.heap.size + 1, 0, none⟩).run Try.prog W = .ok (vB x) W := fun W h => run_loadVar_mid W _ _ 43 _ _ h Try.underlying43 rfl info_block
        refine bodyPost_ret (v := .tuple #[vB x, .bool true]) (by simp [results, Try.results16, asAddr, hlv _ (World.rangeAt_setCells_same W3 _ 0 (bkCells x) HT3.out)]) rfl ?_
        rw [HZ.out]
        exact ⟨rfl, below_setCells HBW3.out (by omega) _ _⟩
      · have HE := Lib.hid he
        have hbq : (x.id == id) = false := beq_eq_false_iff_ne.2 he
        clear he
        go_wp2
        go_roundw
        case rel => exact ⟨k + 1, by omega, by go_num, fun m hm => by
          rw [List.take_succ_eq_append_getElem hlt, (List.getElem?_eq_some_iff.1 HX.out).2] at hm
          rcases List.mem_append.1 hm with hm | hm
          · exact HNO.out m hm
          · rw [List.mem_singleton.1 hm]; exact HE.out, HB3.out⟩
        case measure => simp [intOf]; omega
end Go.Proofs.Ytgfaincejebogaa
