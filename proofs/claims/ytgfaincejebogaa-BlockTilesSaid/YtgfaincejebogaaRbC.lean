/- The document's blocks: drop. Conditions: as stated. -/
import Derived.Test.YtgfaincejebogaaRbB
import Derived.Lib.SmallJoins
namespace Go.Proofs.Ytgfaincejebogaa
open Go.RowKit

theorem gr_drop {α : Type} {enc : α → List Value} {k : Nat} {w : World} {b off : Nat} {l : List α} (h : GrAt enc k w (some ⟨b, off, none⟩) l) (i : Nat) : GrAt enc k w (some ⟨b, off + i * k, none⟩) (l.drop i) := fun hl => by
  rw [List.length_drop] at hl
  obtain ⟨b', off', e, hc⟩ := h (by omega)
  simp only [Option.some.injEq, Addr.mk.injEq, and_true] at e
  obtain ⟨rfl, rfl⟩ := e
  refine ⟨b, off + i * k, rfl, fun j x hx t v hv => ?_⟩
  rw [List.getElem?_drop] at hx
  have := hc (i + j) x hx t v hv
  rwa [Nat.add_mul, ← Nat.add_assoc] at this
def otherId (id : Int) (m : Mk) : Bool := m.id != id
theorem filter_take_succ {M : List Mk} {i : Nat} {x : Mk} {id : Int} (h : M[i]? = some x) : (M.take (i + 1)).filter (otherId id) = if otherId id x then (M.take i).filter (otherId id) ++ [x] else (M.take i).filter (otherId id) := by
  have hk := List.getElem?_eq_some_iff.1 h
  rw [List.take_succ_eq_append_getElem hk.1, hk.2, List.filter_append]
  by_cases hx : otherId id x = true <;> simp [hx]
/-- Marks so far, in a row of its own. -/
def MrSt (w : World) (l : List Mk) (v : Value) (wr : World) : Prop := wr.ownsRow w.heap.size 84 4 v l.length (flat encMk l) ∧ Below w.heap.size w wr
theorem MrSt.add {w wr w1 : World} {l : List Mk} {v v1 : Value} {y : Mk} {o : Obj} (h : MrSt w l v wr) (hown : w1.ownsRow w.heap.size 84 4 v1 (l.length + 1) (flat encMk l ++ encMk y)) (hg : (wr.alloc o).grownBy w1 v.ownBlock) : MrSt w (l ++ [y]) v1 w1 := by
  refine ⟨?_, ?_⟩
  · rw [← flat_snoc, List.length_append]; exact hown
  · have hB1 := below_allocs h.2 o
    exact hB1.grown hg hB1.size (fun k hk => (h.1.lt k hk).1)
set_option maxRecDepth 100000 in
set_option maxHeartbeats 3200000 in
theorem rdrop_any {q : Nat} {vM vF : Value} {M : List Mk} {f : Fc} {F : List Fc} {most ids : Int} {dir : ByteArray} (w : World) (h : RbO w q vM vF M (f :: F) most ids dir) (hF : 0 < F.length) (hz : M.length ≤ 1000) (hz2 : F.length ≤ 1000) :
    Calls Try.prog 34 #[.pointer (some ⟨q, 0, none⟩)] w (RbPost w q vM vF (M.filter (otherId f.id)) F most ids dir) := by
  obtain ⟨j0, hj, gz0, gz1, gz2⟩ := info_parts info_mk
  obtain ⟨k0, hk, hz0, hz1, hz2'⟩ := info_parts info_fc
  obtain ⟨A, ca, hvM, -, -, -, hg⟩ := gr_of_owns encMk_len h.ownM rfl
  obtain ⟨gF, cF, hvF⟩ := Go.Joins.ownsRow_form h.ownF (by simp)
  have HVM := Lib.hid hvM
  have HVF := Lib.hid hvF
  subst hvM
  subst hvF
  have m0 := h.m.1
  have f0 := h.f.1
  obtain ⟨A2, ca2, hvF2, -, -, -, hgF⟩ := gr_of_owns encFc_len h.ownF rfl
  simp only [Value.slice.injEq] at hvF2
  obtain ⟨hA2, -, -⟩ := hvF2
  have HG := Lib.hid hg
  have HGF := Lib.hid hgF
  obtain ⟨b1, off1, x1, hA1, hx1, cx1⟩ := hgF.at_ (i := 0) (by simp)
  rw [← hA2] at hA1
  simp only [Option.some.injEq, Addr.mk.injEq, and_true] at hA1
  obtain ⟨rfl, rfl⟩ := hA1
  obtain rfl : f = x1 := by simpa using hx1
  have c0 : w.cell? ⟨gF, 0, none⟩ = some (.int .u64 f.id) := cx1 0 _ rfl
  have HO := Lib.hid h
  have hlF : (f :: F).length = F.length + 1 := rfl
  rw [hlF] at f0
  have hqw := lt_of_cell m0
  clear hg hgF hx1 cx1 h hA2 hlF
  go_enter Try.func34, Try.ntmps34
  go_wp2_with fail
  go_loopw [3, 4] (fun s3 i wr => ∃ k : Nat, k ≤ M.length ∧ i = .int .i64 k ∧ MrSt w ((M.take k).filter (otherId f.id)) s3 wr) (fun _ i _ => M.length - (intOf i).toNat)
  case atStart => exact ⟨0, Nat.zero_le _, rfl, World.ownsRow_nil _ _ _ _, Below.refl _ _⟩
  case round =>
    obtain ⟨k, hkk, rfl, hst⟩ := hrel
    have hB := hst.2
    have HST := Lib.hid hst
    obtain ⟨A3, c3, hs3⟩ := row_form hst.1
    subst hs3
    have m1 := holda hB m0
    by_cases hlt : k < M.length
    rotate_left
    · obtain rfl : k = M.length := by omega
      have HB := Lib.hid hB
      clear hst hB
      have hst2 := HST.out.1
      rw [List.take_length] at hst2
      rw [List.take_length] at HST ⊢
      have hlz : (M.filter (otherId f.id)).length ≤ 1000 := Nat.le_trans (List.length_filter_le _ _) hz
      generalize hL : M.filter (otherId f.id) = L at HST hst2 hlz ⊢
      have HL := Lib.hid hL
      clear hL
      have HOW := Lib.hid hst2
      obtain ⟨hO8, hm8, hh8⟩ := HO.out.setM (v1 := .slice A3 L.length c3) (M' := L) ((Mod.of_below (X := []) HB.out).mono (fun g hg => by cases hg)) (owns_weaken hst2 (by omega))
      obtain ⟨hh8c, hh8f⟩ := hh8
      go_upto_region 8 with fail
      generalize hW8 : World.setCell _ _ _ = W8
      rw [hW8] at hO8 hm8
      have hc1 : 1 < cF ∧ F.length + 1 ≤ cF := by
        rcases HO.out.ownF.2 with ⟨e, -⟩ | ⟨g, cap, cur, e, -, -, hcc, -⟩
        · cases e
        · simp only [Value.slice.injEq] at e
          simp only [List.length_cons] at hcc
          omega
      obtain ⟨hc1, hc2⟩ := hc1
      have hc3 : ¬ cF = 1 := by omega
      have f8 := hO8.f.1
      rw [show (f :: F).length = F.length + 1 from rfl] at f8
      have HO8 := Lib.hid hO8
      have HM8 := Lib.hid hm8
      have hq8 := lt_of_cell f8
      have HNW : Hid (∀ j u, (flat encFc F)[j]? = some u → (W8.alloc (.cells #[] 82)).cell? ((⟨gF, 6, none⟩ : Addr).add j) = some u) := Lib.hid (by
        obtain ⟨A', c', e, -, -, -, hg8⟩ := gr_of_owns encFc_len hO8.ownF rfl
        simp only [Value.slice.injEq] at e
        rw [← e.1] at hg8
        have h9 := (gr_drop (hg8.below (below_allocs (Below.refl _ _) (.cells #[] 82))) 1).news encFc_len
        simpa using h9)
      have HEM : Hid ((W8.alloc (.cells #[] 82)).ownsRow (q + 1) 82 6 (.slice (some ⟨W8.heap.size, 0, none⟩) 0 0) 0 []) := Lib.hid ⟨by simp, .inr ⟨W8.heap.size, 0, #[], rfl, by omega, hp_new rfl, Nat.le_refl _, Nat.zero_le _, by simp, by simp⟩⟩
      have HFL := Lib.hid (flat_len encFc_len F)
      have hz2i : (F.length : Int) ≤ 1000 := by omega
      clear hW8 hO8 hm8 hst2 m1 m0 f0 c0 hh8c hh8f
      go_wp2_with (at_builtin; refine wpList_append_own_at _ rfl (.tmp 46) (.tmp 51) _ rfl (q + 1) 82 k0 (.agg #[.int .u64 0, .int .i64 0, .bool false, .bool false, .string ByteArray.empty, .string ByteArray.empty]) 6 56 Try.underlying56 hk hz0 hz1 hz2' rfl (by decide) _ _ _ rfl HEM.out ⟨gF, 6, none⟩ F.length (cF - 1) (flat encFc F) rfl HFL.out HNW.out (flat_one encFc_one F) (by simp only [maxLen]; omega) (by omega) (by simp; omega) ?_; intro v1 w2 hown2 hg2 _ hnew2; obtain ⟨A1, c1, hv1⟩ := row_form hown2; subst hv1; have HOW2 := Lib.hid hown2; have HG2 := Lib.hid (show (W8.alloc (.cells #[] 82)).grownBy w2 (some W8.heap.size) from hg2); have HNE2 := Lib.hid (show (Value.slice A1 (0 + F.length) c1).ownBlock = some W8.heap.size ∨ (Value.slice A1 (0 + F.length) c1).ownBlock = some (W8.alloc (.cells #[] 82)).heap.size from hnew2); clear hown2 hg2 hnew2; have hrow := (HO8.out.setF (w5 := w2) (F' := F) ((Mod.of_below (below_allocs (Below.refl _ _) _)).trans (Mod.of_grown (X := [W8.heap.size]) HG2.out (fun g hg => by injection hg with hg; simp; exact hg.symm)) (fun g hg => .inr (by simp at hg; omega))) (by simpa using HOW2.out)).2.2; obtain ⟨hrow0, hrowf⟩ := hrow)
      go_end0
      have hmm : Mod (Value.slice (some ⟨gF, 0, none⟩) (f :: F).length cF).ownBlock.toList W8 w2 := (Mod.of_below (below_allocs (Below.refl _ _) _)).trans (Mod.of_grown (X := [W8.heap.size]) HG2.out (fun g hg => by injection hg with hg; simp; exact hg.symm)) (fun g hg => .inr (by simp at hg; omega))
      obtain ⟨k1, k2, -⟩ := HO8.out.setF (w5 := w2) (F' := F) hmm (by simpa using HOW2.out)
      have hs8 := HM8.out.size
      show RbPost w q _ _ (M.filter (otherId f.id)) F most ids dir _ _
      rw [HL.out]
      refine ⟨rfl, _, _, k1, (HM8.out.mono (fun g hg => ?_)).trans k2 (fun g hg => .inl ?_), fun g hg => ?_⟩
      · rcases List.mem_cons.1 hg with rfl | hg
        · simp [rfoot]
        · simp only [rfoot, List.mem_cons, List.mem_append]; exact .inr (.inl hg)
      · rcases List.mem_cons.1 hg with rfl | hg
        · simp [rfoot]
        · simp only [rfoot, List.mem_cons, List.mem_append]; exact .inr (.inr hg)
      · rcases List.mem_cons.1 hg with rfl | hg
        · exact .inl (by simp [rfoot])
        · rcases List.mem_append.1 hg with hg | hg
          · exact .inr (HOW.out.lt g (by simpa [Option.mem_toList] using hg)).1
          · refine .inr ?_
            have hne2 := HNE2.out
            rw [Nat.zero_add] at hne2
            rcases hne2 with h | h
            · rw [h] at hg
              simp at hg
              omega
            · rw [h] at hg
              simp at hg
              omega
    · obtain ⟨b, off, x, rfl, hx, cx⟩ := (HG.out.below hB).at_ hlt
      have HTK := Lib.hid (filter_take_succ (id := f.id) hx)
      have d0 : wr.cell? ⟨b, off + k * 4, none⟩ = some (.int .u64 x.id) := cx 0 _ rfl
      have d1 := cx 1 _ rfl
      have d2 := cx 2 _ rfl
      have d3 := cx 3 _ rfl
      have hlz : ((M.take k).filter (otherId f.id)).length ≤ 1000 := Nat.le_trans (List.length_filter_le _ _) (by simp; omega)
      generalize (M.take k).filter (otherId f.id) = l at HST HTK hlz hst
      have HOW := Lib.hid hst.1
      have hwb := hB.size
      clear cx hx hst
      by_cases hid : x.id = f.id
      · have hn1 : (x.id != f.id) = false := by simp [hid]
        have HT2 := Lib.hid (HTK.out.trans (if_neg (by unfold otherId; rw [hn1]; simp)))
        clear hid HTK
        go_wp2
        go_roundw
        case rel => exact ⟨k + 1, by omega, by go_num, by rw [HT2.out]; exact HST.out⟩
        case measure => simp [intOf]; omega
      · have hn1 : (x.id != f.id) = true := by simp [hid]
        have HT2 := Lib.hid (HTK.out.trans (if_pos (by unfold otherId; exact hn1)))
        clear hid HTK
        go_wp2_with (at_builtin; refine wpList_append_own _ rfl (.tmp 31) (.tmp 39) _ rfl w.heap.size 84 j0 (.agg #[.int .u64 0, .int .i64 0, .int .i64 0, .int .i64 0]) 4 32 Try.underlying55 hj gz0 gz1 gz2 rfl (by decide) _ _ _ rfl (HOW.out.alloc _) ⟨wr.heap.size, 0, none⟩ 1 1 (encMk x) rfl rfl (cells_new _ (encMk x) _) (encMk_one _) (by simp only [maxLen]; omega) (by omega) (by simp; omega) ?_; intro v1 w1 hown1 hg1 _; have HO1 := Lib.hid hown1; have HG1 := Lib.hid hg1; clear hown1 hg1)
        go_roundw
        case rel => exact ⟨k + 1, by omega, by go_num, by rw [HT2.out]; exact HST.out.add HO1.out HG1.out⟩
        case measure => simp [intOf]; omega
end Go.Proofs.Ytgfaincejebogaa
