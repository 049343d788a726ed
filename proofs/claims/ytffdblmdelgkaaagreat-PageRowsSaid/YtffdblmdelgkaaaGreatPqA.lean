/- A ring's row, a page's row. Conditions: as stated. -/
import Derived.Test.YtffdblmdelgkaaaGreatPaN
namespace Go.Proofs.YtffdblmdelgkaaaGreat
open Go.RowKit

def GetPost (r : Ro) (w : World) (e : Ending) (w' : World) : Prop := ∃ g cap, e = .returned (.tuple #[.agg #[.slice (some ⟨g, 0, none⟩) r.cs.length cap, .bool r.cont], .bool true]) ∧ RcAt w' ⟨some ⟨g, 0, none⟩, r.cs, cap, r.cont⟩ ∧ Below w.heap.size w w'
def NonePost (w : World) (e : Ending) (w' : World) : Prop := e = .returned (.tuple #[.agg #[.slice none 0 0, .bool false], .bool false]) ∧ Below w.heap.size w w'
section
variable {base : Nat} {w : World} {R : Nat} {vl : Value} {SL : List Rh} {room first n : Nat} {gone : Int}
set_option maxRecDepth 100000 in
set_option maxHeartbeats 3200000 in
theorem rat_in (h : RgO base w R vl SL room first n gone) (i : Nat) (r : Rh) (hr0 : (histL SL first n)[i]? = some r) : Calls Tryz.prog 50 #[.pointer (some ⟨R, 0, none⟩), .int .i64 i] w (GetPost (roOf r) w) := by
  have hi : i < n := by have := (List.getElem?_eq_some_iff.1 hr0).1; rwa [histL_len] at this
  have hnr : n ≤ 100000 := by have := h.hn; have := h.hm; have := h.hroom; omega
  have hmr : SL.length ≤ 100000 := by have := h.hm; have := h.hroom; omega
  have HOWN := Lib.hid (fun (r : Rh) (w' : World) (h : RcAt w' r) (h0 : 0 < r.cs.length) => rown_any r w' h h0)
  have HAB := Lib.hid (below_allocs (Below.refl w.heap.size w) (.cells #[.slice none 0 0, .bool false] 50))
  have HX := Lib.hid (hp_new (W := w) (b := w.heap.size) (o := .cells #[.slice none 0 0, .bool false] 50) rfl)
  obtain ⟨W, hW⟩ : ∃ W, w.alloc (.cells #[.slice none 0 0, .bool false] 50) = W := ⟨_, rfl⟩
  rw [hW] at HAB HX
  have H := Lib.hid (h.below HAB.out)
  have HLEN := Lib.hid (rlen_any H.out)
  have hiI : ¬ (n : Int) ≤ (i : Int) := by omega
  have hi0 : ¬ (i : Int) < 0 := by omega
  have hf : first < SL.length := by
    rcases h.hf with hf | ⟨-, hf⟩
    · exact hf
    · have := h.hn; omega
  obtain ⟨k, hk⟩ : ∃ k, slotOf SL.length first i = k := ⟨_, rfl⟩
  have hkl : k < SL.length := by rw [← hk]; exact slotOf_lt hf (by have := h.hn; omega)
  have hr : SL[k]? = some r := by rw [← hk, ← histL_at hf h.hn hi]; exact hr0
  have hrr := H.out.rows r (List.mem_of_getElem? hr0)
  obtain ⟨gs, cs, hvs⟩ := own_form H.out.own (by omega)
  have hownS := H.out.own
  have x0 := (at_ H.out.blk 0 _ rfl).1
  have x2 : W.cell? ⟨R, 2, none⟩ = some (.int .i64 first) := (at_ H.out.blk 2 _ rfl).1
  rw [hvs] at hownS x0
  obtain ⟨⟨r0, -⟩, r1, -⟩ := owns_row hownS hr
  have hfr : first ≤ 100000 := by omega
  have hkI : (k : Int) < (SL.length : Int) := by omega
  have HRR := Lib.hid hrr
  have HWW := Lib.hid hW
  clear hr0 h hr hownS hvs hf hrr hW
  go_enter Tryz.func50, Tryz.ntmps50
  go_upto_region 1 with fail
  rw [HWW.out]
  clear HWW
  go_upto_region 3 with (go_at_call 59; (with_reducible refine HLEN.out.mono ?_); rintro e w1 ⟨rfl, rfl⟩)
  refine wp_region_n 10 (fun w2 => Below W.heap.size W w2 ∧ w2.cell? ⟨R, 0, none⟩ = some (.slice (some ⟨gs, 0, none⟩) SL.length cs) ∧ w2.cell? ⟨gs, k * 2, none⟩ = some (.slice r.A r.cs.length r.cap) ∧ w2.cell? ⟨gs, k * 2 + 1, none⟩ = some (.bool r.cont)) (by kernel_rfl) (by kernel_rfl) (fun w1 w2 hS hb => ⟨below_tail hS.1 hb, holda hb hS.2.1, holda hb hS.2.2.1, holda hb hS.2.2.2⟩) ⟨(Below.refl _ _).drew, x0, r0, r1⟩ ?_
  refine AtN.take 0 (o := ⟨_, _, _, _, _, _⟩) (v := ?_) (by kernel_rfl) rfl (by simp) (by kernel_rfl) (by kernel_rfl) ?_ ?_; rotate_left
  · first | exact StabN.skip (by rfl) | (refine StabN.val (by rfl) ?_; intro w' hS; obtain ⟨_, _, _, _⟩ := hS; go_simp; first | done | with_reducible rfl)
  simp only [Act.put, List.setIfInBounds_toArray, List.set_cons_zero, List.set_cons_succ]
  refine AtN.take 1 (o := ⟨_, _, _, _, _, _⟩) (v := ?_) (by kernel_rfl) rfl (by simp) (by kernel_rfl) (by kernel_rfl) ?_ ?_; rotate_left
  · first | exact StabN.skip (by rfl) | (refine StabN.val (by rfl) ?_; intro w' hS; obtain ⟨_, _, _, _⟩ := hS; go_simp; first | done | with_reducible rfl)
  simp only [Act.put, List.setIfInBounds_toArray, List.set_cons_zero, List.set_cons_succ]
  refine AtN.take 2 (o := ⟨_, _, _, _, _, _⟩) (v := ?_) (by kernel_rfl) rfl (by simp) (by kernel_rfl) (by kernel_rfl) ?_ ?_; rotate_left
  · first | exact StabN.skip (by rfl) | (refine StabN.val (by rfl) ?_; intro w' hS; obtain ⟨_, _, _, _⟩ := hS; go_simp; first | done | with_reducible rfl)
  simp only [Act.put, List.setIfInBounds_toArray, List.set_cons_zero, List.set_cons_succ]
  refine AtN.take 3 (o := ⟨_, _, _, _, _, _⟩) (v := ?_) (by kernel_rfl) rfl (by simp) (by kernel_rfl) (by kernel_rfl) ?_ ?_; rotate_left
  · first | exact StabN.skip (by rfl) | (refine StabN.val (by rfl) ?_; intro w' hS; obtain ⟨_, _, _, _⟩ := hS; go_simp; first | done | with_reducible rfl)
  simp only [Act.put, List.setIfInBounds_toArray, List.set_cons_zero, List.set_cons_succ]
  refine AtN.take 4 (o := ⟨_, _, _, _, _, _⟩) (v := ?_) (by kernel_rfl) rfl (by simp) (by kernel_rfl) (by kernel_rfl) ?_ ?_; rotate_left
  · first | exact StabN.skip (by rfl) | (refine StabN.val (by rfl) ?_; intro w' hS; obtain ⟨_, _, _, _⟩ := hS; go_simp; first | done | with_reducible rfl)
  simp only [Act.put, List.setIfInBounds_toArray, List.set_cons_zero, List.set_cons_succ]
  refine AtN.take 5 (o := ⟨_, _, _, _, _, _⟩) (v := ?_) (by kernel_rfl) rfl (by simp) (by kernel_rfl) (by kernel_rfl) ?_ ?_; rotate_left
  · first | exact StabN.skip (by rfl) | (refine StabN.val (by rfl) ?_; intro w' hS; obtain ⟨_, _, _, _⟩ := hS; go_simp; first | done | with_reducible rfl)
  simp only [Act.put, List.setIfInBounds_toArray, List.set_cons_zero, List.set_cons_succ]
  refine AtN.take 6 (o := ⟨_, _, _, _, _, _⟩) (v := .int .i64 k) (by kernel_rfl) rfl (by simp) (by kernel_rfl) (by kernel_rfl) (StabN.call1 95 #[.pointer (some ⟨R, 0, none⟩), .int .i64 i] (.int .i64 k) (by rfl) (by intro w'; go_simp; done) (fun w' hS => (slot_raw hS.2.1 ((Mod.of_below (X := []) hS.1).cell (by simp) x2) hmr hfr i (by omega)).mono (fun e w3 h => ⟨by rw [← hk]; exact h.1, h.2 ▸ Below.refl _ _⟩))) ?_
  simp only [Act.put, List.setIfInBounds_toArray, List.set_cons_zero, List.set_cons_succ]
  refine AtN.take 7 (o := ⟨_, _, _, _, _, _⟩) (v := ?_) (by kernel_rfl) rfl (by simp) (by kernel_rfl) (by kernel_rfl) ?_ ?_; rotate_left
  · first | exact StabN.skip (by rfl) | (refine StabN.val (by rfl) ?_; intro w' hS; obtain ⟨_, _, _, _⟩ := hS; go_simp; first | done | with_reducible rfl)
  simp only [Act.put, List.setIfInBounds_toArray, List.set_cons_zero, List.set_cons_succ]
  refine AtN.take 8 (o := ⟨_, _, _, _, _, _⟩) (v := ?_) (by kernel_rfl) rfl (by simp) (by kernel_rfl) (by kernel_rfl) ?_ ?_; rotate_left
  · first | exact StabN.skip (by rfl) | (refine StabN.val (by rfl) ?_; intro w' hS; obtain ⟨_, _, _, _⟩ := hS; go_simp; first | done | with_reducible rfl)
  simp only [Act.put, List.setIfInBounds_toArray, List.set_cons_zero, List.set_cons_succ]
  refine AtN.one 9 (o := ⟨_, _, _, _, _, _⟩) (fun v => ∃ g1 cap, v = .agg #[.slice (some ⟨g1, 0, none⟩) r.cs.length cap, .bool r.cont]) (fun v w' => ∃ g1 cap, v = .agg #[.slice (some ⟨g1, 0, none⟩) r.cs.length cap, .bool r.cont] ∧ RcAt w' ⟨some ⟨g1, 0, none⟩, r.cs, cap, r.cont⟩) (by simp) (by kernel_rfl) rfl (fun v w1 w2 ⟨g1, cap, hv, hr⟩ hb => ⟨g1, cap, hv, hr.below hb⟩) (StabN.call 94 #[.agg #[.slice r.A r.cs.length r.cap, .bool r.cont]] _ _ (by rfl) ?_ (fun w' hS => ?_)) ?_
  · intro w'
    go_simp
  · refine (HOWN.out r w' (HRR.out.1.below hS.1) HRR.out.2).mono ?_
    rintro e w3 ⟨g1, cap, rfl, hrc, hb, -⟩
    exact ⟨_, rfl, ⟨⟨g1, cap, rfl⟩, g1, cap, rfl, hrc⟩, hb⟩
  rintro v ⟨g1, cap, rfl⟩
  simp only [Act.put, List.setIfInBounds_toArray, List.set_cons_zero, List.set_cons_succ]
  refine AtN.done (by kernel_rfl) (fun w' hS => ?_)
  obtain ⟨⟨hb1, -⟩, g1', cap', hv', hrc'⟩ := hS
  simp only [Value.agg.injEq, Array.mk.injEq, List.cons.injEq, Value.slice.injEq, Option.some.injEq, Addr.mk.injEq, and_true, true_and] at hv'
  obtain ⟨rfl, rfl⟩ := hv'
  have HR1 := Lib.hid hrc'
  have HB1 := Lib.hid (below_tail HAB.out hb1)
  have HX1 := Lib.hid ((hb1.block _ (lt_of_heap HX.out)).trans HX.out)
  obtain ⟨y0, y0f⟩ := at_ HX1.out 0 _ rfl
  obtain ⟨y1, y1f⟩ := at_ HX1.out 1 _ rfl
  clear hb1 hrc' x0 x2 r0 r1
  go_wp2
  have HB3 := below_set (below_set HB1.out (Nat.le_refl _) (o := 0) (.slice (some ⟨g1, 0, none⟩) r.cs.length cap)) (Nat.le_refl _) (o := 1) (.bool r.cont)
  have hset := set_two (u' := .slice (some ⟨g1, 0, none⟩) r.cs.length cap) (v' := .bool r.cont) ⟨y0, y0f⟩ ⟨y1, y1f⟩
  refine bodyPost_ret (ret_row2 rfl _ _ w.heap.size _ _ _ rfl rfl hset.1.1 hset.2.1) rfl ⟨g1, cap, rfl, HR1.out.mod (X := [w.heap.size]) (mod_set2 (Mod.refl _ _) (.inl (by simp))) ?_, HB3⟩
  intro b hb cs' f he
  rw [List.mem_singleton.1 hb, HX1.out] at he
  injection he with he
  injection he with _ ht
  exact absurd ht (by decide)
set_option maxRecDepth 100000 in
set_option maxHeartbeats 3200000 in
theorem rat_out (h : RgO base w R vl SL room first n gone) (i : Int) (hi : i < 0 ∨ (n : Int) ≤ i) : Calls Tryz.prog 50 #[.pointer (some ⟨R, 0, none⟩), .int .i64 i] w (NonePost w) := by
  have HAB := Lib.hid (below_allocs (Below.refl w.heap.size w) (.cells #[.slice none 0 0, .bool false] 50))
  have HX := Lib.hid (hp_new (W := w) (b := w.heap.size) (o := .cells #[.slice none 0 0, .bool false] 50) rfl)
  obtain ⟨W, hW⟩ : ∃ W, w.alloc (.cells #[.slice none 0 0, .bool false] 50) = W := ⟨_, rfl⟩
  rw [hW] at HAB HX
  have HLEN := Lib.hid (rlen_any (h.below HAB.out))
  have HWW := Lib.hid hW
  clear h hW
  by_cases hc : i < 0
  all_goals
    try have hge : (n : Int) ≤ i := by omega
    clear hi
    go_enter Tryz.func50, Tryz.ntmps50
    go_upto_region 1 with fail
    rw [HWW.out]
    clear HWW
    go_upto_region 2 with (go_at_call 59; (with_reducible refine HLEN.out.mono ?_); rintro e w1 ⟨rfl, rfl⟩)
    obtain ⟨y0, y0f⟩ := at_ HX.out 0 _ rfl
    obtain ⟨y1, y1f⟩ := at_ HX.out 1 _ rfl
    go_wp2
    have HB3 := below_set (below_set HAB.out (Nat.le_refl _) (o := 0) (.slice none 0 0)) (Nat.le_refl _) (o := 1) (.bool false)
    have hset := set_two (u' := .slice none 0 0) (v' := .bool false) ⟨y0, y0f⟩ ⟨y1, y1f⟩
    exact bodyPost_ret (ret_row2 rfl _ _ w.heap.size _ _ _ rfl rfl hset.1.1 hset.2.1) rfl ⟨rfl, HB3⟩
end
section
variable {base : Nat} {w : World} {q : Pv} {g : Pg}
set_option maxRecDepth 100000 in
set_option maxHeartbeats 3200000 in
theorem pRow_scr (h : PgO base w q g) (i k : Nat) (r : Ro) (hi : i = g.hist.length + k) (hr : g.scr[k]? = some r) : Calls Tryz.prog 13 #[.pointer (some ⟨q.P, 0, none⟩), .int .i64 i] w (GetPost r w) := by
  have HAB := Lib.hid (below_allocs (Below.refl w.heap.size w) (.cells #[.slice none 0 0, .bool false] 50))
  have HX := Lib.hid (hp_new (W := w) (b := w.heap.size) (o := .cells #[.slice none 0 0, .bool false] 50) rfl)
  obtain ⟨W, hW⟩ : ∃ W, w.alloc (.cells #[.slice none 0 0, .bool false] 50) = W := ⟨_, rfl⟩
  rw [hW] at HAB HX
  have H := Lib.hid (h.below HAB.out)
  have HBA := Lib.hid (pBase_any H.out)
  have HRO := Lib.hid (pRows_any H.out)
  have hh := h.hist100k
  have hrow := h.rows1000
  rw [← h.scr, List.getElem?_map] at hr
  obtain ⟨x, hx, rfl⟩ := Option.map_eq_some_iff.1 hr
  have hkS : k < q.S.length := (List.getElem?_eq_some_iff.1 hx).1
  obtain ⟨hrc, hrl⟩ := H.out.rows x (List.mem_of_getElem? hx)
  obtain ⟨gs, cs, hvs⟩ := own_form H.out.own (by omega)
  obtain ⟨-, ⟨x1, -⟩, -⟩ := H.out.cells
  have hownS := H.out.own
  rw [hvs] at hownS x1
  obtain ⟨⟨r0, -⟩, r1, -⟩ := owns_row hownS hx
  have h0r : 0 < x.cs.length := by rw [hrl]; have := h.cols2; omega
  have HO := Lib.hid (pown_any x W hrc h0r)
  have hlen := h.len
  have hsub : (i : Int) - (g.hist.length : Int) = (k : Int) := by omega
  have hwk : IntKind.i64.wrap (k : Int) = (k : Int) := IntWalk.i64_in _ (by omega)
  have hkI : (k : Int) < (g.scr.length : Int) := by omega
  have hkI2 : (k : Int) < (q.S.length : Int) := by omega
  have HWW := Lib.hid hW
  obtain ⟨A, cs', cap0, cont⟩ := x
  simp only at HO r0 r1
  clear h hW hr hx hownS hvs hrc hrl hi hlen hrow hh h0r
  go_enter Tryz.func13, Tryz.ntmps13
  go_upto_region 1 with fail
  rw [HWW.out]
  clear HWW
  go_wp2_with (first
    | (go_at_call 17; (with_reducible refine HBA.out.mono ?_); rintro e w1 ⟨rfl, rfl⟩)
    | (go_at_call 18; (with_reducible refine HRO.out.mono ?_); rintro e w1 ⟨rfl, rfl⟩)
    | (go_at_call 49; (with_reducible refine HO.out.mono ?_); rintro e w1 ⟨g1, cap, rfl, hrc, hb, -⟩; have HRC := Lib.hid hrc; have HB1 := Lib.hid (below_tail HAB.out hb); have HX1 := Lib.hid ((hb.block _ (lt_of_heap HX.out)).trans HX.out); obtain ⟨y0, y0f⟩ := at_ HX1.out 0 _ rfl; obtain ⟨y1, y1f⟩ := at_ HX1.out 1 _ rfl; clear hrc hb x1 r0 r1))
  have HB3 := below_set (below_set HB1.out (Nat.le_refl _) (o := 0) (.slice (some ⟨g1, 0, none⟩) cs'.length cap)) (Nat.le_refl _) (o := 1) (.bool cont)
  have hset := set_two (u' := .slice (some ⟨g1, 0, none⟩) cs'.length cap) (v' := .bool cont) ⟨y0, y0f⟩ ⟨y1, y1f⟩
  refine bodyPost_ret (ret_row2 rfl _ _ w.heap.size _ _ _ rfl rfl hset.1.1 hset.2.1) rfl ⟨g1, cap, rfl, HRC.out.mod (X := [w.heap.size]) (mod_set2 (Mod.refl _ _) (.inl (by simp))) ?_, HB3⟩
  intro b hb cs' f he
  rw [List.mem_singleton.1 hb, HX1.out] at he
  injection he with he
  injection he with _ ht
  exact absurd ht (by decide)
set_option maxRecDepth 100000 in
set_option maxHeartbeats 3200000 in
theorem pRow_hist (h : PgO base w q g) (i : Nat) (r : Ro) (hr : g.hist[i]? = some r) : Calls Tryz.prog 13 #[.pointer (some ⟨q.P, 0, none⟩), .int .i64 i] w (GetPost r w) := by
  have HAB := Lib.hid (below_allocs (Below.refl w.heap.size w) (.cells #[.slice none 0 0, .bool false] 50))
  have HX := Lib.hid (hp_new (W := w) (b := w.heap.size) (o := .cells #[.slice none 0 0, .bool false] 50) rfl)
  obtain ⟨W, hW⟩ : ∃ W, w.alloc (.cells #[.slice none 0 0, .bool false] 50) = W := ⟨_, rfl⟩
  rw [hW] at HAB HX
  have H := Lib.hid (h.below HAB.out)
  have HBA := Lib.hid (pBase_any H.out)
  have hh := h.hist100k
  have hil : i < g.hist.length := (List.getElem?_eq_some_iff.1 hr).1
  have hlen := h.hlen
  rw [← h.hist, List.getElem?_map] at hr
  obtain ⟨x, hx, rfl⟩ := Option.map_eq_some_iff.1 hr
  have HAT := Lib.hid (rat_in H.out.ring i x hx)
  obtain ⟨⟨x0, -⟩, -⟩ := H.out.cells
  obtain ⟨z, hz⟩ : ∃ z : Int, z = (i : Int) - (g.hist.length : Int) := ⟨_, rfl⟩
  have hsub : (i : Int) - (g.hist.length : Int) = z := hz.symm
  have hwk : IntKind.i64.wrap z = z := IntWalk.i64_in _ (by omega)
  have hz0 : z < 0 := by omega
  have HWW := Lib.hid hW
  clear h hW hr hx hz hlen hh hil
  go_enter Tryz.func13, Tryz.ntmps13
  go_upto_region 1 with fail
  rw [HWW.out]
  clear HWW
  go_wp2_with (first
    | (go_at_call 17; (with_reducible refine HBA.out.mono ?_); rintro e w1 ⟨rfl, rfl⟩)
    | (go_at_call 50; (with_reducible refine HAT.out.mono ?_); rintro e w1 ⟨g1, cap, rfl, hrc, hb⟩; have HRC := Lib.hid hrc; have HB1 := Lib.hid (below_tail HAB.out hb); have HX1 := Lib.hid ((hb.block _ (lt_of_heap HX.out)).trans HX.out); obtain ⟨y0, y0f⟩ := at_ HX1.out 0 _ rfl; obtain ⟨y1, y1f⟩ := at_ HX1.out 1 _ rfl; clear hrc hb x0))
  have HB3 := below_set (below_set HB1.out (Nat.le_refl _) (o := 0) (.slice (some ⟨g1, 0, none⟩) x.cs.length cap)) (Nat.le_refl _) (o := 1) (.bool x.cont)
  have hset := set_two (u' := .slice (some ⟨g1, 0, none⟩) x.cs.length cap) (v' := .bool x.cont) ⟨y0, y0f⟩ ⟨y1, y1f⟩
  refine bodyPost_ret (ret_row2 rfl _ _ w.heap.size _ _ _ rfl rfl hset.1.1 hset.2.1) rfl ⟨g1, cap, rfl, HRC.out.mod (X := [w.heap.size]) (mod_set2 (Mod.refl _ _) (.inl (by simp))) ?_, HB3⟩
  intro b hb cs' f he
  rw [List.mem_singleton.1 hb, HX1.out] at he
  injection he with he
  injection he with _ ht
  exact absurd ht (by decide)
set_option maxRecDepth 100000 in
set_option maxHeartbeats 3200000 in
theorem pRow_out (h : PgO base w q g) (i : Int) (hi : i < 0 ∨ ((g.hist ++ g.scr).length : Int) ≤ i) (h64 : -9223372036854775808 ≤ i ∧ i ≤ 9223372036854775807) : Calls Tryz.prog 13 #[.pointer (some ⟨q.P, 0, none⟩), .int .i64 i] w (NonePost w) := by
  have HAB := Lib.hid (below_allocs (Below.refl w.heap.size w) (.cells #[.slice none 0 0, .bool false] 50))
  have HX := Lib.hid (hp_new (W := w) (b := w.heap.size) (o := .cells #[.slice none 0 0, .bool false] 50) rfl)
  obtain ⟨W, hW⟩ : ∃ W, w.alloc (.cells #[.slice none 0 0, .bool false] 50) = W := ⟨_, rfl⟩
  rw [hW] at HAB HX
  have H := Lib.hid (h.below HAB.out)
  have HBA := Lib.hid (pBase_any H.out)
  have HRO := Lib.hid (pRows_any H.out)
  have hh := h.hist100k
  have hlen := h.hlen
  rw [List.length_append] at hi
  have HAT := Lib.hid (rat_out H.out.ring i (by omega))
  obtain ⟨⟨x0, -⟩, -⟩ := H.out.cells
  have HWW := Lib.hid hW
  obtain ⟨z, hz⟩ : ∃ z : Int, z = IntKind.i64.wrap ((i : Int) - (g.hist.length : Int)) := ⟨_, rfl⟩
  have hsub := hz.symm
  by_cases hc : i < 0
  rotate_left
  · have hz2 : z = i - g.hist.length := by rw [hz]; exact IntWalk.i64_in _ (by omega)
    have h1 : 0 ≤ i := by omega
    have h2 : 0 ≤ z := by omega
    have h3 : ¬ z < (g.scr.length : Int) := by omega
    clear h hW hz hlen hh h64 hi hz2 hc
    go_enter Tryz.func13, Tryz.ntmps13
    go_upto_region 1 with fail
    rw [HWW.out]
    clear HWW
    go_wp2_with (first
      | (go_at_call 17; (with_reducible refine HBA.out.mono ?_); rintro e w1 ⟨rfl, rfl⟩)
      | (go_at_call 18; (with_reducible refine HRO.out.mono ?_); rintro e w1 ⟨rfl, rfl⟩)
      | (go_at_call 50; (with_reducible refine HAT.out.mono ?_); rintro e w1 ⟨rfl, hb⟩; have HB1 := Lib.hid (below_tail HAB.out hb); have HX1 := Lib.hid ((hb.block _ (lt_of_heap HX.out)).trans HX.out); obtain ⟨y0, y0f⟩ := at_ HX1.out 0 _ rfl; obtain ⟨y1, y1f⟩ := at_ HX1.out 1 _ rfl; clear hb x0))
    have HB3 := below_set (below_set HB1.out (Nat.le_refl _) (o := 0) (.slice none 0 0)) (Nat.le_refl _) (o := 1) (.bool false)
    have hset := set_two (u' := .slice none 0 0) (v' := .bool false) ⟨y0, y0f⟩ ⟨y1, y1f⟩
    exact bodyPost_ret (ret_row2 rfl _ _ w.heap.size _ _ _ rfl rfl hset.1.1 hset.2.1) rfl ⟨rfl, HB3⟩
  · have h1 : ¬ 0 ≤ i := by omega
    clear h hW hz hlen hh h64 hi hc
    go_enter Tryz.func13, Tryz.ntmps13
    go_upto_region 1 with fail
    rw [HWW.out]
    clear HWW
    go_wp2_with (first
      | (go_at_call 17; (with_reducible refine HBA.out.mono ?_); rintro e w1 ⟨rfl, rfl⟩)
      | (go_at_call 18; (with_reducible refine HRO.out.mono ?_); rintro e w1 ⟨rfl, rfl⟩)
      | (go_at_call 50; (with_reducible refine HAT.out.mono ?_); rintro e w1 ⟨rfl, hb⟩; have HB1 := Lib.hid (below_tail HAB.out hb); have HX1 := Lib.hid ((hb.block _ (lt_of_heap HX.out)).trans HX.out); obtain ⟨y0, y0f⟩ := at_ HX1.out 0 _ rfl; obtain ⟨y1, y1f⟩ := at_ HX1.out 1 _ rfl; clear hb x0))
    have HB3 := below_set (below_set HB1.out (Nat.le_refl _) (o := 0) (.slice none 0 0)) (Nat.le_refl _) (o := 1) (.bool false)
    have hset := set_two (u' := .slice none 0 0) (v' := .bool false) ⟨y0, y0f⟩ ⟨y1, y1f⟩
    exact bodyPost_ret (ret_row2 rfl _ _ w.heap.size _ _ _ rfl rfl hset.1.1 hset.2.1) rfl ⟨rfl, HB3⟩
end
end Go.Proofs.YtffdblmdelgkaaaGreat
