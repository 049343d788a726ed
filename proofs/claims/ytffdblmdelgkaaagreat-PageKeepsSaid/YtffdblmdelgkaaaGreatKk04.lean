/- Joined by a tool of this claim out of smaller texts. Conditions: as stated. -/
import Derived.Test.YtffdblmdelgkaaaGreatKk03
namespace Go.Proofs.YtffdblmdelgkaaaGreat
open Go.RowKit
/-- Both cells of a row's head set. -/
theorem owns_setRow {w : World} {base g n cap : Nat} {SL : List Rh} (h : w.ownsRow base 50 2 (.slice (some ⟨g, 0, none⟩) n cap) n (flat encRh SL)) {i : Nat} (hi : i < SL.length) (r : Rh) :
    ((w.setCell ⟨g, i * 2, none⟩ (.slice r.A r.cs.length r.cap)).setCell ⟨g, i * 2 + 1, none⟩ (.bool r.cont)).ownsRow base 50 2 (.slice (some ⟨g, 0, none⟩) n cap) n (flat encRh (SL.set i r)) := by
  have hx : SL[i]? = some SL[i] := List.getElem?_eq_getElem hi
  have h1 := owns_set1 h (i * 2) (.slice r.A r.cs.length r.cap)
  have h2 := owns_set1 h1 (i * 2 + 1) (.bool r.cont)
  have e1 : ((flat encRh SL).set (i * 2) (.slice r.A r.cs.length r.cap)).set (i * 2 + 1) (.bool r.cont) = flat encRh (SL.set i r) := by
    have a1 := flat_set1 encRh_len SL i SL[i] { r with cont := SL[i].cont } 0 (.slice r.A r.cs.length r.cap) hx (by decide) rfl
    rw [Nat.add_zero] at a1
    rw [a1]
    have a2 := flat_set1 encRh_len (SL.set i { r with cont := SL[i].cont }) i { r with cont := SL[i].cont } r 1 (.bool r.cont) (by simp [List.getElem?_set_self hi]) (by decide) rfl
    rw [a2, List.set_set]
  rw [e1] at h2
  exact h2
theorem owns_row {w : World} {base g n cap : Nat} {SL : List Rh} (h : w.ownsRow base 50 2 (.slice (some ⟨g, 0, none⟩) n cap) n (flat encRh SL)) {i : Nat} {r : Rh} (hr : SL[i]? = some r) :
    (w.cell? ⟨g, i * 2, none⟩ = some (.slice r.A r.cs.length r.cap) ∧ w.frozen? ⟨g, i * 2, none⟩ = false) ∧ w.cell? ⟨g, i * 2 + 1, none⟩ = some (.bool r.cont) ∧ w.frozen? ⟨g, i * 2 + 1, none⟩ = false := by
  have h0 := owns_hold h (i := i * 2 + 0) (by rw [flat_at2 encRh_len SL i r 0 hr (by decide)]; rfl)
  have h1 := owns_hold h (i := i * 2 + 1) (by rw [flat_at2 encRh_len SL i r 1 hr (by decide)]; rfl)
  rw [Nat.add_zero] at h0
  exact ⟨h0, h1⟩
theorem mod_set2 {X : List Nat} {w w1 : World} {b o : Nat} {u v : Value} (h : Mod X w w1) (hb : b ∈ X ∨ w.heap.size ≤ b) : Mod X w ((w1.setCell ⟨b, o, none⟩ u).setCell ⟨b, o + 1, none⟩ v) := (h.setCell (a := ⟨b, o, none⟩) hb u).setCell (a := ⟨b, o + 1, none⟩) hb v
section
variable {base : Nat} {w : World} {R : Nat} {vl : Value} {SL : List Rh} {room first n : Nat} {gone : Int}
theorem RgO.slots (h : RgO base w R vl SL room first n gone) (hf : first < SL.length) : ∃ g c, vl = .slice (some ⟨g, 0, none⟩) SL.length c ∧ g ≠ R ∧ g < w.heap.size ∧ R < w.heap.size := by
  obtain ⟨g, c, rfl⟩ := own_form h.own (by omega)
  exact ⟨g, c, rfl, h.ne rfl, (h.own.lt g rfl).2, (Array.getElem?_eq_some_iff.1 h.blk).1⟩
def DropPost (base : Nat) (w : World) (R : Nat) (vl : Value) (SL : List Rh) (room first n : Nat) (gone : Int) (e : Ending) (w' : World) : Prop :=
  (∃ r : Rh, e = .returned (.agg #[.slice r.A r.cs.length r.cap, .bool r.cont])) ∧ RgO base w' R vl (SL.set first zeroRh) room (slotOf SL.length first 1) (n - 1) ((gone + 1) % 18446744073709551616) ∧ Mod (ringX R vl) w w'
set_option maxRecDepth 100000 in
set_option maxHeartbeats 3200000 in
theorem rdrop_any (h : RgO base w R vl SL room first n gone) (hn0 : 0 < n) (hg0 : 0 ≤ gone) : Calls Tryz.prog 139 #[.pointer (some ⟨R, 0, none⟩)] w (DropPost base w R vl SL room first n gone) := by
  have hf : first < SL.length := by
    rcases h.hf with hf | ⟨-, hf⟩
    · exact hf
    · have := h.hn; omega
  obtain ⟨g, c, hv, hgR, hgl, hRl⟩ := h.slots hf
  subst hv
  have H := Lib.hid h
  obtain ⟨r, hr⟩ : ∃ r, SL[first]? = some r := ⟨SL[first], List.getElem?_eq_getElem hf⟩
  have hnr : n ≤ 100000 := by have := h.hn; have := h.hm; have := h.hroom; omega
  have hmr : SL.length ≤ 100000 := by have := h.hm; have := h.hroom; omega
  have hfI : (first : Int) < (SL.length : Int) := by omega
  have hw1 : IntKind.i64.wrap ((n : Int) - 1) = ((n - 1 : Nat) : Int) := by rw [IntWalk.i64_in _ (by omega)]; omega
  have hwn : IntKind.i64.wrap ((n - 1 : Nat) : Int) = ((n - 1 : Nat) : Int) := IntWalk.i64_in _ (by omega)
  have hsub : (n : Int) - 1 = ((n - 1 : Nat) : Int) := by omega
  have hwg : IntKind.u64.wrap (gone + 1) = (gone + 1) % 18446744073709551616 := IntKind.wrap_u64 _
  obtain ⟨W, hW⟩ : ∃ W, w.alloc (.cells #[.slice none 0 0, .bool false] 50) = W := ⟨_, rfl⟩
  have HB := Lib.hid (show Below w.heap.size w W from by rw [← hW]; exact below_allocs (Below.refl _ _) _)
  have HN := Lib.hid (show W.heap[w.heap.size]? = some (.cells #[.slice none 0 0, .bool false] 50 (0, 0)) from by rw [← hW]; exact hp_new rfl)
  have hO := h.below HB.out
  have HO := Lib.hid hO
  have x0 := (at_ hO.blk 0 _ rfl).1
  have x2 := (at_ hO.blk 2 _ rfl).1
  obtain ⟨⟨r0, -⟩, r1, -⟩ := owns_row hO.own hr
  clear h hO
  go_enter Tryz.func139, Tryz.ntmps139
  go_upto_region 1 with fail
  clear hW
  refine wp_region_n 11 (fun w' => Below W.heap.size W w' ∧ w'.cell? ⟨R, 0, none⟩ = some (.slice (some ⟨g, 0, none⟩) SL.length c) ∧ w'.cell? ⟨R, 2, none⟩ = some (.int .i64 first) ∧ w'.cell? ⟨g, first * 2, none⟩ = some (.slice r.A r.cs.length r.cap) ∧ w'.cell? ⟨g, first * 2 + 1, none⟩ = some (.bool r.cont)) (by kernel_rfl) (by kernel_rfl) (fun w1 w2 hS hb => ⟨below_tail hS.1 hb, holda hb hS.2.1, holda hb hS.2.2.1, holda hb hS.2.2.2.1, holda hb hS.2.2.2.2⟩) ⟨(Below.refl _ _).drew, x0, x2, r0, r1⟩ ?_
  refine AtN.take 0 (o := ⟨_, _, _, _, _, _⟩) (v := ?_) (by kernel_rfl) rfl (by simp) (by kernel_rfl) (by kernel_rfl) ?_ ?_; rotate_left
  · first | exact StabN.skip (by rfl) | (refine StabN.val (by rfl) ?_; intro w' hS; obtain ⟨_, _, _, _, _⟩ := hS; go_simp; first | done | with_reducible rfl)
  simp only [Act.put, List.setIfInBounds_toArray, List.set_cons_zero, List.set_cons_succ]
  refine AtN.take 1 (o := ⟨_, _, _, _, _, _⟩) (v := ?_) (by kernel_rfl) rfl (by simp) (by kernel_rfl) (by kernel_rfl) ?_ ?_; rotate_left
  · first | exact StabN.skip (by rfl) | (refine StabN.val (by rfl) ?_; intro w' hS; obtain ⟨_, _, _, _, _⟩ := hS; go_simp; first | done | with_reducible rfl)
  simp only [Act.put, List.setIfInBounds_toArray, List.set_cons_zero, List.set_cons_succ]
  refine AtN.take 2 (o := ⟨_, _, _, _, _, _⟩) (v := ?_) (by kernel_rfl) rfl (by simp) (by kernel_rfl) (by kernel_rfl) ?_ ?_; rotate_left
  · first | exact StabN.skip (by rfl) | (refine StabN.val (by rfl) ?_; intro w' hS; obtain ⟨_, _, _, _, _⟩ := hS; go_simp; first | done | with_reducible rfl)
  simp only [Act.put, List.setIfInBounds_toArray, List.set_cons_zero, List.set_cons_succ]
  refine AtN.take 3 (o := ⟨_, _, _, _, _, _⟩) (v := ?_) (by kernel_rfl) rfl (by simp) (by kernel_rfl) (by kernel_rfl) ?_ ?_; rotate_left
  · first | exact StabN.skip (by rfl) | (refine StabN.val (by rfl) ?_; intro w' hS; obtain ⟨_, _, _, _, _⟩ := hS; go_simp; first | done | with_reducible rfl)
  simp only [Act.put, List.setIfInBounds_toArray, List.set_cons_zero, List.set_cons_succ]
  refine AtN.take 4 (o := ⟨_, _, _, _, _, _⟩) (v := ?_) (by kernel_rfl) rfl (by simp) (by kernel_rfl) (by kernel_rfl) ?_ ?_; rotate_left
  · first | exact StabN.skip (by rfl) | (refine StabN.val (by rfl) ?_; intro w' hS; obtain ⟨_, _, _, _, _⟩ := hS; go_simp; first | done | with_reducible rfl)
  simp only [Act.put, List.setIfInBounds_toArray, List.set_cons_zero, List.set_cons_succ]
  refine AtN.take 5 (o := ⟨_, _, _, _, _, _⟩) (v := ?_) (by kernel_rfl) rfl (by simp) (by kernel_rfl) (by kernel_rfl) ?_ ?_; rotate_left
  · first | exact StabN.skip (by rfl) | (refine StabN.val (by rfl) ?_; intro w' hS; obtain ⟨_, _, _, _, _⟩ := hS; go_simp; first | done | with_reducible rfl)
  simp only [Act.put, List.setIfInBounds_toArray, List.set_cons_zero, List.set_cons_succ]
  refine AtN.take 6 (o := ⟨_, _, _, _, _, _⟩) (v := ?_) (by kernel_rfl) rfl (by simp) (by kernel_rfl) (by kernel_rfl) ?_ ?_; rotate_left
  · first | exact StabN.skip (by rfl) | (refine StabN.val (by rfl) ?_; intro w' hS; obtain ⟨_, _, _, _, _⟩ := hS; go_simp; first | done | with_reducible rfl)
  simp only [Act.put, List.setIfInBounds_toArray, List.set_cons_zero, List.set_cons_succ]
  refine AtN.take 7 (o := ⟨_, _, _, _, _, _⟩) (v := ?_) (by kernel_rfl) rfl (by simp) (by kernel_rfl) (by kernel_rfl) ?_ ?_; rotate_left
  · first | exact StabN.skip (by rfl) | (refine StabN.val (by rfl) ?_; intro w' hS; obtain ⟨_, _, _, _, _⟩ := hS; go_simp; first | done | with_reducible rfl)
  simp only [Act.put, List.setIfInBounds_toArray, List.set_cons_zero, List.set_cons_succ]
  refine AtN.take 8 (o := ⟨_, _, _, _, _, _⟩) (v := ?_) (by kernel_rfl) rfl (by simp) (by kernel_rfl) (by kernel_rfl) ?_ ?_; rotate_left
  · first | exact StabN.skip (by rfl) | (refine StabN.val (by rfl) ?_; intro w' hS; obtain ⟨_, _, _, _, _⟩ := hS; go_simp; first | done | with_reducible rfl)
  simp only [Act.put, List.setIfInBounds_toArray, List.set_cons_zero, List.set_cons_succ]
  refine AtN.take 9 (o := ⟨_, _, _, _, _, _⟩) (v := ?_) (by kernel_rfl) rfl (by simp) (by kernel_rfl) (by kernel_rfl) ?_ ?_; rotate_left
  · first | exact StabN.skip (by rfl) | (refine StabN.val (by rfl) ?_; intro w' hS; obtain ⟨_, _, _, _, _⟩ := hS; go_simp; first | done | with_reducible rfl)
  simp only [Act.put, List.setIfInBounds_toArray, List.set_cons_zero, List.set_cons_succ]
  refine AtN.one 10 (o := ⟨_, _, _, _, _, _⟩) _ _ (by simp) (by kernel_rfl) rfl (NewP.pers 50 #[.slice none 0 0, .bool false]) (StabN.alloc W.heap.size 50 #[.slice none 0 0, .bool false] [] (by rfl) (fun w' hS => by go_simp) (fun w' hS => hS.1.size) (fun _ _ _ hx => by cases hx)) ?_
  rintro v ⟨k, rfl, hk, -⟩
  simp only [Act.put, List.setIfInBounds_toArray, List.set_cons_zero, List.set_cons_succ]
  refine AtN.done (by kernel_rfl) (fun w' hS => ?_)
  have HB1 := Lib.hid hS.1.1
  have HK := Lib.hid hS.2.at_
  clear hS x0 x2 r0 r1
  have hkW : w.heap.size < k := by have := HN.out; have := lt_of_heap this; omega
  obtain ⟨y0, y0f⟩ := at_ HK.out 0 _ rfl
  obtain ⟨y1, y1f⟩ := at_ HK.out 1 _ rfl
  go_upto_region 2 with fail
  have HM2 := Lib.hid (mod_set2 (o := 0) (u := .slice r.A r.cs.length r.cap) (v := .bool r.cont) (Mod.of_below (X := []) (below_tail HB.out HB1.out)) (.inr (Nat.le_of_lt hkW)))
  have HN2 : Hid (((w'.setCell ⟨k, 0, none⟩ (.slice r.A r.cs.length r.cap)).setCell ⟨k, 1, none⟩ (.bool r.cont)).heap[w.heap.size]? = some (.cells #[.slice none 0 0, .bool false] 50 (0, 0))) := Lib.hid (by
    rw [heap_other (by omega), heap_other (by omega)]; exact (HB1.out.block _ (lt_of_heap HN.out)).trans HN.out)
  have HK2 := Lib.hid (whole_set (whole_set (cs := [.slice none 0 0, .bool false]) HK.out 0 (.slice r.A r.cs.length r.cap) (cs' := [.slice r.A r.cs.length r.cap, .bool false]) rfl) 1 (.bool r.cont) (cs' := [.slice r.A r.cs.length r.cap, .bool r.cont]) rfl)
  generalize World.setCell _ _ _ = W2 at HM2 HN2 HK2 ⊢
  have HO2 := Lib.hid (H.out.mod HM2.out (NoCel.nil w) (fun _ _ h => by cases h))
  have x0 := (at_ HO2.out.blk 0 _ rfl).1
  have x2 := (at_ HO2.out.blk 2 _ rfl).1
  clear y0 y0f y1 y1f
  refine wp_region_u 10 (fun w' => Below W2.heap.size W2 w' ∧ w'.cell? ⟨R, 0, none⟩ = some (.slice (some ⟨g, 0, none⟩) SL.length c) ∧ w'.cell? ⟨R, 2, none⟩ = some (.int .i64 first)) (by kernel_rfl) (by kernel_rfl) ?_ ?_
  · exact ⟨(Below.refl _ _).drew, x0, x2⟩
  simp only [List.take_succ_cons, List.take_zero, List.drop_succ_cons, List.drop_zero]
  repeat (first
    | (refine seqU_skip (by rfl) ?_; simp only [Act.put, List.setIfInBounds_toArray, List.set_cons_zero, List.set_cons_succ])
    | (refine seqU_val ?_ (by rfl) ?_ ?_; rotate_left; · (intro w' hS; obtain ⟨_, _, _⟩ := hS; go_simp; first | done | with_reducible rfl)
       simp only [Act.put, List.setIfInBounds_toArray, List.set_cons_zero, List.set_cons_succ]))
  refine seqU_nil (fun w' hS => ?_)
  have HB3 := Lib.hid hS.1
  have hO3 := HO2.out.below hS.1
  obtain ⟨⟨q0, q0f⟩, q1, q1f⟩ := owns_row hO3.own hr
  have HK3 := Lib.hid ((hS.1.block _ (lt_of_heap HK2.out)).trans HK2.out)
  have HN3 := Lib.hid ((hS.1.block _ (lt_of_heap HN2.out)).trans HN2.out)
  have HO3 := Lib.hid hO3
  clear hS x0 x2 hO3
  go_upto_region 3 with fail
  have HOW := Lib.hid (owns_setRow HO3.out.own hf zeroRh)
  have HM4 := Lib.hid (mod_set2 (X := ringX R (.slice (some ⟨g, 0, none⟩) SL.length c)) (b := g) (o := first * 2) (u := .slice none 0 0) (v := .bool false) ((HM2.out.mono (fun _ h => by cases h)).then_below HB3.out) (.inl (by simp [ringX, Value.ownBlock])))
  have HKg : k ≠ g := by have := HB1.out.size; have := HB.out.size; omega
  have HBLK : Hid (((w'.setCell ⟨g, first * 2, none⟩ (.slice none 0 0)).setCell ⟨g, first * 2 + 1, none⟩ (.bool false)).heap[R]? = some (.cells [.slice (some ⟨g, 0, none⟩) SL.length c, .int .i64 room, .int .i64 first, .int .i64 n, .int .u64 gone].toArray 114 (0, 0))) := Lib.hid ((heap_other (Ne.symm hgR)).trans ((heap_other (Ne.symm hgR)).trans HO3.out.blk))
  have HK4 := Lib.hid ((heap_other (i := first * 2 + 1) (v := .bool false) HKg).trans ((heap_other (i := first * 2) (v := .slice none 0 0) HKg).trans HK3.out))
  have hNg : w.heap.size ≠ g := by omega
  have HN4 := Lib.hid ((heap_other (i := first * 2 + 1) (v := .bool false) hNg).trans ((heap_other (i := first * 2) (v := .slice none 0 0) hNg).trans HN3.out))
  clear q0 q0f q1 q1f
  change Hid ((((w'.setCell ⟨g, first * 2, none⟩ (.slice none 0 0)).setCell ⟨g, first * 2 + 1, none⟩ (.bool false))).ownsRow _ _ _ _ _ _) at HOW
  generalize World.setCell _ _ _ = W4 at HOW HM4 HBLK HK4 HN4 ⊢
  have HSL := Lib.hid (slot_raw (range_box HBLK.out 0 _ rfl) (range_box HBLK.out 2 _ rfl) hmr (by omega) 1 (by omega))
  obtain ⟨z2, z2f⟩ := whole_at HBLK.out 2 _ rfl
  obtain ⟨z3, z3f⟩ := whole_at HBLK.out 3 _ rfl
  obtain ⟨z4, z4f⟩ := whole_at HBLK.out 4 _ rfl
  go_upto_region 6 with (go_at_call 95; refine HSL.out.mono ?_; rintro e w1 ⟨rfl, rfl⟩)
  have c2 := whole_set HBLK.out 2 (.int .i64 (slotOf SL.length first 1)) rfl
  have c3 := whole_set c2 3 (.int .i64 ((n - 1 : Nat) : Int)) rfl
  have C4 := Lib.hid (whole_set c3 4 (.int .u64 ((gone + 1) % 18446744073709551616)) rfl)
  have hkR : k ≠ R := by have := HB1.out.size; have := HB.out.size; omega
  have hNR : w.heap.size ≠ R := by omega
  have HK5 := Lib.hid ((heap_other (i := 4) (v := .int .u64 ((gone + 1) % 18446744073709551616)) hkR).trans ((heap_other (i := 3) (v := .int .i64 ((n - 1 : Nat) : Int)) hkR).trans ((heap_other (i := 2) (v := .int .i64 (slotOf SL.length first 1)) hkR).trans HK4.out)))
  have HN5 := Lib.hid ((heap_other (i := 4) (v := .int .u64 ((gone + 1) % 18446744073709551616)) hNR).trans ((heap_other (i := 3) (v := .int .i64 ((n - 1 : Nat) : Int)) hNR).trans ((heap_other (i := 2) (v := .int .i64 (slotOf SL.length first 1)) hNR).trans HN4.out)))
  have HM5 := Lib.hid ((((Mod.refl [R] W4).setCell (a := ⟨R, 2, none⟩) (.inl (by simp)) (.int .i64 (slotOf SL.length first 1))).setCell (a := ⟨R, 3, none⟩) (.inl (by simp)) (.int .i64 ((n - 1 : Nat) : Int))).setCell (a := ⟨R, 4, none⟩) (.inl (by simp)) (.int .u64 ((gone + 1) % 18446744073709551616)))
  clear c2 c3 z2 z2f z3 z3f z4 z4f
  generalize World.setCell _ _ _ = W5 at C4 HK5 HN5 HM5 ⊢
  obtain ⟨a0, -⟩ := at_ HK5.out 0 _ rfl
  obtain ⟨a1, -⟩ := at_ HK5.out 1 _ rfl
  obtain ⟨b0, b0f⟩ := at_ HN5.out 0 _ rfl
  obtain ⟨b1, b1f⟩ := at_ HN5.out 1 _ rfl
  have HM6 := Lib.hid (mod_set2 (b := w.heap.size) (o := 0) (u := .slice r.A r.cs.length r.cap) (v := .bool r.cont) (HM4.out.trans HM5.out (fun x hx => .inl (by rw [List.mem_singleton.1 hx]; simp [ringX]))) (.inr (Nat.le_refl _)))
  have HM7 := Lib.hid (mod_set2 (b := w.heap.size) (o := 0) (u := .slice r.A r.cs.length r.cap) (v := .bool r.cont) (HM5.out.mono (Y := [R, w.heap.size]) (fun x hx => by rw [List.mem_singleton.1 hx]; simp)) (.inl (by simp)))
  have HBLK7 := Lib.hid ((heap_other (i := 1) (v := .bool r.cont) (Ne.symm hNR)).trans ((heap_other (i := 0) (v := .slice r.A r.cs.length r.cap) (Ne.symm hNR)).trans C4.out))
  go_wp2
  have hset := set_two (u' := .slice r.A r.cs.length r.cap) (v' := .bool r.cont) ⟨b0, b0f⟩ ⟨b1, b1f⟩
  refine bodyPost_ret (ret_row rfl _ _ w.heap.size _ _ rfl hset.1.1 hset.2.1) rfl ⟨⟨r, rfl⟩, H.out.reblk HBLK7.out ?_ ?_ ?_ ?_ ?_, HM6.out⟩
  · have := owns_mod HOW.out HM7.out (fun x hx => by simp [Value.ownBlock] at hx; subst hx; simp; omega)
    rwa [List.length_set]
  · rw [List.length_set]; have := H.out.hn; omega
  · rw [List.length_set]; exact H.out.hm
  · rw [List.length_set]; exact .inl (by unfold slotOf; split <;> omega)
  · intro x hx
    rw [histL_drop hf H.out.hn hn0] at hx
    have hx2 := H.out.rows x (List.mem_of_mem_drop hx)
    exact ⟨hx2.1.mod HM6.out H.out.nocel, hx2.2⟩
end
end Go.Proofs.YtffdblmdelgkaaaGreat
namespace Go.Proofs.YtffdblmdelgkaaaGreat
open Go.RowKit
theorem made_flatG {α : Type} {enc : α → List Value} {K : Nat} (hl : ∀ x, (enc x).length = K) (hK : 0 < K) (z : α) (n : Nat) : (madeCells (enc z).toArray (n * K)).toList = flat enc (List.replicate n z) := by
  refine List.ext_getElem? fun m => ?_
  by_cases hm : m < n * K
  · have hd : m / K < n := (Nat.div_lt_iff_lt_mul hK).2 hm
    have h1 : (List.replicate n z)[m / K]? = some z := by rw [List.getElem?_replicate]; rw [if_pos hd]
    have h2 := flat_at2 hl (List.replicate n z) (m / K) z (m % K) h1 (Nat.mod_lt _ hK)
    rw [show m / K * K + m % K = m by rw [Nat.mul_comm]; exact Nat.div_add_mod m K] at h2
    rw [h2]
    have hj : m % K < (enc z).length := by rw [hl]; exact Nat.mod_lt _ hK
    unfold madeCells
    simp only [Array.toList_map, Array.toList_range, List.getElem?_map, List.getElem?_range hm, Option.map_some]
    rw [List.getElem?_eq_getElem hj]
    congr 1
    have hs : (enc z).toArray.size = K := by rw [List.size_toArray, hl]
    rw [hs, getElem!_pos _ _ (by rw [hs]; exact Nat.mod_lt _ hK)]
    simp
  · rw [List.getElem?_eq_none (by simp [size_madeCells]; omega), List.getElem?_eq_none (by rw [flat_len hl, List.length_replicate]; omega)]
theorem info_rowz : (Tryz.prog.info? 50).map (fun i => (i.zero, i.size, i.bytes)) = some (some (.agg #[.slice none 0 0, .bool false]), 2, 32) := by kernel_rfl
theorem take_set {α : Type} {H : List α} {z : α} {m i : Nat} (hi : i < H.length) (hm : i < m) : (H.take i ++ List.replicate (m - i) z).set i H[i] = H.take (i + 1) ++ List.replicate (m - (i + 1)) z := by
  rw [List.set_append_right _ _ (by rw [List.length_take]; omega), List.length_take, show i - min i H.length = 0 by omega, show m - i = (m - (i + 1)) + 1 by omega, List.replicate_succ, List.set_cons_zero, List.take_succ_eq_append_getElem hi, List.append_assoc]
  rfl
section
variable {base : Nat} {w : World} {R : Nat} {vl : Value} {SL : List Rh} {room first n : Nat} {gone : Int}
def GrowPost (base : Nat) (w : World) (R : Nat) (H : List Rh) (room n : Nat) (gone : Int) (e : Ending) (w' : World) : Prop :=
  e = .returned (.tuple #[]) ∧ ∃ vl' m, n < m ∧ RgO base w' R vl' (H ++ List.replicate (m - n) zeroRh) room 0 n gone ∧ Mod [R] w w' ∧ ∀ g, vl'.ownBlock = some g → w.heap.size ≤ g
set_option maxRecDepth 100000 in
set_option maxHeartbeats 3200000 in
theorem rgrow_any (h : RgO base w R vl SL room first n gone) (hfull : n = SL.length) (hlt : SL.length < room) (hbw : base ≤ w.heap.size) : Calls Tryz.prog 140 #[.pointer (some ⟨R, 0, none⟩)] w (GrowPost base w R (histL SL first n) room n gone) := by
  obtain ⟨j0, hj, gz0, gz1, gz2⟩ := info_parts info_rowz
  obtain ⟨A, c, hv⟩ := row_form h.own
  have hroom := h.hroom
  obtain ⟨q, hq⟩ : ∃ q : Nat, q = 2 * SL.length := ⟨_, rfl⟩
  have hqI : (2 : Int) * (SL.length : Int) = (q : Int) := by omega
  have hwq : IntKind.i64.wrap (q : Int) = (q : Int) := IntWalk.i64_in _ (by omega)
  obtain ⟨s1, hs1⟩ : ∃ s1 : Nat, (if (4 : Int) < (q : Int) then (q : Int) else 4) = (s1 : Int) := ⟨max 4 q, by omega⟩
  obtain ⟨m, hm⟩ : ∃ m : Nat, (if s1 < room then (s1 : Int) else (room : Int)) = (m : Int) := ⟨min s1 room, by omega⟩
  have hmn : n < m := by omega
  have hmr : m ≤ room := by omega
  have hmr2 : m ≤ 100000 := by omega
  have H := Lib.hid h
  have x0 := (at_ h.blk 0 _ rfl).1
  have x1 := (at_ h.blk 1 _ rfl).1
  rw [hv] at x0
  have HV := Lib.hid hv
  have HQ := Lib.hid (And.intro hmn (And.intro hmr (And.intro hfull hlt)))
  clear hq h hv hfull
  go_enter Tryz.func140, Tryz.ntmps140
  go_upto_region 0 with fail
  refine wp_region_u 12 (fun w' => Below w.heap.size w w' ∧ w'.cell? ⟨R, 0, none⟩ = some (.slice A SL.length c) ∧ w'.cell? ⟨R, 1, none⟩ = some (.int .i64 room)) (by kernel_rfl) (by kernel_rfl) ?_ ?_
  · exact ⟨(Below.refl _ _).drew, x0, x1⟩
  simp only [List.take_succ_cons, List.take_zero, List.drop_succ_cons, List.drop_zero]
  repeat (first
    | (refine seqU_skip (by rfl) ?_; simp only [Act.put, List.setIfInBounds_toArray, List.set_cons_zero, List.set_cons_succ])
    | (refine seqU_val ?_ (by rfl) ?_ ?_; rotate_left; · (intro w' hS; obtain ⟨_, _, _⟩ := hS; go_simp; first | done | with_reducible rfl)
       simp only [Act.put, List.setIfInBounds_toArray, List.set_cons_zero, List.set_cons_succ]))
  refine seqU_nil (fun w' hS => ?_)
  have HB1 := Lib.hid hS.1
  clear hS x0 x1
  clear hs1 hqI hwq
  have hb1 := HB1.out.size
  go_wp2_with (refine wpList_make_full _ rfl (.tmp 17) (.tmp 17) _ rfl w.heap.size 50 j0 _ 2 Tryz.underlying42 hj gz0 gz1 .i64 .i64 _ _ m rfl rfl ?_ ?_ ?_ ?_ ?_ ?_)
  all_goals first
    | rfl
    | omega
    | (simp only [maxLen]; omega)
    | (rw [gz2]; omega)
    | (simp; done)
    | skip
  intro w1 hown hg
  have HG := Lib.hid hg
  have e := made_flatG encRh_len (by decide) zeroRh m
  have HO0 : Hid (w1.ownsRow w.heap.size 50 2 (.slice (some ⟨w'.heap.size, 0, none⟩) m m) m (flat encRh (List.replicate m zeroRh))) := Lib.hid (by rw [← e]; exact hown)
  clear hown hg e
  have HB2 := Lib.hid (show Below w.heap.size w w1 from HB1.out.grown HG.out hb1 (fun k hk => by cases hk))
  have hO1 := H.out.below HB2.out
  have x3 := (at_ hO1.blk 3 _ rfl).1
  clear HG hO1
  have hg1 : w.heap.size ≤ w'.heap.size := hb1
  have hg2 := (HO0.out.lt w'.heap.size rfl).2
  generalize w'.heap.size = g1 at HO0 hg1 hg2 ⊢
  clear hm HB1 hb1
  have HH := Lib.hid (histL_len SL first n)
  have hnN : n ≤ 100000 := by omega
  go_wp2_with fail
  go_loopw [23] (fun s23 wr => ∃ i : Nat, s23 = .int .i64 i ∧ i ≤ n ∧ wr.ownsRow w.heap.size 50 2 (.slice (some ⟨g1, 0, none⟩) m m) m (flat encRh ((histL SL first n).take i ++ List.replicate (m - i) zeroRh)) ∧ Mod [g1] w1 wr) (fun s23 _ => n - (intOf s23).toNat)
  case atStart => exact ⟨0, rfl, Nat.zero_le _, by simpa using HO0.out, Mod.refl _ _⟩
  case round =>
    obtain ⟨i, rfl, hi, hO, hM⟩ := hrel
    have HOi := Lib.hid hO
    have HMi := Lib.hid hM
    have HMw := Lib.hid ((Mod.of_below (X := [g1]) HB2.out).trans hM (fun x hx => .inl hx))
    have hNC : NoCel w1 [g1] := fun b hb cs f he => by
      rw [List.mem_singleton.1 hb] at he
      obtain ⟨cur, hc⟩ := own_block HO0.out (g := g1) rfl
      rw [hc] at he
      injection he with he
      injection he with _ ht
      exact absurd ht (by decide)
    have HRi := Lib.hid ((H.out.below HB2.out).mod hM hNC (fun x hx hX => by rw [List.mem_singleton.1 hX] at hx; have := H.out.lt g1 hx; omega))
    clear hO hM hNC
    by_cases hlt2 : i < n
    rotate_left
    · obtain rfl : i = n := by omega
      obtain ⟨y0, y0f⟩ := at_ HRi.out.blk 0 _ rfl
      obtain ⟨y2, y2f⟩ := at_ HRi.out.blk 2 _ rfl
      have HK := Lib.hid (whole_set (whole_set (cs := [vl, .int .i64 room, .int .i64 first, .int .i64 i, .int .u64 gone]) HRi.out.blk 0 (.slice (some ⟨g1, 0, none⟩) m m) (cs' := [.slice (some ⟨g1, 0, none⟩) m m, .int .i64 room, .int .i64 first, .int .i64 i, .int .u64 gone]) rfl) 2 (.int .i64 0) (cs' := [.slice (some ⟨g1, 0, none⟩) m m, .int .i64 room, .int .i64 0, .int .i64 i, .int .u64 gone]) rfl)
      have hRl := (H.out.lt R (by simp [ringX])).2
      have HMf := Lib.hid (((HMw.out.mono (Y := [R, g1]) (fun x hx => by rw [List.mem_singleton.1 hx]; simp)).setCell (a := ⟨R, 0, none⟩) (.inl (by simp)) (.slice (some ⟨g1, 0, none⟩) m m)).setCell (a := ⟨R, 2, none⟩) (.inl (by simp)) (.int .i64 0))
      go_wp2
      go_end0
      have hl : (histL SL first i ++ List.replicate (m - i) zeroRh).length = m := by rw [List.length_append, HH.out, List.length_replicate]; omega
      have hMR : Mod [R] w ((wr.setCell ⟨R, 0, none⟩ (.slice (some ⟨g1, 0, none⟩) m m)).setCell ⟨R, 2, none⟩ (.int .i64 0)) := (Mod.trans (X := [R]) (Y := [R, g1]) (Mod.refl [R] w) HMf.out (fun x hx => by
        rcases List.mem_cons.1 hx with rfl | hx
        · exact .inl (by simp)
        · rw [List.mem_singleton.1 hx]; exact .inr hg1))
      refine ⟨rfl, .slice (some ⟨g1, 0, none⟩) m m, m, HQ.out.1, ⟨HK.out, ?_, H.out.hb, H.out.hroom, by rw [hl]; omega, by rw [hl]; exact hmr, .inl (by rw [hl]; omega), ?_⟩, hMR, fun g hg => by simp [Value.ownBlock] at hg; omega⟩
      · rw [hl]
        have h1 := HOi.out
        rw [show (histL SL first i).take i = histL SL first i from List.take_of_length_le (by rw [HH.out]; exact Nat.le_refl _)] at h1
        have h2 := owns_mod h1 ((Mod.refl [R] wr).setCell (a := ⟨R, 0, none⟩) (.inl (by simp)) (.slice (some ⟨g1, 0, none⟩) m m) |>.setCell (a := ⟨R, 2, none⟩) (.inl (by simp)) (.int .i64 0)) (fun x hx => by simp [Value.ownBlock] at hx; simp; omega)
        exact owns_weaken h2 hbw
      · intro x hx
        have e : histL (histL SL first i ++ List.replicate (m - i) zeroRh) 0 i = histL SL first i := by
          have := histL_grown (H := histL SL first i) (Z := List.replicate (m - i) zeroRh)
          rwa [HH.out] at this
        rw [e] at hx
        have := H.out.rows x hx
        exact ⟨this.1.mod hMR (fun b hb cs f he => by
          rw [List.mem_singleton.1 hb, H.out.blk] at he
          injection he with he
          injection he with _ ht
          exact absurd ht (by decide)), this.2⟩
    · have hf : first < SL.length := by
        rcases H.out.hf with hf | ⟨-, hf⟩
        · exact hf
        · have := H.out.hn; omega
      obtain ⟨k, hk⟩ : ∃ k, slotOf SL.length first i = k := ⟨_, rfl⟩
      have hkl : k < SL.length := by rw [← hk]; exact slotOf_lt hf (by have := H.out.hn; omega)
      obtain ⟨r, hr⟩ : ∃ r, SL[k]? = some r := ⟨SL[k], List.getElem?_eq_getElem hkl⟩
      have hHi : (histL SL first n)[i]? = some r := by rw [histL_at hf H.out.hn hlt2, hk, hr]
      obtain ⟨gs, cs, hvs⟩ := own_form H.out.own (by omega)
      have hownS := HRi.out.own
      have x0 := (at_ HRi.out.blk 0 _ rfl).1
      rw [hvs] at hownS x0
      obtain ⟨⟨r0, -⟩, r1, -⟩ := owns_row hownS hr
      have x2 : wr.cell? ⟨R, 2, none⟩ = some (.int .i64 first) := (at_ HRi.out.blk 2 _ rfl).1
      have hfr : first ≤ 100000 := by have := HQ.out; omega
      have hkI : (k : Int) < (SL.length : Int) := by omega
      have hiI : (i : Int) < (n : Int) := by omega
      have him : i < m := by omega
      have himI : (i : Int) < (m : Int) := by omega
      have HHI := Lib.hid hHi
      clear hHi hr hownS hvs hf
      go_upto_region 5 with fail
      refine wp_region_u 12 (fun w2 => Below wr.heap.size wr w2 ∧ w2.cell? ⟨R, 0, none⟩ = some (.slice (some ⟨gs, 0, none⟩) SL.length cs) ∧ w2.cell? ⟨gs, k * 2, none⟩ = some (.slice r.A r.cs.length r.cap) ∧ w2.cell? ⟨gs, k * 2 + 1, none⟩ = some (.bool r.cont)) (by kernel_rfl) (by kernel_rfl) ?_ ?_
      · exact ⟨(Below.refl _ _).drew, x0, r0, r1⟩
      simp only [List.take_succ_cons, List.take_zero, List.drop_succ_cons, List.drop_zero]
      repeat (first
        | (refine seqU_skip (by rfl) ?_; simp only [Act.put, List.setIfInBounds_toArray, List.set_cons_zero, List.set_cons_succ])
        | (refine seqU_call 95 #[.pointer (some ⟨R, 0, none⟩), .int .i64 i] (.int .i64 k) (by rfl) ?_ (fun w2 hS => (slot_raw hS.2.1 ((Mod.of_below (X := []) hS.1).cell (by simp) x2) (by omega) (by omega) i (by omega)).mono (fun e w3 h => ⟨by rw [← hk]; exact h.1, h.2 ▸ hS⟩)) ?_; (focus (intro w2; go_simp; done)); simp only [Act.put, List.setIfInBounds_toArray, List.set_cons_zero, List.set_cons_succ])
        | (refine seqU_val ?_ (by rfl) ?_ ?_; rotate_left; · (intro w' hS; obtain ⟨_, _, _, _⟩ := hS; go_simp; first | done | with_reducible rfl)
           simp only [Act.put, List.setIfInBounds_toArray, List.set_cons_zero, List.set_cons_succ]))
      refine seqU_nil (fun w' hS => ?_)
      have HB5 := Lib.hid hS.1
      have hO5 := owns_mod HOi.out (Mod.of_below (X := []) hS.1) (fun _ _ h => by cases h)
      have hil : i < ((histL SL first n).take i ++ List.replicate (m - i) zeroRh).length := by rw [List.length_append, List.length_take, List.length_replicate]; have := HH.out; omega
      obtain ⟨zr, hzr⟩ : ∃ zr, ((histL SL first n).take i ++ List.replicate (m - i) zeroRh)[i]? = some zr := ⟨_, List.getElem?_eq_getElem hil⟩
      obtain ⟨⟨q0, q0f⟩, q1, q1f⟩ := owns_row hO5 hzr
      have HO5 := Lib.hid hO5
      clear hS x0 r0 r1 hO5 x2
      go_wp2
      have hset := owns_setRow HO5.out hil r
      have hHe : r = (histL SL first n)[i]'(by rw [HH.out]; exact hlt2) := by have := (List.getElem?_eq_some_iff.1 HHI.out).2; exact this.symm
      rw [hHe, take_set (by rw [HH.out]; exact hlt2) him, ← hHe] at hset
      have HSET := Lib.hid hset
      have HM6 := Lib.hid (mod_set2 (b := g1) (o := i * 2) (u := .slice r.A r.cs.length r.cap) (v := .bool r.cont) (HMi.out.then_below HB5.out) (.inl (by simp)))
      clear hset hHe
      go_roundw
      case rel => exact ⟨i + 1, by go_num, by omega, HSET.out, HM6.out⟩
      case measure => simp [intOf]; omega
end
end Go.Proofs.YtffdblmdelgkaaaGreat

namespace Go.Proofs.YtffdblmdelgkaaaGreat
open Go.RowKit
theorem ret_row2 {fn : Func} {p u : Tmp} (hr : fn.results = #[.cell p 50, .tmp u]) (tmps : Array Value) (w : World) (b : Nat) (x y z : Value) (hp : tmps.getD p undef = .pointer (some ⟨b, 0, none⟩)) (hu : tmps.getD u undef = z) (h0 : w.cell? ⟨b, 0, none⟩ = some x) (h1 : w.cell? ⟨b, 1, none⟩ = some y) :
    (results fn tmps).run Tryz.prog w = .ok (.tuple #[.agg #[x, y], z]) w := by
  rw [results_cell_tmp hr, hp, hu]
  have := run_loadVar_mid (P := Tryz.prog) w b 0 50 [x, y] _ (fun j v hj => by
    rw [Nat.zero_add]
    match j, hj with
    | 0, hj => simp at hj; subst hj; exact h0
    | 1, hj => simp at hj; subst hj; exact h1) Tryz.underlying50 rfl info_row
  simp only [asAddr, Sem.run_pure, Result.andThen_ok, this]
section
variable {base : Nat} {w : World} {R : Nat} {vl : Value} {SL : List Rh} {room first n : Nat} {gone : Int}
def PushPost (base : Nat) (w : World) (R : Nat) (vl : Value) (room n : Nat) (gone : Int) (H : List Ro) (r : Ro) (e : Ending) (w' : World) : Prop :=
  ∃ r6 : Rh, e = .returned (.tuple #[.agg #[.slice r6.A r6.cs.length r6.cap, .bool r6.cont], .bool (decide (n = room))]) ∧ RgPost base w R vl room (if n = room then (gone + 1) % 18446744073709551616 else gone) (if room = 0 then [] else if n = room then H.drop 1 ++ [r] else H ++ [r]) w'
/-- A row is in the ring: where its last one was. -/
theorem RgO.pushed {w' : World} {SL' : List Rh} {first' n' g c : Nat} {gone' : Int} (h : RgO base w' R (.slice (some ⟨g, 0, none⟩) SL'.length c) SL' room first' n' gone') (hn : n' < SL'.length) (r1 : Rh) (hr : RcAt w' r1) (h0 : 0 < r1.cs.length) (hgR : g ≠ R) (k : Nat) (hk : slotOf SL'.length first' n' = k) :
    RgO base (((w'.setCell ⟨g, k * 2, none⟩ (.slice r1.A r1.cs.length r1.cap)).setCell ⟨g, k * 2 + 1, none⟩ (.bool r1.cont)).setCell ⟨R, 3, none⟩ (.int .i64 ((n' + 1 : Nat) : Int))) R (.slice (some ⟨g, 0, none⟩) SL'.length c) (SL'.set k r1) room first' (n' + 1) gone' ∧
    Mod (ringX R (.slice (some ⟨g, 0, none⟩) SL'.length c)) w' (((w'.setCell ⟨g, k * 2, none⟩ (.slice r1.A r1.cs.length r1.cap)).setCell ⟨g, k * 2 + 1, none⟩ (.bool r1.cont)).setCell ⟨R, 3, none⟩ (.int .i64 ((n' + 1 : Nat) : Int))) := by
  have hf : first' < SL'.length := by
    rcases h.hf with hf | ⟨-, hf⟩
    · exact hf
    · omega
  have hkl : k < SL'.length := by rw [← hk]; exact slotOf_lt hf hn
  have hM : Mod (ringX R (.slice (some ⟨g, 0, none⟩) SL'.length c)) w' (((w'.setCell ⟨g, k * 2, none⟩ (.slice r1.A r1.cs.length r1.cap)).setCell ⟨g, k * 2 + 1, none⟩ (.bool r1.cont)).setCell ⟨R, 3, none⟩ (.int .i64 ((n' + 1 : Nat) : Int))) :=
    (mod_set2 (Mod.refl _ _) (.inl (by simp [ringX, Value.ownBlock]))).setCell (a := ⟨R, 3, none⟩) (.inl (by simp [ringX])) _
  refine ⟨h.reblk ?_ ?_ ?_ ?_ ?_ ?_, hM⟩
  · have h1 := (heap_other (i := k * 2 + 1) (v := .bool r1.cont) (Ne.symm hgR)).trans ((heap_other (i := k * 2) (v := .slice r1.A r1.cs.length r1.cap) (Ne.symm hgR)).trans h.blk)
    exact whole_set (cs := [.slice (some ⟨g, 0, none⟩) SL'.length c, .int .i64 room, .int .i64 first', .int .i64 n', .int .u64 gone']) h1 3 _ rfl
  · have h1 := owns_setRow h.own hkl r1
    have h2 := owns_mod h1 ((Mod.refl [R] _).setCell (a := ⟨R, 3, none⟩) (.inl (by simp)) (.int .i64 ((n' + 1 : Nat) : Int))) (fun x hx => by simp [Value.ownBlock] at hx; simp; omega)
    rwa [List.length_set]
  · rw [List.length_set]; omega
  · rw [List.length_set]; exact h.hm
  · rw [List.length_set]; exact .inl hf
  · intro x hx
    rw [← hk, histL_push hf hn] at hx
    rcases List.mem_append.1 hx with hx | hx
    · exact ⟨(h.rows x hx).1.mod hM h.nocel, (h.rows x hx).2⟩
    · rw [List.mem_singleton.1 hx]; exact ⟨hr.mod hM h.nocel, h0⟩
set_option maxRecDepth 100000 in
set_option maxHeartbeats 3200000 in
theorem rpush_any (h : RgO base w R vl SL room first n gone) (hg0 : 0 ≤ gone) (hbw : base ≤ w.heap.size) (r : Rh) (hr : RcAt w r) (h0 : 0 < r.cs.length) :
    Calls Tryz.prog 106 #[.pointer (some ⟨R, 0, none⟩), .agg #[.slice r.A r.cs.length r.cap, .bool r.cont]] w (PushPost base w R vl room n gone ((histL SL first n).map roOf) (roOf r)) := by
  have H := Lib.hid h
  have HOWN := Lib.hid (fun w' (hr : RcAt w' r) => rown_any r w' hr h0)
  have HR := Lib.hid hr
  have H0 := Lib.hid h0
  have hRl := (h.lt R (by simp [ringX])).2
  clear h hr h0
  obtain ⟨A, cs, cap0, cont⟩ := r
  simp only at HOWN HR H0
  have HA3 := Lib.hid (hp_old (o := .cells #[.slice none 0 0, .bool false] 50) (hp_new (W := w) (o := .cells #[.slice A cs.length cap0, .bool cont] 50) rfl))
  have HA4 := Lib.hid (hp_new (W := w.alloc (.cells #[.slice A cs.length cap0, .bool cont] 50)) (b := w.heap.size + 1) (o := .cells #[.slice none 0 0, .bool false] 50) (by simp))
  have HAB := Lib.hid (below_allocs (below_allocs (Below.refl w.heap.size w) (.cells #[.slice A cs.length cap0, .bool cont] 50)) (.cells #[.slice none 0 0, .bool false] 50))
  go_enter Tryz.func106, Tryz.ntmps106
  go_upto_region 4 with (first
    | (go_at_call 94; refine (HOWN.out _ (HR.out.below HAB.out)).mono ?_; rintro e w1 ⟨g1, cap1, rfl, hrc, hb1, hg1⟩; have HRC := Lib.hid hrc; have HB1 := Lib.hid (below_tail HAB.out hb1)
       have HC3 := Lib.hid ((hb1.block _ (lt_of_heap HA3.out)).trans HA3.out); have HC4 := Lib.hid ((hb1.block _ (lt_of_heap HA4.out)).trans HA4.out); obtain ⟨n0, n0f⟩ := at_ HC3.out 0 _ rfl; obtain ⟨n1, n1f⟩ := at_ HC3.out 1 _ rfl; clear hrc hb1)
    | fail)
  clear HA3 HA4 HAB hg1 n0 n0f n1 n1f
  have HB2 := Lib.hid (below_set (below_set HB1.out (Nat.le_refl _) (o := 0) (.slice (some ⟨g1, 0, none⟩) cs.length cap1)) (Nat.le_refl _) (o := 1) (.bool cont))
  have HN3 := Lib.hid (whole_set (whole_set (cs := [.slice A cs.length cap0, .bool cont]) HC3.out 0 (.slice (some ⟨g1, 0, none⟩) cs.length cap1) (cs' := [.slice (some ⟨g1, 0, none⟩) cs.length cap1, .bool cont]) rfl) 1 (.bool cont) (cs' := [.slice (some ⟨g1, 0, none⟩) cs.length cap1, .bool cont]) rfl)
  have HN4 := Lib.hid ((heap_other (i := 1) (v := .bool cont) (show w.heap.size + 1 ≠ w.heap.size by omega)).trans ((heap_other (i := 0) (v := .slice (some ⟨g1, 0, none⟩) cs.length cap1) (show w.heap.size + 1 ≠ w.heap.size by omega)).trans HC4.out))
  have HRC2 := Lib.hid (HRC.out.mod (mod_set2 (X := [w.heap.size]) (b := w.heap.size) (o := 0) (u := .slice (some ⟨g1, 0, none⟩) cs.length cap1) (v := .bool cont) (Mod.refl _ _) (.inl (by simp))) (fun b hb cs' f he => by
    rw [List.mem_singleton.1 hb, HC3.out] at he
    injection he with he
    injection he with _ ht
    exact absurd ht (by decide)))
  generalize World.setCell _ _ _ = W2 at HB2 HN3 HN4 HRC2 ⊢
  clear HB1 HC3 HC4 HRC HOWN HR
  have HO2 := Lib.hid (H.out.below HB2.out)
  have x1 := (at_ HO2.out.blk 1 _ rfl).1
  have hNR : w.heap.size ≠ R := by omega
  have hNR4 : w.heap.size + 1 ≠ R := by omega
  have hwg : IntKind.u64.wrap (gone + 1) = (gone + 1) % 18446744073709551616 := IntKind.wrap_u64 _
  have hnr : n ≤ 100000 := by have := H.out.hn; have := H.out.hm; have := H.out.hroom; omega
  have hmr : SL.length ≤ 100000 := by have := H.out.hm; have := H.out.hroom; omega
  by_cases hr0 : room = 0
  · subst hr0
    have hn0 : n = 0 := by have := H.out.hn; have := H.out.hm; omega
    subst hn0
    obtain ⟨z4, z4f⟩ := at_ HO2.out.blk 4 _ rfl
    go_upto_region 6 with fail
    have HK := Lib.hid (whole_set (cs := [vl, .int .i64 (0 : Nat), .int .i64 first, .int .i64 (0 : Nat), .int .u64 gone]) HO2.out.blk 4 (.int .u64 ((gone + 1) % 18446744073709551616)) (cs' := [vl, .int .i64 (0 : Nat), .int .i64 first, .int .i64 (0 : Nat), .int .u64 ((gone + 1) % 18446744073709551616)]) rfl)
    have HM := Lib.hid (((Mod.of_below (X := ringX R vl) HB2.out).setCell (a := ⟨R, 4, none⟩) (.inl (by simp [ringX])) (.int .u64 ((gone + 1) % 18446744073709551616))))
    have HO3 := Lib.hid (owns_mod HO2.out.own ((Mod.refl [R] W2).setCell (a := ⟨R, 4, none⟩) (.inl (by simp)) (.int .u64 ((gone + 1) % 18446744073709551616))) (fun x hx => by have := H.out.ne hx; simpa using this))
    have HP3 := Lib.hid ((heap_other (i := 4) (v := .int .u64 ((gone + 1) % 18446744073709551616)) hNR).trans HN3.out)
    have HP4 := Lib.hid ((heap_other (i := 4) (v := .int .u64 ((gone + 1) % 18446744073709551616)) hNR4).trans HN4.out)
    clear z4 z4f x1
    generalize World.setCell _ _ _ = W3 at HK HM HO3 HP3 HP4 ⊢
    obtain ⟨a0, -⟩ := whole_at HP3.out 0 _ rfl
    obtain ⟨a1, -⟩ := whole_at HP3.out 1 _ rfl
    obtain ⟨b0, b0f⟩ := at_ HP4.out 0 _ rfl
    obtain ⟨b1, b1f⟩ := at_ HP4.out 1 _ rfl
    go_wp2
    have hset := set_two (u' := .slice (some ⟨g1, 0, none⟩) cs.length cap1) (v' := .bool cont) ⟨b0, b0f⟩ ⟨b1, b1f⟩
    have hM2 : Mod [w.heap.size + 1] W3 ((W3.setCell ⟨w.heap.size + 1, 0, none⟩ (.slice (some ⟨g1, 0, none⟩) cs.length cap1)).setCell ⟨w.heap.size + 1, 1, none⟩ (.bool cont)) := mod_set2 (Mod.refl _ _) (.inl (by simp))
    refine bodyPost_ret (ret_row2 rfl _ _ (w.heap.size + 1) _ _ _ rfl rfl hset.1.1 hset.2.1) rfl ⟨⟨some ⟨g1, 0, none⟩, cs, cap1, cont⟩, rfl, vl, SL, first, 0, H.out.reblk ((hM2.block R (by have := HM.out.size; omega) (by simp; omega)).trans HK.out) (owns_mod HO3.out hM2 (fun x hx => by have := (H.out.own.lt x hx).2; simp; omega)) H.out.hn H.out.hm H.out.hf (fun r hr => by cases hr), rfl, HM.out.trans hM2 (fun x hx => by rw [List.mem_singleton.1 hx]; exact .inr (by omega)), fun g hg => .inl hg⟩
  have hr0I : ((room : Int) == 0) = false := by simp; omega
  have x3 : W2.cell? ⟨R, 3, none⟩ = some (.int .i64 n) := (at_ HO2.out.blk 3 _ rfl).1
  have x1' : W2.cell? ⟨R, 1, none⟩ = some (.int .i64 room) := x1
  clear x1
  obtain ⟨W3, hW3⟩ : ∃ W3, W2.alloc (.cells #[.slice none 0 0, .bool false] 50) = W3 := ⟨_, rfl⟩
  have hb3 : Below W2.heap.size W2 W3 := by rw [← hW3]; exact below_allocs (Below.refl _ _) _
  have HN6 := Lib.hid (show W3.heap[W2.heap.size]? = some (.cells #[.slice none 0 0, .bool false] 50 (0, 0)) from by rw [← hW3]; exact hp_new rfl)
  have HBW3 := Lib.hid (below_tail HB2.out hb3)
  have HO3 := Lib.hid (HO2.out.below hb3)
  have HP3 := Lib.hid ((hb3.block _ (lt_of_heap HN3.out)).trans HN3.out)
  have HP4 := Lib.hid ((hb3.block _ (lt_of_heap HN4.out)).trans HN4.out)
  have HRC3 := Lib.hid (HRC2.out.below hb3)
  have x31 := holda hb3 x1'
  have x33 := holda hb3 x3
  have hN4lt : w.heap.size + 1 < W3.heap.size := lt_of_heap HP4.out
  have hN6lt : W2.heap.size < W3.heap.size := lt_of_heap HN6.out
  have hN64 : w.heap.size + 1 < W2.heap.size := lt_of_heap HN4.out
  clear hb3 HN3 HN4 HRC2 HO2
  generalize hN6e : W2.heap.size = N6 at HN6 hN6lt hN64
  by_cases hfull : n = room
  · have hfullI : ((n : Int) == (room : Int)) = true := by simp; omega
    have hmfull : SL.length = room := by have := H.out.hn; have := H.out.hm; omega
    have hn0 : 0 < n := by omega
    have HF := Lib.hid hfull
    have hN6V : N6 ∉ ringX R vl := fun hx => by have := H.out.lt N6 hx; omega
    clear hfull
    go_upto_region 8 with fail
    clear hW3 x3 x1'
    refine wp_region_u 9 (fun w2 => Below W3.heap.size W3 w2 ∧ w2.cell? ⟨R, 3, none⟩ = some (.int .i64 n) ∧ w2.cell? ⟨R, 1, none⟩ = some (.int .i64 room)) (by kernel_rfl) (by kernel_rfl) ?_ ?_
    · exact ⟨(Below.refl _ _).drew, x33, x31⟩
    simp only [List.take_succ_cons, List.take_zero, List.drop_succ_cons, List.drop_zero]
    repeat (first
      | (refine seqU_skip (by rfl) ?_; simp only [Act.put, List.setIfInBounds_toArray, List.set_cons_zero, List.set_cons_succ])
      | (refine seqU_val ?_ (by rfl) ?_ ?_; rotate_left; · (intro w' hS; obtain ⟨_, _, _⟩ := hS; go_simp; first | done | with_reducible rfl)
         simp only [Act.put, List.setIfInBounds_toArray, List.set_cons_zero, List.set_cons_succ]))
    refine seqU_nil (fun w' hS => ?_)
    have HBW := Lib.hid (below_tail HBW3.out hS.1)
    have HBS := Lib.hid hS.1.size
    have HO4 := Lib.hid (HO3.out.below hS.1)
    have HQ3 := Lib.hid ((hS.1.block _ (lt_of_heap HP3.out)).trans HP3.out)
    have HQ4 := Lib.hid ((hS.1.block _ (lt_of_heap HP4.out)).trans HP4.out)
    have HQ6 := Lib.hid ((hS.1.block _ (lt_of_heap HN6.out)).trans HN6.out)
    have HRC4 := Lib.hid (HRC3.out.below hS.1)
    clear hS x33 x31
    have HDR := Lib.hid (rdrop_any HO4.out hn0 hg0)
    go_upto_region 11 with (go_at_call 139; refine HDR.out.mono ?_; rintro e w5 ⟨⟨r6, rfl⟩, ho5, hm5⟩; have HO5' := Lib.hid ho5; have HM5' := Lib.hid hm5
                            have HT6 := Lib.hid ((hm5.block _ (lt_of_heap HQ6.out) hN6V).trans HQ6.out); obtain ⟨t60, t60f⟩ := at_ HT6.out 0 _ rfl; obtain ⟨t61, t61f⟩ := at_ HT6.out 1 _ rfl; clear ho5 hm5)
    clear t60 t60f t61 t61f
    have HT6' := Lib.hid (whole_set (whole_set (cs := [.slice none 0 0, .bool false]) HT6.out 0 (.slice r6.A r6.cs.length r6.cap) (cs' := [.slice r6.A r6.cs.length r6.cap, .bool false]) rfl) 1 (.bool r6.cont) (cs' := [.slice r6.A r6.cs.length r6.cap, .bool r6.cont]) rfl)
    have HS6 := Lib.hid (mod_set2 (X := [N6]) (b := N6) (o := 0) (u := .slice r6.A r6.cs.length r6.cap) (v := .bool r6.cont) (Mod.refl _ w5) (.inl (by simp)))
    have HV5 : w.heap.size + 1 ∉ ringX R vl := fun hx => by have := H.out.lt _ hx; omega
    have HV3 : w.heap.size ∉ ringX R vl := fun hx => by have := H.out.lt _ hx; omega
    have HU3 := Lib.hid ((HM5'.out.block _ (lt_of_heap HQ3.out) HV3).trans HQ3.out)
    have HU4 := Lib.hid ((HM5'.out.block _ (lt_of_heap HQ4.out) HV5).trans HQ4.out)
    have HU3' := Lib.hid ((HS6.out.block _ (lt_of_heap HU3.out) (by simp; omega)).trans HU3.out)
    have HU4' := Lib.hid ((HS6.out.block _ (lt_of_heap HU4.out) (by simp; omega)).trans HU4.out)
    have hNC6 : NoCel w5 [N6] := fun b hb cs' f he => by
      rw [List.mem_singleton.1 hb, HT6.out] at he
      injection he with he
      injection he with _ ht
      exact absurd ht (by decide)
    have HO6' := Lib.hid (HO5'.out.mod HS6.out hNC6 (fun x hx hX => by rw [List.mem_singleton.1 hX] at hx; exact hN6V hx))
    have HRC6 := Lib.hid ((HRC4.out.mod HM5'.out HO4.out.nocel).mod HS6.out hNC6)
    have HM6 := Lib.hid (((Mod.of_below (X := ringX R vl) HBW.out).trans HM5'.out (fun x hx => .inl hx)).trans HS6.out (fun x hx => by rw [List.mem_singleton.1 hx]; exact .inr (by omega)))
    have hs6 : W3.heap.size ≤ ((w5.setCell ⟨N6, 0, none⟩ (.slice r6.A r6.cs.length r6.cap)).setCell ⟨N6, 1, none⟩ (.bool r6.cont)).heap.size := Nat.le_trans HBS.out (Nat.le_trans HM5'.out.size HS6.out.size)
    clear HT6 HU3 HU4 HRC4 HQ3 HQ4 HQ6 HM5' HO5' hNC6
    generalize World.setCell _ _ _ = Wc at HT6' HS6 HU3' HU4' HO6' HRC6 HM6 hs6 ⊢
    have hnS := H.out.hn
    have hfS : first < SL.length := by
      rcases H.out.hf with h | ⟨-, h⟩
      · exact h
      · omega
    obtain ⟨gv, cv, hgv⟩ := own_form HO6'.out.own (by rw [List.length_set]; omega)
    obtain ⟨SL5, first5, n5, g5, c5, r6, HO5, HIST, HP6, hn5, hg5p, hlt5⟩ : ∃ (SL5 : List Rh) (first5 n5 g5 c5 : Nat) (r6 : Rh), Hid (RgO base Wc R (.slice (some ⟨g5, 0, none⟩) SL5.length c5) SL5 room first5 n5 ((gone + 1) % 18446744073709551616)) ∧ Hid ((histL SL5 first5 n5).map roOf = ((histL SL first n).map roOf).drop 1) ∧ Hid (Wc.heap[N6]? = some (.cells [.slice r6.A r6.cs.length r6.cap, .bool r6.cont].toArray 50 (0, 0))) ∧ n5 < SL5.length ∧ (vl.ownBlock = some g5 ∨ W3.heap.size ≤ g5) ∧ W3.heap.size ≤ Wc.heap.size :=
      ⟨_, _, _, gv, cv, r6, Lib.hid (by have := HO6'.out; rw [hgv] at this; exact this), Lib.hid (by rw [histL_drop (by omega) (by omega) hn0, List.map_drop]), HT6', by have := HF.out; rw [List.length_set]; omega, .inl (by rw [hgv]; rfl), hs6⟩
    have HP3 := HU3'
    have HP4 := HU4'
    have HRC5 := HRC6
    have HM5 := HM6
    clear hgv HU3' HU4' HRC6 HM6 HO6' HT6' HS6 HDR
    have hg5 : vl.ownBlock = some g5 ∨ w.heap.size ≤ g5 := hg5p.imp id (fun h => by omega)
    have hN4X : w.heap.size + 1 ∉ ringX R (.slice (some ⟨g5, 0, none⟩) SL5.length c5) := fun hx => by
      rcases List.mem_cons.1 hx with h | h
      · exact hNR4 h
      · have e : w.heap.size + 1 = g5 := by simpa [Value.ownBlock] using h
        rcases hg5p with h | h
        · have := (H.out.own.lt g5 h).2; omega
        · omega
    have hN6X : N6 ∉ ringX R (.slice (some ⟨g5, 0, none⟩) SL5.length c5) := fun hx => by
      rcases List.mem_cons.1 hx with h | h
      · omega
      · have e : N6 = g5 := by simpa [Value.ownBlock] using h
        rcases hg5p with h | h
        · have := (H.out.own.lt g5 h).2; omega
        · omega
    have hl5' : SL5.length ≤ 100000 := by have := HO5.out.hm; have := HO5.out.hroom; omega
    have yy0 : Wc.cell? ⟨R, 0, none⟩ = some (.slice (some ⟨g5, 0, none⟩) SL5.length c5) := (at_ HO5.out.blk 0 _ rfl).1
    have yy3 : Wc.cell? ⟨R, 3, none⟩ = some (.int .i64 n5) := (at_ HO5.out.blk 3 _ rfl).1
    have hne5 : ((n5 : Int) == (SL5.length : Int)) = false := by simp; omega
    refine wp_region_u 9 (fun w2 => Below Wc.heap.size Wc w2 ∧ w2.cell? ⟨R, 3, none⟩ = some (.int .i64 n5) ∧ w2.cell? ⟨R, 0, none⟩ = some (.slice (some ⟨g5, 0, none⟩) SL5.length c5)) (by kernel_rfl) (by kernel_rfl) ?_ ?_
    · exact ⟨(Below.refl _ _).drew, yy3, yy0⟩
    simp only [List.take_succ_cons, List.take_zero, List.drop_succ_cons, List.drop_zero]
    repeat (first
      | (refine seqU_skip (by rfl) ?_; simp only [Act.put, List.setIfInBounds_toArray, List.set_cons_zero, List.set_cons_succ])
      | (refine seqU_val ?_ (by rfl) ?_ ?_; rotate_left; · (intro w' hS; obtain ⟨_, _, _⟩ := hS; go_simp; first | done | with_reducible rfl)
         simp only [Act.put, List.setIfInBounds_toArray, List.set_cons_zero, List.set_cons_succ]))
    refine seqU_nil (fun w' hS => ?_)
    have HO5 := Lib.hid (HO5.out.below hS.1)
    have HP3 := Lib.hid ((hS.1.block _ (lt_of_heap HP3.out)).trans HP3.out)
    have HP4 := Lib.hid ((hS.1.block _ (lt_of_heap HP4.out)).trans HP4.out)
    have HP6 := Lib.hid ((hS.1.block _ (lt_of_heap HP6.out)).trans HP6.out)
    have HRC5 := Lib.hid (HRC5.out.below hS.1)
    have HM5 := Lib.hid (HM5.out.then_below hS.1)
    clear hS yy0 yy3
    rename_i Wc9
    go_upto_region 13 with fail
    have hfull := HF.out
    obtain ⟨k, hk⟩ : ∃ k, slotOf SL5.length first5 n5 = k := ⟨_, rfl⟩
    have hf5 : first5 < SL5.length := by
      rcases HO5.out.hf with hf | ⟨-, hf⟩
      · exact hf
      · omega
    have hkl : k < SL5.length := by rw [← hk]; exact slotOf_lt hf5 hn5
    have hgR5 : g5 ≠ R := HO5.out.ne rfl
    have hl5 : SL5.length ≤ 100000 := by have := HO5.out.hm; have := HO5.out.hroom; omega
    obtain ⟨zr, hzr⟩ : ∃ zr, SL5[k]? = some zr := ⟨_, List.getElem?_eq_getElem hkl⟩
    have y0 : w'.cell? ⟨R, 0, none⟩ = some (.slice (some ⟨g5, 0, none⟩) SL5.length c5) := (at_ HO5.out.blk 0 _ rfl).1
    have y2 : w'.cell? ⟨R, 2, none⟩ = some (.int .i64 first5) := (at_ HO5.out.blk 2 _ rfl).1
    have y3 : w'.cell? ⟨R, 3, none⟩ = some (.int .i64 n5) := (at_ HO5.out.blk 3 _ rfl).1
    obtain ⟨p0, -⟩ := whole_at HP3.out 0 _ rfl
    obtain ⟨p1, -⟩ := whole_at HP3.out 1 _ rfl
    have hkI : (k : Int) < (SL5.length : Int) := by omega
    obtain ⟨n6, hn6⟩ : ∃ n6 : Nat, n6 = n5 + 1 := ⟨_, rfl⟩
    have hcn5 : (n5 : Int) + 1 = (n6 : Int) := by omega
    have hwn6 : IntKind.i64.wrap (n6 : Int) = (n6 : Int) := IntWalk.i64_in _ (by omega)
    have HN6' := Lib.hid hn6
    clear hn6
    refine wp_region_u 12 (fun w2 => Below w'.heap.size w' w2 ∧ w2.cell? ⟨R, 0, none⟩ = some (.slice (some ⟨g5, 0, none⟩) SL5.length c5) ∧ w2.cell? ⟨R, 3, none⟩ = some (.int .i64 n5) ∧ w2.cell? ⟨w.heap.size, 0, none⟩ = some (.slice (some ⟨g1, 0, none⟩) cs.length cap1) ∧ w2.cell? ⟨w.heap.size, 1, none⟩ = some (.bool cont)) (by kernel_rfl) (by kernel_rfl) ?_ ?_
    · exact ⟨(Below.refl _ _).drew, y0, y3, p0, p1⟩
    simp only [List.take_succ_cons, List.take_zero, List.drop_succ_cons, List.drop_zero]
    repeat (first
      | (refine seqU_skip (by rfl) ?_; simp only [Act.put, List.setIfInBounds_toArray, List.set_cons_zero, List.set_cons_succ])
      | (refine seqU_call 95 #[.pointer (some ⟨R, 0, none⟩), .int .i64 n5] (.int .i64 k) (by rfl) ?_ (fun w2 hS => (slot_raw hS.2.1 ((Mod.of_below (X := []) hS.1).cell (by simp) y2) hl5 (by omega) n5 (by omega)).mono (fun e w3 h => ⟨by rw [← hk]; exact h.1, h.2 ▸ hS⟩)) ?_; (focus (intro w2; go_simp; done)); simp only [Act.put, List.setIfInBounds_toArray, List.set_cons_zero, List.set_cons_succ])
      | (refine seqU_val ?_ (by rfl) ?_ ?_; rotate_left; · (intro w' hS; obtain ⟨_, _, _, _, _⟩ := hS; go_simp; first | done | with_reducible rfl)
         simp only [Act.put, List.setIfInBounds_toArray, List.set_cons_zero, List.set_cons_succ]))
    refine seqU_nil (fun w' hS => ?_)
    have HB6 := Lib.hid hS.1
    have hO6 := HO5.out.below hS.1
    obtain ⟨⟨q0, q0f⟩, q1, q1f⟩ := owns_row hO6.own hzr
    have PU := hO6.pushed hn5 ⟨some ⟨g1, 0, none⟩, cs, cap1, cont⟩ (HRC5.out.below hS.1) H0.out hgR5 k hk
    rw [← HN6'.out] at PU
    have PU1 := Lib.hid PU.1
    have PU2 := Lib.hid PU.2
    have HQ3 := Lib.hid ((hS.1.block _ (lt_of_heap HP3.out)).trans HP3.out)
    have HQ4 := Lib.hid ((hS.1.block _ (lt_of_heap HP4.out)).trans HP4.out)
    have HQ6 := Lib.hid ((hS.1.block _ (lt_of_heap HP6.out)).trans HP6.out)
    obtain ⟨z3, z3f⟩ := at_ hO6.blk 3 _ rfl
    clear hS y0 y2 y3 p0 p1 PU hO6
    go_upto_region 15 with fail
    simp only at PU1 PU2
    have HH := Lib.hid (histL_push hf5 hn5 ⟨some ⟨g1, 0, none⟩, cs, cap1, cont⟩)
    rw [hk, ← HN6'.out] at HH
    have hX5 : ∀ x ∈ ringX R (.slice (some ⟨g5, 0, none⟩) SL5.length c5), x ∈ ringX R vl ∨ w.heap.size ≤ x := fun x hx => by
      rcases List.mem_cons.1 hx with rfl | hx
      · exact .inl (by simp [ringX])
      · have e : x = g5 := by simpa [Value.ownBlock] using hx
        subst e
        rcases hg5 with h | h
        · exact .inl (by simp [ringX, h])
        · exact .inr h
    have HM7 := Lib.hid ((HM5.out.then_below HB6.out).trans PU2.out hX5)
    have HQQ4 := Lib.hid ((PU2.out.block _ (lt_of_heap HQ4.out) hN4X).trans HQ4.out)
    have HQQ6 := Lib.hid ((PU2.out.block _ (lt_of_heap HQ6.out) hN6X).trans HQ6.out)
    have HRl7 := (PU1.out.lt R (by simp [ringX])).2
    clear q0 q0f q1 q1f z3 z3f PU2
    generalize World.setCell _ _ _ = W7 at PU1 HM7 HQQ4 HQQ6 HRl7 ⊢
    obtain ⟨a0, -⟩ := whole_at HQQ6.out 0 _ rfl
    obtain ⟨a1, -⟩ := whole_at HQQ6.out 1 _ rfl
    obtain ⟨b0, b0f⟩ := at_ HQQ4.out 0 _ rfl
    obtain ⟨b1, b1f⟩ := at_ HQQ4.out 1 _ rfl
    go_wp2
    have hset := set_two (u' := .slice r6.A r6.cs.length r6.cap) (v' := .bool r6.cont) ⟨b0, b0f⟩ ⟨b1, b1f⟩
    have hM2 : Mod [w.heap.size + 1] W7 ((W7.setCell ⟨w.heap.size + 1, 0, none⟩ (.slice r6.A r6.cs.length r6.cap)).setCell ⟨w.heap.size + 1, 1, none⟩ (.bool r6.cont)) := mod_set2 (Mod.refl _ _) (.inl (by simp))
    refine bodyPost_ret (ret_row2 rfl _ _ (w.heap.size + 1) _ _ _ rfl rfl hset.1.1 hset.2.1) rfl ⟨r6, by rw [decide_eq_true hfull]; rfl, .slice (some ⟨g5, 0, none⟩) SL5.length c5, SL5.set k ⟨some ⟨g1, 0, none⟩, cs, cap1, cont⟩, first5, n6, ?_, ?_, HM7.out.trans hM2 (fun x hx => by rw [List.mem_singleton.1 hx]; exact .inr (by omega)), fun x hx => by simp [Value.ownBlock] at hx; subst hx; exact hg5⟩
    · have h1 := PU1.out.mod hM2 (fun b hb cs' f he => by
        rw [List.mem_singleton.1 hb, HQQ4.out] at he
        injection he with he
        injection he with _ ht
        exact absurd ht (by decide)) (fun x hx hX => by rw [List.mem_singleton.1 hX] at hx; exact hN4X hx)
      rw [if_pos hfull]
      exact h1
    · rw [HH.out, List.map_append, HIST.out, if_neg hr0]
      rw [if_pos hfull]; rfl
  have hfullI : ((n : Int) == (room : Int)) = false := by simp; omega
  have HF := Lib.hid hfull
  clear hfull
  go_upto_region 8 with fail
  clear hW3 x3 x1'
  refine wp_region_u 9 (fun w2 => Below W3.heap.size W3 w2 ∧ w2.cell? ⟨R, 3, none⟩ = some (.int .i64 n) ∧ w2.cell? ⟨R, 1, none⟩ = some (.int .i64 room)) (by kernel_rfl) (by kernel_rfl) ?_ ?_
  · exact ⟨(Below.refl _ _).drew, x33, x31⟩
  simp only [List.take_succ_cons, List.take_zero, List.drop_succ_cons, List.drop_zero]
  repeat (first
    | (refine seqU_skip (by rfl) ?_; simp only [Act.put, List.setIfInBounds_toArray, List.set_cons_zero, List.set_cons_succ])
    | (refine seqU_val ?_ (by rfl) ?_ ?_; rotate_left; · (intro w' hS; obtain ⟨_, _, _⟩ := hS; go_simp; first | done | with_reducible rfl)
       simp only [Act.put, List.setIfInBounds_toArray, List.set_cons_zero, List.set_cons_succ]))
  refine seqU_nil (fun w' hS => ?_)
  have HBW := Lib.hid (below_tail HBW3.out hS.1)
  have HBS := Lib.hid hS.1.size
  have HO4 := Lib.hid (HO3.out.below hS.1)
  have HQ3 := Lib.hid ((hS.1.block _ (lt_of_heap HP3.out)).trans HP3.out)
  have HQ4 := Lib.hid ((hS.1.block _ (lt_of_heap HP4.out)).trans HP4.out)
  have HQ6 := Lib.hid ((hS.1.block _ (lt_of_heap HN6.out)).trans HN6.out)
  have HRC4 := Lib.hid (HRC3.out.below hS.1)
  clear hS x33 x31
  obtain ⟨vA, vc, hvA⟩ := row_form H.out.own
  have y0 : w'.cell? ⟨R, 0, none⟩ = some (.slice vA SL.length vc) := by rw [← hvA]; exact (at_ HO4.out.blk 0 _ rfl).1
  have y3 : w'.cell? ⟨R, 3, none⟩ = some (.int .i64 n) := (at_ HO4.out.blk 3 _ rfl).1
  clear hvA
  by_cases hgr : n = SL.length
  · have hgrI : ((n : Int) == (SL.length : Int)) = true := by simp; omega
    have HGR := Lib.hid hgr
    clear hgr
    go_upto_region 11 with fail
    refine wp_region_u 9 (fun w2 => Below w'.heap.size w' w2 ∧ w2.cell? ⟨R, 3, none⟩ = some (.int .i64 n) ∧ w2.cell? ⟨R, 0, none⟩ = some (.slice vA SL.length vc)) (by kernel_rfl) (by kernel_rfl) ?_ ?_
    · exact ⟨(Below.refl _ _).drew, y3, y0⟩
    simp only [List.take_succ_cons, List.take_zero, List.drop_succ_cons, List.drop_zero]
    repeat (first
      | (refine seqU_skip (by rfl) ?_; simp only [Act.put, List.setIfInBounds_toArray, List.set_cons_zero, List.set_cons_succ])
      | (refine seqU_val ?_ (by rfl) ?_ ?_; rotate_left; · (intro w' hS; obtain ⟨_, _, _⟩ := hS; go_simp; first | done | with_reducible rfl)
         simp only [Act.put, List.setIfInBounds_toArray, List.set_cons_zero, List.set_cons_succ]))
    refine seqU_nil (fun w' hS => ?_)
    have HBW2 := Lib.hid (below_tail HBW.out hS.1)
    have HBS2 := Lib.hid (Nat.le_trans HBS.out hS.1.size)
    have HO5' := Lib.hid (HO4.out.below hS.1)
    have HP3' := Lib.hid ((hS.1.block _ (lt_of_heap HQ3.out)).trans HQ3.out)
    have HP4' := Lib.hid ((hS.1.block _ (lt_of_heap HQ4.out)).trans HQ4.out)
    have HP6' := Lib.hid ((hS.1.block _ (lt_of_heap HQ6.out)).trans HQ6.out)
    have HRC5' := Lib.hid (HRC4.out.below hS.1)
    clear hS y0 y3
    have HGW := Lib.hid (rgrow_any HO5'.out HGR.out (by have := H.out.hn; have := H.out.hm; have := HGR.out; have := HF.out; omega) (Nat.le_trans hbw HBW2.out.size))
    go_upto_region 13 with (go_at_call 140; refine HGW.out.mono ?_; rintro e w5 ⟨rfl, vl5, m5, hm5, ho5, hmod5, hown5⟩; have HO6' := Lib.hid ho5; have HMD := Lib.hid hmod5; have HOW := Lib.hid hown5; clear ho5 hmod5 hown5)
    have hRn : w.heap.size ∉ [R] := by simp; omega
    have hRn1 : w.heap.size + 1 ∉ [R] := by simp; omega
    have hRn6 : N6 ∉ [R] := by simp; omega
    have HP3 := Lib.hid ((HMD.out.block _ (lt_of_heap HP3'.out) hRn).trans HP3'.out)
    have HP4 := Lib.hid ((HMD.out.block _ (lt_of_heap HP4'.out) hRn1).trans HP4'.out)
    have HP6z := Lib.hid ((HMD.out.block _ (lt_of_heap HP6'.out) hRn6).trans HP6'.out)
    have HRC5 := Lib.hid (HRC5'.out.mod HMD.out (fun b hb cs' f he => HO5'.out.nocel b (by rw [List.mem_singleton.1 hb]; simp [ringX]) cs' f he))
    have HM5 := Lib.hid ((Mod.of_below (X := ringX R vl) HBW2.out).trans HMD.out (fun x hx => .inl (by rw [List.mem_singleton.1 hx]; simp [ringX])))
    have hs5 : W3.heap.size ≤ w5.heap.size := Nat.le_trans HBS2.out HMD.out.size
    obtain ⟨gv, cv, hgv⟩ := own_form HO6'.out.own (by rw [List.length_append, histL_len]; simp; omega)
    obtain ⟨SL5, first5, n5, g5, c5, r6, HO5, HIST, HP6, hn5, hg5p, hlt5⟩ : ∃ (SL5 : List Rh) (first5 n5 g5 c5 : Nat) (r6 : Rh), Hid (RgO base w5 R (.slice (some ⟨g5, 0, none⟩) SL5.length c5) SL5 room first5 n5 (gone)) ∧ Hid ((histL SL5 first5 n5).map roOf = (histL SL first n).map roOf) ∧ Hid (w5.heap[N6]? = some (.cells [.slice r6.A r6.cs.length r6.cap, .bool r6.cont].toArray 50 (0, 0))) ∧ n5 < SL5.length ∧ (vl.ownBlock = some g5 ∨ W3.heap.size ≤ g5) ∧ W3.heap.size ≤ w5.heap.size :=
      ⟨_, 0, n, gv, cv, zeroRh, Lib.hid (by have := HO6'.out; rw [hgv] at this; exact this), Lib.hid (by
        have := histL_grown (H := histL SL first n) (Z := List.replicate (m5 - n) zeroRh)
        rw [histL_len] at this
        rw [this]), HP6z, by rw [List.length_append, histL_len]; simp; omega, .inr (Nat.le_trans HBS2.out (HOW.out gv (by rw [hgv]; rfl))), hs5⟩
    clear hgv HO6' HP6z HGW HMD HOW HO5' HRC5' HP3' HP4' HP6' HQ3 HQ4 HQ6 HRC4
    have hfull := HF.out
    have hg5 : vl.ownBlock = some g5 ∨ w.heap.size ≤ g5 := hg5p.imp id (fun h => by omega)
    have hN4X : w.heap.size + 1 ∉ ringX R (.slice (some ⟨g5, 0, none⟩) SL5.length c5) := fun hx => by
      rcases List.mem_cons.1 hx with h | h
      · exact hNR4 h
      · have e : w.heap.size + 1 = g5 := by simpa [Value.ownBlock] using h
        rcases hg5p with h | h
        · have := (H.out.own.lt g5 h).2; omega
        · omega
    have hN6X : N6 ∉ ringX R (.slice (some ⟨g5, 0, none⟩) SL5.length c5) := fun hx => by
      rcases List.mem_cons.1 hx with h | h
      · omega
      · have e : N6 = g5 := by simpa [Value.ownBlock] using h
        rcases hg5p with h | h
        · have := (H.out.own.lt g5 h).2; omega
        · omega
    obtain ⟨k, hk⟩ : ∃ k, slotOf SL5.length first5 n5 = k := ⟨_, rfl⟩
    have hf5 : first5 < SL5.length := by
      rcases HO5.out.hf with hf | ⟨-, hf⟩
      · exact hf
      · omega
    have hkl : k < SL5.length := by rw [← hk]; exact slotOf_lt hf5 hn5
    have hgR5 : g5 ≠ R := HO5.out.ne rfl
    have hl5 : SL5.length ≤ 100000 := by have := HO5.out.hm; have := HO5.out.hroom; omega
    obtain ⟨zr, hzr⟩ : ∃ zr, SL5[k]? = some zr := ⟨_, List.getElem?_eq_getElem hkl⟩
    have y0 : w5.cell? ⟨R, 0, none⟩ = some (.slice (some ⟨g5, 0, none⟩) SL5.length c5) := (at_ HO5.out.blk 0 _ rfl).1
    have y2 : w5.cell? ⟨R, 2, none⟩ = some (.int .i64 first5) := (at_ HO5.out.blk 2 _ rfl).1
    have y3 : w5.cell? ⟨R, 3, none⟩ = some (.int .i64 n5) := (at_ HO5.out.blk 3 _ rfl).1
    obtain ⟨p0, -⟩ := whole_at HP3.out 0 _ rfl
    obtain ⟨p1, -⟩ := whole_at HP3.out 1 _ rfl
    have hkI : (k : Int) < (SL5.length : Int) := by omega
    obtain ⟨n6, hn6⟩ : ∃ n6 : Nat, n6 = n5 + 1 := ⟨_, rfl⟩
    have hcn5 : (n5 : Int) + 1 = (n6 : Int) := by omega
    have hwn6 : IntKind.i64.wrap (n6 : Int) = (n6 : Int) := IntWalk.i64_in _ (by omega)
    have HN6' := Lib.hid hn6
    clear hn6
    refine wp_region_u 12 (fun w2 => Below w5.heap.size w5 w2 ∧ w2.cell? ⟨R, 0, none⟩ = some (.slice (some ⟨g5, 0, none⟩) SL5.length c5) ∧ w2.cell? ⟨R, 3, none⟩ = some (.int .i64 n5) ∧ w2.cell? ⟨w.heap.size, 0, none⟩ = some (.slice (some ⟨g1, 0, none⟩) cs.length cap1) ∧ w2.cell? ⟨w.heap.size, 1, none⟩ = some (.bool cont)) (by kernel_rfl) (by kernel_rfl) ?_ ?_
    · exact ⟨(Below.refl _ _).drew, y0, y3, p0, p1⟩
    simp only [List.take_succ_cons, List.take_zero, List.drop_succ_cons, List.drop_zero]
    repeat (first
      | (refine seqU_skip (by rfl) ?_; simp only [Act.put, List.setIfInBounds_toArray, List.set_cons_zero, List.set_cons_succ])
      | (refine seqU_call 95 #[.pointer (some ⟨R, 0, none⟩), .int .i64 n5] (.int .i64 k) (by rfl) ?_ (fun w2 hS => (slot_raw hS.2.1 ((Mod.of_below (X := []) hS.1).cell (by simp) y2) hl5 (by omega) n5 (by omega)).mono (fun e w3 h => ⟨by rw [← hk]; exact h.1, h.2 ▸ hS⟩)) ?_; (focus (intro w2; go_simp; done)); simp only [Act.put, List.setIfInBounds_toArray, List.set_cons_zero, List.set_cons_succ])
      | (refine seqU_val ?_ (by rfl) ?_ ?_; rotate_left; · (intro w' hS; obtain ⟨_, _, _, _, _⟩ := hS; go_simp; first | done | with_reducible rfl)
         simp only [Act.put, List.setIfInBounds_toArray, List.set_cons_zero, List.set_cons_succ]))
    refine seqU_nil (fun w' hS => ?_)
    have HB6 := Lib.hid hS.1
    have hO6 := HO5.out.below hS.1
    obtain ⟨⟨q0, q0f⟩, q1, q1f⟩ := owns_row hO6.own hzr
    have PU := hO6.pushed hn5 ⟨some ⟨g1, 0, none⟩, cs, cap1, cont⟩ (HRC5.out.below hS.1) H0.out hgR5 k hk
    rw [← HN6'.out] at PU
    have PU1 := Lib.hid PU.1
    have PU2 := Lib.hid PU.2
    have HQ3 := Lib.hid ((hS.1.block _ (lt_of_heap HP3.out)).trans HP3.out)
    have HQ4 := Lib.hid ((hS.1.block _ (lt_of_heap HP4.out)).trans HP4.out)
    have HQ6 := Lib.hid ((hS.1.block _ (lt_of_heap HP6.out)).trans HP6.out)
    obtain ⟨z3, z3f⟩ := at_ hO6.blk 3 _ rfl
    clear hS y0 y2 y3 p0 p1 PU hO6
    go_upto_region 15 with fail
    simp only at PU1 PU2
    have HH := Lib.hid (histL_push hf5 hn5 ⟨some ⟨g1, 0, none⟩, cs, cap1, cont⟩)
    rw [hk, ← HN6'.out] at HH
    have hX5 : ∀ x ∈ ringX R (.slice (some ⟨g5, 0, none⟩) SL5.length c5), x ∈ ringX R vl ∨ w.heap.size ≤ x := fun x hx => by
      rcases List.mem_cons.1 hx with rfl | hx
      · exact .inl (by simp [ringX])
      · have e : x = g5 := by simpa [Value.ownBlock] using hx
        subst e
        rcases hg5 with h | h
        · exact .inl (by simp [ringX, h])
        · exact .inr h
    have HM7 := Lib.hid ((HM5.out.then_below HB6.out).trans PU2.out hX5)
    have HQQ4 := Lib.hid ((PU2.out.block _ (lt_of_heap HQ4.out) hN4X).trans HQ4.out)
    have HQQ6 := Lib.hid ((PU2.out.block _ (lt_of_heap HQ6.out) hN6X).trans HQ6.out)
    have HRl7 := (PU1.out.lt R (by simp [ringX])).2
    clear q0 q0f q1 q1f z3 z3f PU2
    generalize World.setCell _ _ _ = W7 at PU1 HM7 HQQ4 HQQ6 HRl7 ⊢
    obtain ⟨a0, -⟩ := whole_at HQQ6.out 0 _ rfl
    obtain ⟨a1, -⟩ := whole_at HQQ6.out 1 _ rfl
    obtain ⟨b0, b0f⟩ := at_ HQQ4.out 0 _ rfl
    obtain ⟨b1, b1f⟩ := at_ HQQ4.out 1 _ rfl
    go_wp2
    have hset := set_two (u' := .slice r6.A r6.cs.length r6.cap) (v' := .bool r6.cont) ⟨b0, b0f⟩ ⟨b1, b1f⟩
    have hM2 : Mod [w.heap.size + 1] W7 ((W7.setCell ⟨w.heap.size + 1, 0, none⟩ (.slice r6.A r6.cs.length r6.cap)).setCell ⟨w.heap.size + 1, 1, none⟩ (.bool r6.cont)) := mod_set2 (Mod.refl _ _) (.inl (by simp))
    refine bodyPost_ret (ret_row2 rfl _ _ (w.heap.size + 1) _ _ _ rfl rfl hset.1.1 hset.2.1) rfl ⟨r6, by rw [decide_eq_false hfull]; rfl, .slice (some ⟨g5, 0, none⟩) SL5.length c5, SL5.set k ⟨some ⟨g1, 0, none⟩, cs, cap1, cont⟩, first5, n6, ?_, ?_, HM7.out.trans hM2 (fun x hx => by rw [List.mem_singleton.1 hx]; exact .inr (by omega)), fun x hx => by simp [Value.ownBlock] at hx; subst hx; exact hg5⟩
    · have h1 := PU1.out.mod hM2 (fun b hb cs' f he => by
        rw [List.mem_singleton.1 hb, HQQ4.out] at he
        injection he with he
        injection he with _ ht
        exact absurd ht (by decide)) (fun x hx hX => by rw [List.mem_singleton.1 hX] at hx; exact hN4X hx)
      rw [if_neg hfull]
      exact h1
    · rw [HH.out, List.map_append, HIST.out, if_neg hr0]
      rw [if_neg hfull]; rfl
  · have hgrI : ((n : Int) == (SL.length : Int)) = false := by simp; omega
    have HGR := Lib.hid hgr
    clear hgr
    go_upto_region 11 with fail
    refine wp_region_u 9 (fun w2 => Below w'.heap.size w' w2 ∧ w2.cell? ⟨R, 3, none⟩ = some (.int .i64 n) ∧ w2.cell? ⟨R, 0, none⟩ = some (.slice vA SL.length vc)) (by kernel_rfl) (by kernel_rfl) ?_ ?_
    · exact ⟨(Below.refl _ _).drew, y3, y0⟩
    simp only [List.take_succ_cons, List.take_zero, List.drop_succ_cons, List.drop_zero]
    repeat (first
      | (refine seqU_skip (by rfl) ?_; simp only [Act.put, List.setIfInBounds_toArray, List.set_cons_zero, List.set_cons_succ])
      | (refine seqU_val ?_ (by rfl) ?_ ?_; rotate_left; · (intro w' hS; obtain ⟨_, _, _⟩ := hS; go_simp; first | done | with_reducible rfl)
         simp only [Act.put, List.setIfInBounds_toArray, List.set_cons_zero, List.set_cons_succ]))
    refine seqU_nil (fun w' hS => ?_)
    have HBW2 := Lib.hid (below_tail HBW.out hS.1)
    have hs5 := Nat.le_trans HBS.out hS.1.size
    have HO5' := Lib.hid (HO4.out.below hS.1)
    have HP3 := Lib.hid ((hS.1.block _ (lt_of_heap HQ3.out)).trans HQ3.out)
    have HP4 := Lib.hid ((hS.1.block _ (lt_of_heap HQ4.out)).trans HQ4.out)
    have HP6' := Lib.hid ((hS.1.block _ (lt_of_heap HQ6.out)).trans HQ6.out)
    have HRC5 := Lib.hid (HRC4.out.below hS.1)
    have HM5 := Lib.hid (Mod.of_below (X := ringX R vl) HBW2.out)
    clear hS y0 y3
    go_upto_region 13 with fail
    have hnlt : n < SL.length := by have := H.out.hn; have := HGR.out; omega
    obtain ⟨gv, cv, hgv⟩ := own_form HO5'.out.own (by omega)
    obtain ⟨SL5, first5, n5, g5, c5, r6, HO5, HIST, HP6, hn5, hg5p, hlt5⟩ : ∃ (SL5 : List Rh) (first5 n5 g5 c5 : Nat) (r6 : Rh), Hid (RgO base w' R (.slice (some ⟨g5, 0, none⟩) SL5.length c5) SL5 room first5 n5 (gone)) ∧ Hid ((histL SL5 first5 n5).map roOf = (histL SL first n).map roOf) ∧ Hid (w'.heap[N6]? = some (.cells [.slice r6.A r6.cs.length r6.cap, .bool r6.cont].toArray 50 (0, 0))) ∧ n5 < SL5.length ∧ (vl.ownBlock = some g5 ∨ W3.heap.size ≤ g5) ∧ W3.heap.size ≤ w'.heap.size :=
      ⟨SL, first, n, gv, cv, zeroRh, Lib.hid (by have := HO5'.out; rw [hgv] at this; exact this), Lib.hid rfl, HP6', hnlt, .inl (by rw [hgv]; rfl), hs5⟩
    clear hgv HO5' HP6' HQ3 HQ4 HQ6 HRC4 HO4
    have hfull := HF.out
    have hg5 : vl.ownBlock = some g5 ∨ w.heap.size ≤ g5 := hg5p.imp id (fun h => by omega)
    have hN4X : w.heap.size + 1 ∉ ringX R (.slice (some ⟨g5, 0, none⟩) SL5.length c5) := fun hx => by
      rcases List.mem_cons.1 hx with h | h
      · exact hNR4 h
      · have e : w.heap.size + 1 = g5 := by simpa [Value.ownBlock] using h
        rcases hg5p with h | h
        · have := (H.out.own.lt g5 h).2; omega
        · omega
    have hN6X : N6 ∉ ringX R (.slice (some ⟨g5, 0, none⟩) SL5.length c5) := fun hx => by
      rcases List.mem_cons.1 hx with h | h
      · omega
      · have e : N6 = g5 := by simpa [Value.ownBlock] using h
        rcases hg5p with h | h
        · have := (H.out.own.lt g5 h).2; omega
        · omega
    obtain ⟨k, hk⟩ : ∃ k, slotOf SL5.length first5 n5 = k := ⟨_, rfl⟩
    have hf5 : first5 < SL5.length := by
      rcases HO5.out.hf with hf | ⟨-, hf⟩
      · exact hf
      · omega
    have hkl : k < SL5.length := by rw [← hk]; exact slotOf_lt hf5 hn5
    have hgR5 : g5 ≠ R := HO5.out.ne rfl
    have hl5 : SL5.length ≤ 100000 := by have := HO5.out.hm; have := HO5.out.hroom; omega
    obtain ⟨zr, hzr⟩ : ∃ zr, SL5[k]? = some zr := ⟨_, List.getElem?_eq_getElem hkl⟩
    have y0 : w'.cell? ⟨R, 0, none⟩ = some (.slice (some ⟨g5, 0, none⟩) SL5.length c5) := (at_ HO5.out.blk 0 _ rfl).1
    have y2 : w'.cell? ⟨R, 2, none⟩ = some (.int .i64 first5) := (at_ HO5.out.blk 2 _ rfl).1
    have y3 : w'.cell? ⟨R, 3, none⟩ = some (.int .i64 n5) := (at_ HO5.out.blk 3 _ rfl).1
    obtain ⟨p0, -⟩ := whole_at HP3.out 0 _ rfl
    obtain ⟨p1, -⟩ := whole_at HP3.out 1 _ rfl
    have hkI : (k : Int) < (SL5.length : Int) := by omega
    obtain ⟨n6, hn6⟩ : ∃ n6 : Nat, n6 = n5 + 1 := ⟨_, rfl⟩
    have hcn5 : (n5 : Int) + 1 = (n6 : Int) := by omega
    have hwn6 : IntKind.i64.wrap (n6 : Int) = (n6 : Int) := IntWalk.i64_in _ (by omega)
    have HN6' := Lib.hid hn6
    clear hn6
    refine wp_region_u 12 (fun w2 => Below w'.heap.size w' w2 ∧ w2.cell? ⟨R, 0, none⟩ = some (.slice (some ⟨g5, 0, none⟩) SL5.length c5) ∧ w2.cell? ⟨R, 3, none⟩ = some (.int .i64 n5) ∧ w2.cell? ⟨w.heap.size, 0, none⟩ = some (.slice (some ⟨g1, 0, none⟩) cs.length cap1) ∧ w2.cell? ⟨w.heap.size, 1, none⟩ = some (.bool cont)) (by kernel_rfl) (by kernel_rfl) ?_ ?_
    · exact ⟨(Below.refl _ _).drew, y0, y3, p0, p1⟩
    simp only [List.take_succ_cons, List.take_zero, List.drop_succ_cons, List.drop_zero]
    repeat (first
      | (refine seqU_skip (by rfl) ?_; simp only [Act.put, List.setIfInBounds_toArray, List.set_cons_zero, List.set_cons_succ])
      | (refine seqU_call 95 #[.pointer (some ⟨R, 0, none⟩), .int .i64 n5] (.int .i64 k) (by rfl) ?_ (fun w2 hS => (slot_raw hS.2.1 ((Mod.of_below (X := []) hS.1).cell (by simp) y2) hl5 (by omega) n5 (by omega)).mono (fun e w3 h => ⟨by rw [← hk]; exact h.1, h.2 ▸ hS⟩)) ?_; (focus (intro w2; go_simp; done)); simp only [Act.put, List.setIfInBounds_toArray, List.set_cons_zero, List.set_cons_succ])
      | (refine seqU_val ?_ (by rfl) ?_ ?_; rotate_left; · (intro w' hS; obtain ⟨_, _, _, _, _⟩ := hS; go_simp; first | done | with_reducible rfl)
         simp only [Act.put, List.setIfInBounds_toArray, List.set_cons_zero, List.set_cons_succ]))
    refine seqU_nil (fun w' hS => ?_)
    have HB6 := Lib.hid hS.1
    have hO6 := HO5.out.below hS.1
    obtain ⟨⟨q0, q0f⟩, q1, q1f⟩ := owns_row hO6.own hzr
    have PU := hO6.pushed hn5 ⟨some ⟨g1, 0, none⟩, cs, cap1, cont⟩ (HRC5.out.below hS.1) H0.out hgR5 k hk
    rw [← HN6'.out] at PU
    have PU1 := Lib.hid PU.1
    have PU2 := Lib.hid PU.2
    have HQ3 := Lib.hid ((hS.1.block _ (lt_of_heap HP3.out)).trans HP3.out)
    have HQ4 := Lib.hid ((hS.1.block _ (lt_of_heap HP4.out)).trans HP4.out)
    have HQ6 := Lib.hid ((hS.1.block _ (lt_of_heap HP6.out)).trans HP6.out)
    obtain ⟨z3, z3f⟩ := at_ hO6.blk 3 _ rfl
    clear hS y0 y2 y3 p0 p1 PU hO6
    go_upto_region 15 with fail
    simp only at PU1 PU2
    have HH := Lib.hid (histL_push hf5 hn5 ⟨some ⟨g1, 0, none⟩, cs, cap1, cont⟩)
    rw [hk, ← HN6'.out] at HH
    have hX5 : ∀ x ∈ ringX R (.slice (some ⟨g5, 0, none⟩) SL5.length c5), x ∈ ringX R vl ∨ w.heap.size ≤ x := fun x hx => by
      rcases List.mem_cons.1 hx with rfl | hx
      · exact .inl (by simp [ringX])
      · have e : x = g5 := by simpa [Value.ownBlock] using hx
        subst e
        rcases hg5 with h | h
        · exact .inl (by simp [ringX, h])
        · exact .inr h
    have HM7 := Lib.hid ((HM5.out.then_below HB6.out).trans PU2.out hX5)
    have HQQ4 := Lib.hid ((PU2.out.block _ (lt_of_heap HQ4.out) hN4X).trans HQ4.out)
    have HQQ6 := Lib.hid ((PU2.out.block _ (lt_of_heap HQ6.out) hN6X).trans HQ6.out)
    have HRl7 := (PU1.out.lt R (by simp [ringX])).2
    clear q0 q0f q1 q1f z3 z3f PU2
    generalize World.setCell _ _ _ = W7 at PU1 HM7 HQQ4 HQQ6 HRl7 ⊢
    obtain ⟨a0, -⟩ := whole_at HQQ6.out 0 _ rfl
    obtain ⟨a1, -⟩ := whole_at HQQ6.out 1 _ rfl
    obtain ⟨b0, b0f⟩ := at_ HQQ4.out 0 _ rfl
    obtain ⟨b1, b1f⟩ := at_ HQQ4.out 1 _ rfl
    go_wp2
    have hset := set_two (u' := .slice r6.A r6.cs.length r6.cap) (v' := .bool r6.cont) ⟨b0, b0f⟩ ⟨b1, b1f⟩
    have hM2 : Mod [w.heap.size + 1] W7 ((W7.setCell ⟨w.heap.size + 1, 0, none⟩ (.slice r6.A r6.cs.length r6.cap)).setCell ⟨w.heap.size + 1, 1, none⟩ (.bool r6.cont)) := mod_set2 (Mod.refl _ _) (.inl (by simp))
    refine bodyPost_ret (ret_row2 rfl _ _ (w.heap.size + 1) _ _ _ rfl rfl hset.1.1 hset.2.1) rfl ⟨r6, by rw [decide_eq_false hfull]; rfl, .slice (some ⟨g5, 0, none⟩) SL5.length c5, SL5.set k ⟨some ⟨g1, 0, none⟩, cs, cap1, cont⟩, first5, n6, ?_, ?_, HM7.out.trans hM2 (fun x hx => by rw [List.mem_singleton.1 hx]; exact .inr (by omega)), fun x hx => by simp [Value.ownBlock] at hx; subst hx; exact hg5⟩
    · have h1 := PU1.out.mod hM2 (fun b hb cs' f he => by
        rw [List.mem_singleton.1 hb, HQQ4.out] at he
        injection he with he
        injection he with _ ht
        exact absurd ht (by decide)) (fun x hx hX => by rw [List.mem_singleton.1 hX] at hx; exact hN4X hx)
      rw [if_neg hfull]
      exact h1
    · rw [HH.out, List.map_append, HIST.out, if_neg hr0]
      rw [if_neg hfull]; rfl
end
end Go.Proofs.YtffdblmdelgkaaaGreat

namespace Go.RL
open Go
section
variable {P : Program} {ops : Array Oper} {md : Region.Mode} {I : World → Prop}
def upL (P : Program) (n : Nat) (dst : Option Tmp) (V : Value → World → Prop) : Result Next → Prop
  | .ok (.value u) w' => ∃ v, samePut n dst u v ∧ V v w'
  | .ok .skip w' => ∃ v, samePut n dst undef v ∧ V v w'
  | .ok (.enter f args) w' => Calls P f args w' fun e w'' => match e with
      | .returned u => ∃ v, samePut n dst u v ∧ V v w''
      | _ => False
  | .ok (.row row args) w' => Rows P row args w' fun u w'' => ∃ v, samePut n dst u v ∧ V v w''
  | _ => False
/-- From every world that meets S the operation yields a value and a world of V. -/
def StabL (P : Program) (ops : Array Oper) (S : World → Prop) (o : Oper) (V : Value → World → Prop) (a : Act) : Prop :=
  (Region.wanted o (yielded ops a.tmps) = true ∧ ∀ w, S w → upL P a.tmps.size o.dst V ((execOp a.eval o).run P w)) ∨
  (Region.wanted o (yielded ops a.tmps) = false ∧ ∀ w, S w → V undef w)
theorem StabL.of_same {S : World → Prop} {o : Oper} {V : Value → World → Prop} {a a' : Act} (hy : StabL P ops S o V a) (he : execOp a'.eval o = execOp a.eval o)
    (hw : Region.wanted o (yielded ops a'.tmps) = Region.wanted o (yielded ops a.tmps)) (hs : a'.tmps.size = a.tmps.size) : StabL P ops S o V a' := by
  unfold StabL at *
  rw [he, hw, hs]
  exact hy
theorem StabL.wpOp {S : World → Prop} {Q : Exit → Act → World → Prop} {i : Nat} {o : Oper} {V : Value → World → Prop} {a : Act} (hi : ops[i]? = some o) (hy : StabL P ops S o V a)
    {K : Act → World → Prop} {w : World} (hS : S w) (h : ∀ v w', V v w' → K (a.put o.dst v) w') : wpOp P ops Q i K a w := by
  unfold Go.wpOp
  simp only [hi]
  rcases hy with ⟨hw, hv⟩ | ⟨hw, hv⟩
  · simp only [hw, if_true, Oper.wp]
    refine .inl ?_
    have hv := hv w hS
    generalize (execOp a.eval o).run P w = r at *
    cases r with
    | ok n w' =>
      cases n <;> simp only [upL, Oper.upon] at hv ⊢
      case value u => obtain ⟨v, h1, h2⟩ := hv; rw [h1 a rfl]; exact h _ _ h2
      case skip => obtain ⟨v, h1, h2⟩ := hv; rw [h1 a rfl]; exact h _ _ h2
      case enter f args =>
        refine Calls.mono hv fun e w'' he => ?_
        cases e with
        | returned u => obtain ⟨v, h1, h2⟩ := he; simp only; rw [h1 a rfl]; exact h _ _ h2
        | panicked c => exact he.elim
        | outgrown => exact he.elim
      case row row args => exact Rows.mono hv fun u w'' he => (by obtain ⟨v, h1, h2⟩ := he; rw [h1 a rfl]; exact h _ _ h2)
    | halt x w' => exact hv.elim
  · simp only [hw, Bool.false_eq_true, if_false]; exact h _ _ (hv w hS)
/-- Yields v in every world of I, and leaves the world. -/
def Pure (P : Program) (ops : Array Oper) (I : World → Prop) (o : Oper) (v : Value) (a : Act) : Prop :=
  (Region.wanted o (yielded ops a.tmps) = true ∧ ∀ w, I w → (execOp a.eval o).run P w = .ok (.value v) w) ∨
  (Region.wanted o (yielded ops a.tmps) = false ∧ v = undef)
theorem Pure.of_same {o : Oper} {v : Value} {a a' : Act} (hy : Pure P ops I o v a) (he : execOp a'.eval o = execOp a.eval o)
    (hw : Region.wanted o (yielded ops a'.tmps) = Region.wanted o (yielded ops a.tmps)) : Pure P ops I o v a' := by
  unfold Pure at *
  rw [he, hw]
  exact hy
theorem Pure.stab {o : Oper} {v : Value} {a : Act} (hy : Pure P ops I o v a) (S : World → Prop) : StabL P ops (fun w => I w ∧ S w) o (fun u w => u = v ∧ I w ∧ S w) a := by
  rcases hy with ⟨hw, hv⟩ | ⟨hw, rfl⟩
  · exact .inl ⟨hw, fun w hS => by rw [hv w hS.1]; exact ⟨v, samePut.rfl', rfl, hS⟩⟩
  · exact .inr ⟨hw, fun w hS => ⟨rfl, hS⟩⟩
def wpUL (P : Program) (md : Region.Mode) (ops : Array Oper) (I : World → Prop) (n : Nat) (L : Array Bool → Act → (World → Prop) → Prop) : Nat → Array Bool → Act → (World → Prop) → Prop
  | 0, listed, a, S => L listed a S
  | f + 1, listed, a, S =>
    Region.ready md ops listed ≠ [] ∧ ∀ i ∈ Region.ready md ops listed, i < n ∧ ∃ (o : Oper) (A : Value → Prop) (T : Value → World → Prop), ops[i]? = some o ∧ StabL P ops (fun w => I w ∧ S w) o (fun v w => A v ∧ I w ∧ T v w) a ∧
      ∀ v, A v → wpUL P md ops I n L f (listed.setIfInBounds i true) (a.put o.dst v) (T v)
theorem wpAny_of_headL {n g : Nat} {L : Array Bool → Act → (World → Prop) → Prop} {Q' : Exit → Act → World → Prop} (hL : ∀ listed a S, L listed a S → ∀ w, I w → S w → wpAny P md ops Q' g listed a w) :
    ∀ (f : Nat) (listed : Array Bool) (a : Act) (S : World → Prop), wpUL P md ops I n L f listed a S → ∀ w, I w → S w → wpAny P md ops Q' (f + g) listed a w
  | 0, listed, a, S, h, w, hI, hS => by rw [Nat.zero_add]; exact hL _ _ _ h w hI hS
  | f + 1, listed, a, S, h, w, hI, hS => by
    rw [show f + 1 + g = (f + g) + 1 by omega]
    refine ⟨fun h0 => absurd h0 h.1, fun i hi => ?_⟩
    obtain ⟨_, o, A, T, ho, hy, hr⟩ := h.2 i hi
    exact hy.wpOp ho (And.intro hI hS) (fun v w' hv => wpAny_of_headL hL f _ _ _ (hr v hv.1) w' hv.2.1 hv.2.2)
theorem wpUL_first {n i : Nat} {oi : Oper} {v : Value} {L : Array Bool → Act → (World → Prop) → Prop} (hi : ops[i]? = some oi) (hsel : ∀ (j : Nat) (o : Oper) cs b, ops[j]? = some o → o.op ≠ .select cs b)
    (hs : Region.sinkB md ops n = true) (hc : Region.chainB md ops n = true) (hn : n < ops.size) (hin : i < n)
    (hdone : ∀ listed a S, L listed a S → ∀ j ∈ Region.ready md ops listed, n ≤ j) :
    ∀ (f : Nat) (listed : Array Bool) (a : Act) (S : World → Prop), HeadInv md ops n listed →
      (∀ j oj, ops[j]? = some oj → j ≠ i → listed.getD j true = false → (∀ e ∈ oj.after, Region.binds md e = true → e.on ≠ i) → oi.apart ops oj = true) →
      i ∈ Region.ready md ops listed → Pure P ops I oi v a →
      wpUL P md ops I n L f (listed.setIfInBounds i true) (a.put oi.dst v) S → wpUL P md ops I n L (f + 1) listed a S := by
  intro f
  induction f with
  | zero =>
    intro listed a S inv _ hr hy H
    have hun := (mem_ready.1 hr).1
    refine ⟨fun h => (by rw [h] at hr; cases hr), fun j hj => ?_⟩
    have hjn : j < n := by
      rcases Nat.lt_or_ge j n with h | h
      · exact h
      · exact absurd hj (tail_waits hs hc hn inv _ i rfl hin hun j h)
    refine ⟨hjn, ?_⟩
    by_cases hji : j = i
    · subst hji
      exact ⟨oi, (· = v), fun _ => S, hi, hy.stab S, fun u hu => by subst hu; exact H⟩
    · have := hdone _ _ _ H j (ready_mono hj hji)
      omega
  | succ f ih =>
    intro listed a S inv hfree hr hy H
    have hun := (mem_ready.1 hr).1
    refine ⟨fun h => (by rw [h] at hr; cases hr), fun j hj => ?_⟩
    have hjn : j < n := by
      rcases Nat.lt_or_ge j n with h | h
      · exact h
      · exact absurd hj (tail_waits hs hc hn inv _ i rfl hin hun j h)
    refine ⟨hjn, ?_⟩
    by_cases hji : j = i
    · subst hji
      exact ⟨oi, (· = v), fun _ => S, hi, hy.stab S, fun u hu => by subst hu; exact H⟩
    · obtain ⟨_, oj', A, T, hoj', hyj, Hj⟩ := H.2 j (ready_mono hj hji)
      obtain ⟨hjun, oj, hoj, hall⟩ := mem_ready.1 hj
      obtain rfl : oj' = oj := Option.some.inj (hoj'.symm.trans hoj)
      have hnot : ∀ e ∈ oj'.after, Region.binds md e = true → e.on ≠ i := fun e he hb heq => by
        have h1 := hall e he hb
        rw [heq, getD_both hun] at h1
        cases h1
      obtain ⟨h1, h2, h3⟩ := Oper.apart_spec (hfree j oj' hoj hji hjun hnot)
      have hsi := fun cs b => hsel i oi cs b hi
      have hsj := fun cs b => hsel j oj' cs b hoj
      have hyj' := hyj.of_same (execOp_put oj' hsj a oi.dst v h1).symm (wanted_put oj' a oi.dst v h1).symm (Act.put_size _ _ _).symm
      have hfree' : ∀ k ok, ops[k]? = some ok → k ≠ i → (listed.setIfInBounds j true).getD k true = false →
          (∀ e ∈ ok.after, Region.binds md e = true → e.on ≠ i) → oi.apart ops ok = true := fun k ok hk hki hun hno => by
        refine hfree k ok hk hki ?_ hno
        by_cases hjk : j = k
        · subst hjk; exact hjun
        · rw [getD_set_ne true hjk] at hun; exact hun
      refine ⟨oj', A, T, hoj, hyj', fun u hu => ?_⟩
      have hyi' : Pure P ops I oi v (a.put oj'.dst u) := hy.of_same (execOp_put oi hsi a oj'.dst u h3) (wanted_put oi a oj'.dst u h3)
      refine ih (listed.setIfInBounds j true) _ _ (inv.set hj hjn) hfree' (ready_mono hr (Ne.symm hji)) hyi' ?_
      rw [Array.setIfInBounds_comm _ _ hji, ← Act.put_comm a v u h2]
      exact Hj u hu
/-- The leaf: the forced tail, from every world that meets the state. -/
def tailL (P : Program) (ops : Array Oper) (I : World → Prop) (Q : Exit → Act → World → Prop) (n : Nat) : Array Bool → Act → (World → Prop) → Prop := fun listed a S =>
  Region.seqB .any ops (ops.size - n) n listed = true ∧ ∀ w, I w → S w → wpList P ops Q (ops.toList.drop n) a w
structure AtL (P : Program) (ops : Array Oper) (I : World → Prop) (Q : Exit → Act → World → Prop) (n : Nat) (f : Nat) (listed : Array Bool) (a : Act) (S : World → Prop) : Prop where
  h : HeadInv .any ops n listed → wpUL P .any ops I n (tailL P ops I Q n) f listed a S
variable {Q : Exit → Act → World → Prop} {S : World → Prop} {a : Act} {listed : Array Bool} {n f : Nat}
def Region.tailB (ops : Array Oper) (n : Nat) : Bool := Region.noSelect ops && decide (n < ops.size) && Region.sinkB .any ops n && Region.chainB .any ops n
/-- Take number i, which only reads, first. -/
theorem AtL.take (i : Nat) {o : Oper} {v : Value} (hB : RL.Region.tailB ops n = true) (hi : ops[i]? = some o) (hin : (i < n) = True) (hf : Region.free .any ops listed i = true) (hr : (Region.ready .any ops listed).contains i = true)
    (hy : Pure P ops I o v a) (h : AtL P ops I Q n f (listed.setIfInBounds i true) (a.put o.dst v) S) : AtL P ops I Q n (f + 1) listed a S := ⟨fun inv => by
  simp only [RL.Region.tailB, Bool.and_eq_true, decide_eq_true_eq] at hB
  obtain ⟨⟨⟨hsel, hn⟩, hs⟩, hc⟩ := hB
  have hr' : i ∈ Region.ready .any ops listed := by simpa using hr
  have hin' : i < n := by rw [hin]; trivial
  exact wpUL_first hi (Region.noSelect_spec hsel) hs hc hn hin' (fun listed a S hL => seqB_ready hL.1) f listed a S inv (Region.free_spec hi hf) hr' hy (h.h (inv.set hr' hin'))⟩
/-- One alone may come up. -/
theorem AtL.one (i : Nat) {o : Oper} (A : Value → Prop) (T : Value → World → Prop) (hin : (i < n) = True) (hr : Region.ready .any ops listed = [i]) (hi : ops[i]? = some o)
    (hy : StabL P ops (fun w => I w ∧ S w) o (fun v w => A v ∧ I w ∧ T v w) a) (h : ∀ v, A v → AtL P ops I Q n f (listed.setIfInBounds i true) (a.put o.dst v) (T v)) : AtL P ops I Q n (f + 1) listed a S := ⟨fun inv => by
  have hin' : i < n := by rw [hin]; trivial
  refine ⟨by rw [hr]; simp, fun j hj => ?_⟩
  have hj' := hj
  rw [hr] at hj
  obtain rfl : j = i := by simpa using hj
  exact ⟨hin', o, A, T, hi, hy, fun v hv => (h v hv).h (inv.set hj' hin')⟩⟩
theorem AtL.done (hB : Region.seqB .any ops (ops.size - n) n listed = true) (h : ∀ w, I w → S w → wpList P ops Q (ops.toList.drop n) a w) : AtL P ops I Q n 0 listed a S := ⟨fun _ => ⟨hB, h⟩⟩
theorem wp_region_l {id : Nat} {w : World} (n : Nat) (I S : World → Prop) (hm : P.follows .mixedOrders = true) (hB : RL.Region.tailB ops n = true) (hI : I w.drew) (hS : S w.drew)
    (h : AtL P ops I Q n n (Array.replicate ops.size false) a S) : (Code.region id ops true).wp P Q a w := by
  simp only [RL.Region.tailB, Bool.and_eq_true, decide_eq_true_eq] at hB
  obtain ⟨⟨⟨hsel, hn⟩, hs⟩, hc⟩ := hB
  have inv0 : HeadInv .any ops n (Array.replicate ops.size false) :=
    ⟨by simp, fun j oj _ hl => (by rw [getD_replicate_false] at hl; cases hl), fun t _ ht => getD_in (by simpa using ht) (getD_replicate_false _ _)⟩
  refine wp_region_any hm ?_
  have := wpAny_of_headL (Q' := Q) (g := ops.size - n) (fun listed a' S hL w' hI' hS' => by
    have := wpAny_of_seq (md := .any) (Q' := Q) (ops.toList.drop n) n listed a' w' (fun j => by simp [List.getElem?_drop]) (by simpa using hL.1) (hL.2 w' hI' hS')
    simpa using this) _ _ _ _ (h.h inv0) w.drew hI hS
  rw [show n + (ops.size - n) = ops.size by omega] at this
  exact this
/-- An operation that yields its value and leaves the world. -/
theorem Pure.val {o : Oper} {v : Value} (hw : Region.wanted o (yielded ops a.tmps) = true) (h : ∀ w, I w → (execOp a.eval o).run P w = .ok (.value v) w) : Pure P ops I o v a := .inl ⟨hw, h⟩
/-- An operation that writes. -/
theorem StabL.op {o : Oper} (A : Value → Prop) (T : Value → World → Prop) (hw : Region.wanted o (yielded ops a.tmps) = true)
    (h : ∀ w, I w → S w → ∃ v w', (execOp a.eval o).run P w = .ok (.value v) w' ∧ A v ∧ I w' ∧ T v w') : StabL P ops (fun w => I w ∧ S w) o (fun v w => A v ∧ I w ∧ T v w) a :=
  .inl ⟨hw, fun w hS => by
    obtain ⟨v, w', hr, hA, hI, hT⟩ := h w hS.1 hS.2
    rw [hr]; exact ⟨v, samePut.rfl', hA, hI, hT⟩⟩
/-- An operation that writes and yields nothing. -/
theorem StabL.unit {o : Oper} (A : Value → Prop) (T : Value → World → Prop) (hw : Region.wanted o (yielded ops a.tmps) = true)
    (h : ∀ w, I w → S w → ∃ w', (execOp a.eval o).run P w = .ok .skip w' ∧ A undef ∧ I w' ∧ T undef w') : StabL P ops (fun w => I w ∧ S w) o (fun v w => A v ∧ I w ∧ T v w) a :=
  .inl ⟨hw, fun w hS => by
    obtain ⟨w', hr, hA, hI, hT⟩ := h w hS.1 hS.2
    rw [hr]; exact ⟨undef, samePut.rfl', hA, hI, hT⟩⟩
theorem StabL.call {o : Oper} (fn : FuncId) (args : Array Value) (A : Value → Prop) (T : Value → World → Prop) (hw : Region.wanted o (yielded ops a.tmps) = true) (h : ∀ w, (execOp a.eval o).run P w = .ok (.enter fn args) w)
    (hc : ∀ w, I w → S w → Calls P fn args w fun e w' => ∃ v, e = .returned v ∧ A v ∧ I w' ∧ T v w') : StabL P ops (fun w => I w ∧ S w) o (fun v w => A v ∧ I w ∧ T v w) a :=
  .inl ⟨hw, fun w hS => by
    rw [h w]
    refine (hc w hS.1 hS.2).mono fun e w' ⟨v, he, hv⟩ => ?_
    rw [he]
    exact ⟨v, samePut.rfl', hv⟩⟩
end
end Go.RL
namespace Go.RL
section
variable {P : Program} {ops : Array Oper} {I : World → Prop} {Q : Exit → Act → World → Prop} {S : World → Prop} {a : Act} {listed : Array Bool} {n f : Nat}
theorem AtL.two (i j : Nat) {o o' : Oper} (A A' : Value → Prop) (T T' : Value → World → Prop) (hin : (i < n) = True) (hjn : (j < n) = True) (hr : Region.ready .any ops listed = [i, j]) (hi : ops[i]? = some o) (hj : ops[j]? = some o')
    (hy : StabL P ops (fun w => I w ∧ S w) o (fun v w => A v ∧ I w ∧ T v w) a) (hy' : StabL P ops (fun w => I w ∧ S w) o' (fun v w => A' v ∧ I w ∧ T' v w) a)
    (h : ∀ v, A v → AtL P ops I Q n f (listed.setIfInBounds i true) (a.put o.dst v) (T v))
    (h' : ∀ v, A' v → AtL P ops I Q n f (listed.setIfInBounds j true) (a.put o'.dst v) (T' v)) : AtL P ops I Q n (f + 1) listed a S := ⟨fun inv => by
  have hin' : i < n := by rw [hin]; trivial
  have hjn' : j < n := by rw [hjn]; trivial
  refine ⟨by rw [hr]; simp, fun k hk => ?_⟩
  have hk' := hk
  rw [hr] at hk
  have hk2 : k = i ∨ k = j := by simpa using hk
  rcases hk2 with rfl | rfl
  · exact ⟨hin', o, A, T, hi, hy, fun v hv => (h v hv).h (inv.set hk' hin')⟩
  · exact ⟨hjn', o', A', T', hj, hy', fun v hv => (h' v hv).h (inv.set hk' hjn')⟩⟩
end
end Go.RL
