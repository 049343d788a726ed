/- The program's blocks: reach; the store in memory; newest, Len, Last. Conditions: as stated. -/
import Derived.Test.YtgfaincejebogaaBlA
namespace Go.Proofs.Ytgfaincejebogaa
open Go.RowKit

def phOf (w : World) (b : Nat) : Nat := match w.cell? ⟨b, 14, none⟩ with | some (.int _ n) => n.toNat | _ => 0
theorem phOf_eq {w : World} {b : Nat} {n : Nat} (h : w.cell? ⟨b, 14, none⟩ = some (.int .i64 n)) : phOf w b = n := by simp [phOf, h]
def ReachPost (w : World) (b : Nat) (E : Ent) (e : Ending) (w' : World) : Prop := e = .returned (.tuple #[]) ∧ EntAt w' b E ∧ Mod [b] w w'
set_option maxRecDepth 100000 in
set_option maxHeartbeats 3200000 in
theorem reach_any (b : Nat) (E : Ent) (phase : Nat) (r c : Int) (w : World) (hE : EntAt w b E) (h4 : E.pl.length = 4) (hph : phase ≤ 4) :
    Calls Try.prog 27 #[.pointer (some ⟨b, 0, none⟩), .int .i64 phase, .agg #[.int .i64 r, .int .i64 c]] w (ReachPost w b (reachE E phase (r, c))) := by
  have hb := hE.lt
  have hE0 := hE.below (below_allocs (Below.refl _ _) (.cells #[.int .i64 r, .int .i64 c] 24))
  have hp0 := (hE0.phase h4).1
  have HE0 := Lib.hid hE0
  have HP : Hid (∀ w1 : World, Mod [b] (w.alloc (.cells #[.int .i64 r, .int .i64 c] 24)) w1 → w1.cell? ⟨w.heap.size, 0, none⟩ = some (.int .i64 r) ∧ w1.cell? ⟨w.heap.size, 1, none⟩ = some (.int .i64 c)) :=
    Lib.hid fun w1 hm => ⟨hm.cell (by simp; omega) (at_ (hp_new rfl) 0 _ rfl).1, hm.cell (by simp; omega) (at_ (hp_new rfl) 1 _ rfl).1⟩
  have HM0 : Hid (∀ w1 : World, Mod [b] (w.alloc (.cells #[.int .i64 r, .int .i64 c] 24)) w1 → Mod [b] w w1) := Lib.hid fun w1 hm => (Mod.of_below (below_allocs (Below.refl _ _) _)).trans hm (fun g hg => .inl hg)
  clear hE hE0
  go_enter Try.func27, Try.ntmps27
  go_wp2_with fail
  go_loopw [6] (fun _ wr => ∃ n : Nat, n ≤ phase - E.ph ∧ EntAt wr b (reachN E (r, c) n) ∧ Mod [b] (w.alloc (.cells #[.int .i64 r, .int .i64 c] 24)) wr) (fun _ wr => phase - phOf wr b)
  case atStart => exact ⟨0, Nat.zero_le _, HE0.out, Mod.refl _ _⟩
  case round =>
    obtain ⟨n, hn, he, hm⟩ := hrel
    have hl := (reachN_len E (r, c) n).trans h4
    have hq := he.phase hl
    have hqc := hq.1
    rw [reachN_ph] at hq hqc
    have HE := Lib.hid he
    have HM := Lib.hid hm
    clear hp0
    by_cases hlt : n < phase - E.ph
    rotate_left
    · have hge : ¬ ((E.ph + n : Nat) : Int) < (phase : Int) := by omega
      have HN := Lib.hid (show n = phase - E.ph by omega)
      generalize E.ph + n = q at hq hqc hge
      clear hq hlt hn hm he
      go_wp2
      go_end0
      refine ⟨rfl, ?_, HM0.out _ HM.out⟩
      unfold reachE
      rw [← HN.out]; exact HE.out
    · have hq4 : E.ph + n < phase := by omega
      have HS : Hid (∀ wx W2, Below wr.heap.size wr wx → W2 = (wx.setCell ⟨b, 6 + (E.ph + n) * 2, none⟩ (.int .i64 r)).setCell ⟨b, 6 + (E.ph + n) * 2 + 1, none⟩ (.int .i64 c) → HoldAt W2 b 14 (.int .i64 ((E.ph + n : Nat) : Int)) ∧ EntAt (W2.setCell ⟨b, 14, none⟩ (.int .i64 (((E.ph + n : Nat) : Int) + 1))) b (reachN E (r, c) (n + 1)) ∧ Mod [b] (w.alloc (.cells #[.int .i64 r, .int .i64 c] 24)) (W2.setCell ⟨b, 14, none⟩ (.int .i64 (((E.ph + n : Nat) : Int) + 1)))) := Lib.hid (by
        rintro wx W2 hbx rfl
        have h1 := (he.below hbx).setPlace (i := (reachN E (r, c) n).ph) (by rw [hl, reachN_ph]; omega) (r, c)
        rw [reachN_ph] at h1
        refine ⟨h1.phase (by simp [hl]), ?_, (((hm.then_below hbx).setCell (.inl (by simp)) _).setCell (.inl (by simp)) _).setCell (.inl (by simp)) _⟩
        have h2 := h1.setPhase (by simp [hl]) (E.ph + n + 1)
        rw [reachN, reachN_ph]
        exact h2)
      obtain ⟨k0, k1⟩ := he.place (at_get (i := E.ph + n) (by rw [hl]; omega))
      have HK : Hid (∀ wx, Below wr.heap.size wr wx → HoldAt wx b (6 + (E.ph + n) * 2) (.int .i64 ((reachN E (r, c) n).at_ (E.ph + n)).1) ∧ HoldAt wx b (6 + (E.ph + n) * 2 + 1) (.int .i64 ((reachN E (r, c) n).at_ (E.ph + n)).2)) := Lib.hid fun wx hbx => ⟨hold hbx k0, hold hbx k1⟩
      obtain ⟨p0, p1⟩ := HP.out _ hm
      have hbw := he.lt
      have HQC := Lib.hid hqc
      clear k0 k1 hm he hq hlt
      generalize ((reachN E (r, c) n).at_ (E.ph + n)).1 = z1 at HK
      generalize ((reachN E (r, c) n).at_ (E.ph + n)).2 = z2 at HK
      have HQ : Hid (reachN E (r, c) (n + 1) = reachN E (r, c) (n + 1) ∧ n + 1 ≤ phase - E.ph ∧ phase - (E.ph + n + 1) < phase - (E.ph + n)) := Lib.hid ⟨rfl, by omega, by omega⟩
      have HPN : Hid ((reachN E (r, c) (n + 1)).ph = E.ph + n + 1 ∧ (reachN E (r, c) (n + 1)).pl.length = 4) := Lib.hid ⟨by rw [reachN_ph]; omega, by rw [reachN_len, h4]⟩
      generalize E.ph + n = q at *
      have hq4' : (q : Int) < (phase : Int) := by omega
      have hq44 : (q : Int) < 4 := by omega
      go_wp2_with fail
      refine wp_region_u 9 (fun w' => Below wr.heap.size wr w' ∧ w'.cell? ⟨b, 14, none⟩ = some (.int .i64 (q : Int)) ∧ w'.cell? ⟨w.heap.size, 0, none⟩ = some (.int .i64 r) ∧ w'.cell? ⟨w.heap.size, 1, none⟩ = some (.int .i64 c)) (by kernel_rfl) (by kernel_rfl) ?_ ?_
      · exact ⟨(Below.refl _ _).drew, hqc, p0, p1⟩
      simp only [List.take_succ_cons, List.take_zero, List.drop_succ_cons, List.drop_zero]
      repeat (refine seqU_val ?_ (by rfl) ?_ ?_; rotate_left; · (intro w' hS; obtain ⟨_, _⟩ := hS; go_simp; first | done | with_reducible rfl)
              simp only [Act.put, List.setIfInBounds_toArray, List.set_cons_zero, List.set_cons_succ])
      refine seqU_nil (fun w' hS => ?_)
      have hB1 := hS.1
      obtain ⟨⟨k0, k0f⟩, k1, k1f⟩ := HK.out _ hB1
      clear hS p0 p1 hqc
      go_upto_region 3 with fail
      generalize hW2 : World.setCell _ _ _ = W2
      obtain ⟨⟨q0, q0f⟩, hE3, hM3⟩ := HS.out _ W2 hB1 hW2.symm
      have HE3 := Lib.hid hE3
      have HM3 := Lib.hid hM3
      clear hW2 hE3 hM3 HS k0 k0f k1 k1f
      go_wp2
      go_roundw
      case rel => exact ⟨n + 1, HQ.out.2.1, HE3.out, HM3.out⟩
      case measure =>
        have := HE3.out.phase HPN.out.2
        rw [HPN.out.1] at this
        rw [phOf_eq this.1, phOf_eq HQC.out]
        exact HQ.out.2.2
/-- The store at p, opened: its row v, its blocks with what they hold. -/
structure BlO (w : World) (p : Nat) (v : Value) (L : List (Nat × Ent)) (most ids : Int) (dir : ByteArray) : Prop where
  row : HoldAt w p 0 v
  most : w.cell? ⟨p, 1, none⟩ = some (.int .i64 most)
  ids : HoldAt w p 2 (.int .u64 ids)
  dir : HoldAt w p 3 (.string dir)
  own : OwnsAt w (p + 1) 61 v (L.map fun x => .pointer (some ⟨x.1, 0, none⟩))
  ents : ∀ x ∈ L, EntAt w x.1 x.2 ∧ EntOk x.2 ∧ p < x.1 ∧ v.ownBlock ≠ some x.1
  nodup : (L.map (·.1)).Nodup
def foot (p : Nat) (v : Value) (L : List (Nat × Ent)) : List Nat := p :: (v.ownBlock.toList ++ L.map (·.1))
theorem BlO.lt {w : World} {p : Nat} {v : Value} {L : List (Nat × Ent)} {most ids : Int} {dir : ByteArray} (h : BlO w p v L most ids dir) : ∀ g ∈ foot p v L, g < w.heap.size := by
  intro g hg
  rcases List.mem_cons.1 hg with rfl | hg
  · exact lt_of_cell h.row.1
  · rcases List.mem_append.1 hg with hg | hg
    · exact (h.own.lt g (by simpa [Option.mem_toList] using hg)).2
    · obtain ⟨x, hx, rfl⟩ := List.mem_map.1 hg
      exact (h.ents x hx).1.lt
theorem BlO.mod {w w' : World} {p : Nat} {v : Value} {L : List (Nat × Ent)} {most ids : Int} {dir : ByteArray} {X : List Nat} (h : BlO w p v L most ids dir) (hm : Mod X w w') (hX : ∀ g ∈ foot p v L, g ∉ X) : BlO w' p v L most ids dir := by
  have hp := hX p (by simp [foot])
  exact ⟨hm.hold hp h.row, hm.cell hp h.most, hm.hold hp h.ids, hm.hold hp h.dir, h.own.mod hm (fun g hg => hX g (by simp [foot, hg])), fun x hx => ⟨(h.ents x hx).1.mod hm (hX x.1 (by unfold foot; exact List.mem_cons_of_mem _ (List.mem_append_right _ (List.mem_map_of_mem hx)))), (h.ents x hx).2⟩, h.nodup⟩
theorem BlO.below {w w' : World} {p : Nat} {v : Value} {L : List (Nat × Ent)} {most ids : Int} {dir : ByteArray} (h : BlO w p v L most ids dir) (hb : Below w.heap.size w w') : BlO w' p v L most ids dir :=
  h.mod (Mod.of_below (X := []) hb) (fun _ _ h => by cases h)
def lastPtr (L : List (Nat × Ent)) : Value := match L.getLast? with | some x => .pointer (some ⟨x.1, 0, none⟩) | none => .pointer none
set_option maxRecDepth 100000 in
set_option maxHeartbeats 1600000 in
theorem newest_any {p : Nat} {v : Value} {L : List (Nat × Ent)} {most ids : Int} {dir : ByteArray} (w : World) (h : BlO w p v L most ids dir) (hz : L.length ≤ 100000) :
    Calls Try.prog 21 #[.pointer (some ⟨p, 0, none⟩)] w fun e w' => e = .returned (lastPtr L) ∧ Below w.heap.size w w' := by
  have h0 := h.row.1
  obtain ⟨A, c, hv, hc⟩ := h.own.form
  rw [List.length_map] at hv hc
  subst hv
  rcases Nat.eq_zero_or_pos L.length with hl | hl
  · obtain rfl : L = [] := List.length_eq_zero_iff.1 hl
    clear h hc
    go_enter Try.func21, Try.ntmps21
    go_wp2
    go_ret
    exact ⟨rfl, Below.refl _ _⟩
  · have hlast : L.getLast? = some (L[L.length - 1]) := by rw [List.getLast?_eq_getElem?, List.getElem?_eq_getElem (by omega)]
    obtain ⟨g, o, rfl, c0, -⟩ := h.own.at_ (i := L.length - 1) (u := .pointer (some ⟨(L[L.length - 1]).1, 0, none⟩)) (by rw [List.getElem?_map, List.getElem?_eq_getElem (by omega)]; rfl)
    have e : lastPtr L = .pointer (some ⟨(L[L.length - 1]).1, 0, none⟩) := by unfold lastPtr; rw [hlast]
    rw [e]
    generalize (L[L.length - 1]).1 = x at c0
    obtain ⟨k, hk⟩ : ∃ k, L.length = k + 1 := ⟨L.length - 1, by omega⟩
    rw [show L.length - 1 = k by omega] at c0
    clear h hlast e
    generalize hN : L.length = N at *
    have hw : IntKind.i64.wrap ((N : Int) - 1) = (k : Int) := by rw [IntWalk.i64_in _ (by omega)]; omega
    have hkN : (k : Int) < (N : Int) := by omega
    have hN0 : ((N : Int) == 0) = false := by simp; omega
    have hw2 : ((k : Int)).toNat = k := by simp
    clear hk hN hc
    go_enter Try.func21, Try.ntmps21
    go_wp2_with fail
    refine wp_region_u 12 (fun w' => Below w.heap.size w w' ∧ w'.cell? ⟨p, 0, none⟩ = some (.slice (some ⟨g, o, none⟩) N c) ∧ w'.cell? ⟨g, o + k, none⟩ = some (.pointer (some ⟨x, 0, none⟩))) (by kernel_rfl) (by kernel_rfl) ?_ ?_
    · exact ⟨(Below.refl _ _).drew, h0, c0⟩
    simp only [List.take_succ_cons, List.take_zero, List.drop_succ_cons, List.drop_zero]
    repeat (refine seqU_val ?_ (by rfl) ?_ ?_; rotate_left; · (intro w' hS; obtain ⟨_, _⟩ := hS; go_simp; first | done | with_reducible rfl)
            simp only [Act.put, List.setIfInBounds_toArray, List.set_cons_zero, List.set_cons_succ])
    refine seqU_nil (fun w' hS => ?_)
    have hb := hS.1
    clear hS h0 c0
    go_wp2
    go_ret
    exact ⟨rfl, hb⟩
set_option maxHeartbeats 800000 in
theorem blLen_any {p : Nat} {v : Value} {L : List (Nat × Ent)} {most ids : Int} {dir : ByteArray} (w : World) (h : BlO w p v L most ids dir) :
    Calls Try.prog 13 #[.pointer (some ⟨p, 0, none⟩)] w fun e w' => e = .returned (.int .i64 (L.length : Nat)) ∧ w = w' := by
  have h0 := h.row.1
  obtain ⟨A, c, hv, -⟩ := h.own.form
  rw [List.length_map] at hv
  subst hv
  clear h
  go_enter Try.func13, Try.ntmps13
  go_wp2
  go_ret
  exact ⟨rfl, rfl⟩
set_option maxHeartbeats 800000 in
theorem blLast_any {p : Nat} {v : Value} {L : List (Nat × Ent)} {most ids : Int} {dir : ByteArray} (w : World) (h : BlO w p v L most ids dir) :
    Calls Try.prog 12 #[.pointer (some ⟨p, 0, none⟩)] w fun e w' => e = .returned (.int .u64 ids) ∧ w = w' := by
  have h0 := h.ids.1
  clear h
  go_enter Try.func12, Try.ntmps12
  go_wp2
  go_ret
  exact ⟨rfl, rfl⟩
end Go.Proofs.Ytgfaincejebogaa
