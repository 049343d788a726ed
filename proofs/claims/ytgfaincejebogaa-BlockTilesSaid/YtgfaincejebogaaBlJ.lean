/- The program's blocks: Shift. Conditions: as stated. -/
import Derived.Test.YtgfaincejebogaaBlI
namespace Go.Proofs.Ytgfaincejebogaa
open Go.RowKit

def mapTo (f : Ent → Ent) (i : Nat) (L : List (Nat × Ent)) : List (Nat × Ent) := (L.take i).map (fun x => (x.1, f x.2)) ++ L.drop i
theorem mapTo_zero (f : Ent → Ent) (L : List (Nat × Ent)) : mapTo f 0 L = L := by simp [mapTo]
theorem mapTo_all (f : Ent → Ent) (L : List (Nat × Ent)) : (mapTo f L.length L).map (·.2) = (L.map (·.2)).map f := by simp [mapTo]
theorem mapTo_at {f : Ent → Ent} {i : Nat} {L : List (Nat × Ent)} {x : Nat × Ent} (h : L[i]? = some x) : (mapTo f i L)[i]? = some x := by
  have hlt := (List.getElem?_eq_some_iff.1 h).1
  unfold mapTo
  rw [List.getElem?_append_right (by simp; omega)]
  simp only [List.length_map, List.length_take, Nat.min_eq_left (Nat.le_of_lt hlt), Nat.sub_self, List.getElem?_drop, Nat.add_zero]
  exact h
theorem mapTo_succ {f : Ent → Ent} {i : Nat} {L : List (Nat × Ent)} {x : Nat × Ent} (h : L[i]? = some x) : (mapTo f i L).set i (x.1, f x.2) = mapTo f (i + 1) L := by
  have hlt := (List.getElem?_eq_some_iff.1 h).1
  have hget := (List.getElem?_eq_some_iff.1 h).2
  unfold mapTo
  rw [List.set_append_right _ _ (by simp; omega)]
  simp only [List.length_map, List.length_take, Nat.min_eq_left (Nat.le_of_lt hlt), Nat.sub_self]
  rw [List.drop_eq_getElem_cons hlt, List.take_succ_eq_append_getElem hlt, hget]
  simp
theorem mapTo_fst (f : Ent → Ent) (i : Nat) (L : List (Nat × Ent)) : (mapTo f i L).map (·.1) = L.map (·.1) := by
  unfold mapTo
  rw [List.map_append, List.map_map]
  show (L.take i).map (·.1) ++ (L.drop i).map (·.1) = _
  rw [← List.map_append, List.take_append_drop]
def movTo (k a n : Int) (j : Nat) (E : Ent) : Ent := { E with pl := (E.pl.take j).map (fun p => mv p.1 p.2 k a n) ++ E.pl.drop j }
theorem movTo_zero (k a n : Int) (E : Ent) : movTo k a n 0 E = E := by simp [movTo]
theorem movTo_all (k a n : Int) (E : Ent) : movTo k a n E.ph E = moveE k a n E := rfl
theorem movTo_len {k a n : Int} {j : Nat} {E : Ent} (h : E.pl.length = 4) : (movTo k a n j E).pl.length = 4 := by
  unfold movTo
  simp
  omega
theorem movTo_at {k a n : Int} {j : Nat} {E : Ent} {p : P2} (h : E.pl[j]? = some p) : (movTo k a n j E).pl[j]? = some p := by
  have hlt := (List.getElem?_eq_some_iff.1 h).1
  unfold movTo
  rw [List.getElem?_append_right (by simp; omega)]
  simp only [List.length_map, List.length_take, Nat.min_eq_left (Nat.le_of_lt hlt), Nat.sub_self, List.getElem?_drop, Nat.add_zero]
  exact h
theorem movTo_succ {k a n : Int} {j : Nat} {E : Ent} {p : P2} (h : E.pl[j]? = some p) : { movTo k a n j E with pl := (movTo k a n j E).pl.set j (mv p.1 p.2 k a n) } = movTo k a n (j + 1) E := by
  have hlt := (List.getElem?_eq_some_iff.1 h).1
  have hget := (List.getElem?_eq_some_iff.1 h).2
  unfold movTo
  congr 1
  simp only
  rw [List.set_append_right _ _ (by simp; omega)]
  simp only [List.length_map, List.length_take, Nat.min_eq_left (Nat.le_of_lt hlt), Nat.sub_self]
  rw [List.drop_eq_getElem_cons hlt, List.take_succ_eq_append_getElem hlt, hget]
  simp
theorem Move_hidP (p : P2) (k a n : Int) : Hid (∀ w : World, Calls Try.prog 31 #[.agg #[.int .i64 p.1, .int .i64 p.2], .agg #[.int .i64 k, .int .i64 a, .int .i64 n]] w fun e w' => e = .returned (.agg #[.int .i64 (mv p.1 p.2 k a n).1, .int .i64 (mv p.1 p.2 k a n).2]) ∧ Below w.heap.size w w') := Lib.hid fun w => Move_any p.1 p.2 k a n w
/-- The shift in its box. -/
def ShBox (w : World) (s : Nat) (k a n : Int) : Prop := w.cell? ⟨s, 0, none⟩ = some (.int .i64 k) ∧ w.cell? ⟨s, 1, none⟩ = some (.int .i64 a) ∧ w.cell? ⟨s, 2, none⟩ = some (.int .i64 n)
theorem ShBox.mod {w w' : World} {s : Nat} {k a n : Int} {X : List Nat} (h : ShBox w s k a n) (hm : Mod X w w') (hX : s ∉ X) : ShBox w' s k a n := ⟨hm.cell hX h.1, hm.cell hX h.2.1, hm.cell hX h.2.2⟩
/-- What the loop over the blocks begins with. -/
structure SfSt (w : World) (p : Nat) (v0 : Value) (L0 : List (Nat × Ent)) (v : Value) (L : List (Nat × Ent)) (mo ids : Int) (dir : ByteArray) (k a n : Int) (W : World) : Prop where
  o : BlO W p v L mo ids dir
  m : Mod (foot p v0 L0) w W
  f : ∀ g ∈ foot p v L, g ∈ foot p v0 L0 ∨ w.heap.size < g
  b : ShBox W w.heap.size k a n
  z : L.length ≤ 1000
  s : w.heap.size < W.heap.size
set_option maxRecDepth 100000 in
set_option maxHeartbeats 6400000 in
theorem blShift_any {p : Nat} {v0 : Value} {L0 : List (Nat × Ent)} {mo : Nat} {ids : Int} {dir : ByteArray} (k a n : Int) (w : World) (h : BlO w p v0 L0 mo ids dir) (hz : L0.length ≤ 1000) :
    Calls Try.prog 17 #[.pointer (some ⟨p, 0, none⟩), .agg #[.int .i64 k, .int .i64 a, .int .i64 n]] w (BlPost w p v0 L0 mo (shiftB ⟨ids, dir, L0.map (·.2)⟩ k a n)) := by
  have HR := Lib.hid (fun w => Right_any k a n w)
  have hb0 : Below w.heap.size w (w.alloc (.cells #[.int .i64 k, .int .i64 a, .int .i64 n] 35)) := below_allocs (Below.refl _ _) _
  have HFL := Lib.hid h.lt
  have HX0 := Lib.hid (show w.heap.size ∉ foot p v0 L0 from fun hx => by have := h.lt _ hx; omega)
  cases hr : rightS k a n with
  | false =>
    rw [hr] at HR
    have e1 : shiftB ⟨ids, dir, L0.map (·.2)⟩ k a n = ⟨ids, dir, L0.map (·.2)⟩ := by unfold shiftB; rw [hr]; simp
    rw [e1]
    have HF : Hid (∀ w1, Below (w.alloc (.cells #[.int .i64 k, .int .i64 a, .int .i64 n] 35)).heap.size (w.alloc (.cells #[.int .i64 k, .int .i64 a, .int .i64 n] 35)) w1 → BlPost w p v0 L0 mo ⟨ids, dir, L0.map (·.2)⟩ (.returned (.tuple #[])) w1) := Lib.hid (fun w1 hb => BlPost.same h (below_tail hb0 hb) ⟨rfl, rfl, rfl⟩)
    clear h hb0 hr e1
    go_enter Try.func17, Try.ntmps17
    go_wp2_with (go_at_call 28; refine (HR.out _).mono ?_; rintro e w1 ⟨rfl, hb1⟩)
    go_end0
    exact HF.out _ hb1
  | true =>
    rw [hr] at HR
    have HBX : Hid (∀ w1, Below (w.alloc (.cells #[.int .i64 k, .int .i64 a, .int .i64 n] 35)).heap.size (w.alloc (.cells #[.int .i64 k, .int .i64 a, .int .i64 n] 35)) w1 → BlO w1 p v0 L0 mo ids dir ∧ Below w.heap.size w w1 ∧ ShBox w1 w.heap.size k a n) := Lib.hid (fun w1 hb => ⟨h.below (below_tail hb0 hb), below_tail hb0 hb, holda hb (at_ (hp_new rfl) 0 _ rfl).1, holda hb (at_ (hp_new rfl) 1 _ rfl).1, holda hb (at_ (hp_new rfl) 2 _ rfl).1⟩)
    have HSE := Lib.hid (show shiftB ⟨ids, dir, L0.map (·.2)⟩ k a n = ⟨ids, dir, (if k = 2 then (evictL k a n (L0.map (·.2))).map (cutE k a n) else L0.map (·.2)).map (moveE k a n)⟩ from by unfold shiftB; rw [hr]; simp)
    clear h hb0 hr
    by_cases hk : k = 2
    · have HSE2 := Lib.hid (HSE.out.trans (show _ = Bs.mk ids dir (((evictL k a n (L0.map (·.2))).map (cutE k a n)).map (moveE k a n)) from by rw [if_pos hk]))
      have hk2 : (k == 2) = true := by simpa using hk
      clear hk
      go_enter Try.func17, Try.ntmps17
      go_upto_region 4 with (first
        | (go_at_call 28; refine (HR.out _).mono ?_; rintro e w1 ⟨rfl, hb1⟩; have HH := Lib.hid (HBX.out _ hb1); obtain ⟨s0, s1, s2⟩ := HH.out.2.2)
        | (go_at_call 29; refine (evict_any k a n _ HH.out.1 hz).mono ?_; rintro e W ⟨rfl, v, L, hO, hes, hm, hft⟩)
        )
      have HST := Lib.hid (show SfSt w p v0 L0 v L mo ids dir k a n W from ⟨hO, (Mod.of_below HH.out.2.1).trans hm (fun g hg => .inl hg), fun g hg => by
        rcases hft g hg with h | h
        · exact .inl h
        · exact .inr (by have := lt_of_cell s0; omega), HH.out.2.2.mod hm HX0.out, by have := congrArg List.length hes; simp at this; have h2 := evictL_len k a n (L0.map (·.2)); simp at h2; omega, by have := lt_of_cell (HH.out.2.2.mod hm HX0.out).1; omega⟩)
      have HES := Lib.hid (show (shiftB ⟨ids, dir, L0.map (·.2)⟩ k a n) = ⟨ids, dir, (L.map (·.2)).map (moveE k a n)⟩ from by rw [HSE2.out, hes])
      clear hO hes hm hft s0 s1 s2 HBX HSE HSE2 HH
      obtain ⟨A, ca, hv, -⟩ := HST.out.o.own.form
      rw [List.length_map] at hv
      have r0 := HST.out.o.row.1
      rw [hv] at r0
      have HV := Lib.hid hv
      have HXB := Lib.hid (show w.heap.size ∉ p :: L.map (·.1) from fun hx => by
        have h1 : w.heap.size ∈ foot p v L := by
          rcases List.mem_cons.1 hx with h | h
          · rw [h]; simp [foot]
          · unfold foot; exact List.mem_cons_of_mem _ (List.mem_append_right _ h)
        rcases HST.out.f _ h1 with h | h
        · exact HX0.out h
        · omega)
      have HLZ := Lib.hid HST.out.z
      have hLz := HLZ.out
      clear hv
      go_wp2_with fail
      go_loopw [27] (fun i wr => ∃ j : Nat, j ≤ L.length ∧ i = .int .i64 j ∧ BlO wr p v (mapTo (moveE k a n) j L) mo ids dir ∧ Mod (L.map (·.1)) W wr) (fun i _ => L.length - (intOf i).toNat)
      case atStart => exact ⟨0, Nat.zero_le _, rfl, by rw [mapTo_zero]; exact HST.out.o, Mod.refl _ _⟩
      case round =>
        obtain ⟨j, hj, rfl, hO, hm⟩ := hrel
        by_cases hlt : j < L.length
        rotate_left
        · obtain rfl : j = L.length := by omega
          have HO2 := Lib.hid hO
          have HM2 := Lib.hid hm
          clear hO hm r0
          go_wp2
          go_end0
          rw [HES.out]
          refine ⟨rfl, v, _, HO2.out, by rw [mapTo_all], HST.out.m.trans HM2.out (fun g hg => ?_), fun g hg => ?_⟩
          · rcases HST.out.f g (by unfold foot; exact List.mem_cons_of_mem _ (List.mem_append_right _ hg)) with h | h
            · exact .inl h
            · exact .inr (by omega)
          · rcases HST.out.f g (by unfold foot at hg ⊢; rw [mapTo_fst] at hg; exact hg) with h | h
            · exact .inl h
            · exact .inr (by omega)
        · obtain ⟨b, E, hx⟩ : ∃ b E, L[j]? = some (b, E) := ⟨(L[j]).1, (L[j]).2, List.getElem?_eq_getElem hlt⟩
          have hx2 := mapTo_at (f := moveE k a n) hx
          obtain ⟨kE, okE, -, -⟩ := hO.ents (b, E) (List.mem_of_getElem? hx2)
          have hOw := hO.own
          rw [HV.out] at hOw
          obtain ⟨g, o, hA', g0, -⟩ := hOw.at_ (i := j) (u := .pointer (some ⟨b, 0, none⟩)) (by rw [List.getElem?_map, hx2]; rfl)
          subst hA'
          have HSB := Lib.hid (HST.out.b.mod hm (fun h => HXB.out (List.mem_cons_of_mem _ h)))
          have hbs : b ≠ w.heap.size := fun e => HXB.out (List.mem_cons_of_mem _ (List.mem_map.2 ⟨_, List.mem_of_getElem? hx, e⟩))
          have HRC := Lib.hid (fun w' hb => reached_any b E w' (kE.below (w' := w') hb) okE)
          have HMV := Lib.hid (fun p => Move_hidP p k a n)
          have HKE : Hid (EntAt wr b E) := Lib.hid kE
          have HOK : Hid (EntOk E) := Lib.hid okE
          have HS : Hid (∀ w2, EntAt w2 b (moveE k a n E) → Mod [b] wr w2 → BlO w2 p v (mapTo (moveE k a n) (j + 1) L) mo ids dir ∧ Mod (L.map (·.1)) W w2) := Lib.hid (by
            intro w2 h2 hm2
            refine ⟨?_, hm.trans hm2 (fun g hg => .inl (by rw [List.mem_singleton.1 hg]; exact List.mem_map.2 ⟨_, List.mem_of_getElem? hx, rfl⟩))⟩
            rw [← mapTo_succ hx]
            exact hO.setAt hx2 h2 ⟨movTo_len okE.four, okE.lo, okE.hi⟩ hm2)
          have hjN : (j : Int) < (L.length : Int) := by omega
          have hph4 : E.ph ≤ 4 := okE.hi
          clear hO hm hx hx2 kE okE r0 hOw
          go_wp2_with (go_at_call 30; refine (HRC.out _ (Below.refl _ _)).mono ?_; rintro e w1 ⟨rfl, hb1⟩; have HB1 := Lib.hid hb1; clear hb1)
          obtain ⟨wo, hwo⟩ : ∃ wo : World, wo = wr := ⟨_, rfl⟩
          rw [← hwo] at HKE HSB HS HB1
          clear hwo g0 HRC
          generalize hphe : E.ph = ph at hph4 ⊢
          have HPH := Lib.hid hphe
          clear hphe
          go_loopw [35] (fun i wr => ∃ m : Nat, m ≤ ph ∧ i = .int .i64 m ∧ EntAt wr b (movTo k a n m E) ∧ Mod [b] wo wr) (fun i _ => ph - (intOf i).toNat)
          case atStart => exact ⟨0, Nat.zero_le _, rfl, by rw [movTo_zero]; exact HKE.out.below HB1.out, Mod.of_below HB1.out⟩
          case round =>
            obtain ⟨m, hm, rfl, hE, hmd⟩ := hrel
            by_cases hlt2 : m < ph
            rotate_left
            · obtain rfl : m = ph := by omega
              have HS2 := Lib.hid (HS.out wr (by rw [← movTo_all, HPH.out]; exact hE) hmd)
              clear hE hmd
              go_wp2
              go_roundw
              case rel => exact ⟨j + 1, by omega, by go_num, HS2.out.1, HS2.out.2⟩
              case measure => simp [intOf]; omega
            · have hml : m < E.pl.length := by rw [HOK.out.four]; omega
              have hpe := at_get hml
              obtain ⟨⟨c0, c0f⟩, c1, c1f⟩ := hE.place (movTo_at (k := k) (a := a) (n := n) hpe)
              obtain ⟨s0, s1, s2⟩ := HSB.out.mod hmd (by simp; omega)
              have HMP := Lib.hid (HMV.out (E.at_ m)).out
              have HC := Lib.hid (And.intro (And.intro c0 c0f) (And.intro c1 c1f))
              have HE2 : Hid (∀ w3, Below wr.heap.size wr w3 → EntAt ((w3.setCell ⟨b, 6 + m * 2, none⟩ (.int .i64 (mv (E.at_ m).1 (E.at_ m).2 k a n).1)).setCell ⟨b, 6 + m * 2 + 1, none⟩ (.int .i64 (mv (E.at_ m).1 (E.at_ m).2 k a n).2)) b (movTo k a n (m + 1) E) ∧ Mod [b] wo ((w3.setCell ⟨b, 6 + m * 2, none⟩ (.int .i64 (mv (E.at_ m).1 (E.at_ m).2 k a n).1)).setCell ⟨b, 6 + m * 2 + 1, none⟩ (.int .i64 (mv (E.at_ m).1 (E.at_ m).2 k a n).2))) := Lib.hid (by
                intro w3 hb
                refine ⟨?_, ((hmd.then_below hb).setCell (.inl (by simp)) _).setCell (.inl (by simp)) _⟩
                rw [← movTo_succ hpe]
                exact (hE.below hb).setPlace (by rw [movTo_len HOK.out.four]; have := HOK.out.four; omega) _)
              have hbw := hE.lt
              have hmN : (m : Int) < (ph : Int) := by omega
              have hsw := lt_of_cell s0
              generalize (mv (E.at_ m).1 (E.at_ m).2 k a n).1 = y1 at HMP HE2
              generalize (mv (E.at_ m).1 (E.at_ m).2 k a n).2 = y2 at HMP HE2
              generalize (E.at_ m).1 = x1 at HMP c0 HC
              generalize (E.at_ m).2 = x2 at HMP c1 HC
              clear hE hmd hpe hml c0f c1f
              go_wp2_with (go_at_call 31; refine (HMP.out _).mono ?_; rintro e w3 ⟨rfl, hb3⟩; have hb4 := below_tail (below_allocs (Below.refl wr.heap.size wr) _) hb3; obtain ⟨⟨z0, z0f⟩, z1, z1f⟩ : HoldAt w3 b (6 + m * 2) (.int .i64 x1) ∧ HoldAt w3 b (6 + m * 2 + 1) (.int .i64 x2) := ⟨hold hb4 HC.out.1, hold hb4 HC.out.2⟩; have HE4 := Lib.hid (HE2.out w3 hb4); clear hb3)
              go_roundw
              case rel => exact ⟨m + 1, by omega, by go_num, HE4.out.1, HE4.out.2⟩
              case measure => simp [intOf]; omega
    · have HSE2 := Lib.hid (HSE.out.trans (show _ = Bs.mk ids dir ((L0.map (·.2)).map (moveE k a n)) from by rw [if_neg hk]))
      have hk2 : (k == 2) = false := by simpa using hk
      clear hk
      go_enter Try.func17, Try.ntmps17
      go_upto_region 4 with (go_at_call 28; refine (HR.out _).mono ?_; rintro e W ⟨rfl, hb1⟩; have HH := Lib.hid (HBX.out _ hb1); obtain ⟨s0, s1, s2⟩ := HH.out.2.2)
      have HST := Lib.hid (show SfSt w p v0 L0 v0 L0 mo ids dir k a n W from ⟨HH.out.1, Mod.of_below HH.out.2.1, fun g hg => .inl hg, HH.out.2.2, hz, lt_of_cell s0⟩)
      have HES := Lib.hid HSE2.out
      clear s0 s1 s2 HBX HSE HSE2 HH
      obtain ⟨A, ca, hv, -⟩ := HST.out.o.own.form
      rw [List.length_map] at hv
      have r0 := HST.out.o.row.1
      rw [hv] at r0
      have HV := Lib.hid hv
      have HXB := Lib.hid (show w.heap.size ∉ p :: L0.map (·.1) from fun hx => by
        have h1 : w.heap.size ∈ foot p v0 L0 := by
          rcases List.mem_cons.1 hx with h | h
          · rw [h]; simp [foot]
          · unfold foot; exact List.mem_cons_of_mem _ (List.mem_append_right _ h)
        rcases HST.out.f _ h1 with h | h
        · exact HX0.out h
        · omega)
      have HLZ := Lib.hid HST.out.z
      have hLz := HLZ.out
      clear hv
      go_wp2_with fail
      go_loopw [27] (fun i wr => ∃ j : Nat, j ≤ L0.length ∧ i = .int .i64 j ∧ BlO wr p v0 (mapTo (moveE k a n) j L0) mo ids dir ∧ Mod (L0.map (·.1)) W wr) (fun i _ => L0.length - (intOf i).toNat)
      case atStart => exact ⟨0, Nat.zero_le _, rfl, by rw [mapTo_zero]; exact HST.out.o, Mod.refl _ _⟩
      case round =>
        obtain ⟨j, hj, rfl, hO, hm⟩ := hrel
        by_cases hlt : j < L0.length
        rotate_left
        · obtain rfl : j = L0.length := by omega
          have HO2 := Lib.hid hO
          have HM2 := Lib.hid hm
          clear hO hm r0
          go_wp2
          go_end0
          rw [HES.out]
          refine ⟨rfl, v0, _, HO2.out, by rw [mapTo_all], HST.out.m.trans HM2.out (fun g hg => ?_), fun g hg => ?_⟩
          · rcases HST.out.f g (by unfold foot; exact List.mem_cons_of_mem _ (List.mem_append_right _ hg)) with h | h
            · exact .inl h
            · exact .inr (by omega)
          · rcases HST.out.f g (by unfold foot at hg ⊢; rw [mapTo_fst] at hg; exact hg) with h | h
            · exact .inl h
            · exact .inr (by omega)
        · obtain ⟨b, E, hx⟩ : ∃ b E, L0[j]? = some (b, E) := ⟨(L0[j]).1, (L0[j]).2, List.getElem?_eq_getElem hlt⟩
          have hx2 := mapTo_at (f := moveE k a n) hx
          obtain ⟨kE, okE, -, -⟩ := hO.ents (b, E) (List.mem_of_getElem? hx2)
          have hOw := hO.own
          rw [HV.out] at hOw
          obtain ⟨g, o, hA', g0, -⟩ := hOw.at_ (i := j) (u := .pointer (some ⟨b, 0, none⟩)) (by rw [List.getElem?_map, hx2]; rfl)
          subst hA'
          have HSB := Lib.hid (HST.out.b.mod hm (fun h => HXB.out (List.mem_cons_of_mem _ h)))
          have hbs : b ≠ w.heap.size := fun e => HXB.out (List.mem_cons_of_mem _ (List.mem_map.2 ⟨_, List.mem_of_getElem? hx, e⟩))
          have HRC := Lib.hid (fun w' hb => reached_any b E w' (kE.below (w' := w') hb) okE)
          have HMV := Lib.hid (fun p => Move_hidP p k a n)
          have HKE : Hid (EntAt wr b E) := Lib.hid kE
          have HOK : Hid (EntOk E) := Lib.hid okE
          have HS : Hid (∀ w2, EntAt w2 b (moveE k a n E) → Mod [b] wr w2 → BlO w2 p v0 (mapTo (moveE k a n) (j + 1) L0) mo ids dir ∧ Mod (L0.map (·.1)) W w2) := Lib.hid (by
            intro w2 h2 hm2
            refine ⟨?_, hm.trans hm2 (fun g hg => .inl (by rw [List.mem_singleton.1 hg]; exact List.mem_map.2 ⟨_, List.mem_of_getElem? hx, rfl⟩))⟩
            rw [← mapTo_succ hx]
            exact hO.setAt hx2 h2 ⟨movTo_len okE.four, okE.lo, okE.hi⟩ hm2)
          have hjN : (j : Int) < (L0.length : Int) := by omega
          have hph4 : E.ph ≤ 4 := okE.hi
          clear hO hm hx hx2 kE okE r0 hOw
          go_wp2_with (go_at_call 30; refine (HRC.out _ (Below.refl _ _)).mono ?_; rintro e w1 ⟨rfl, hb1⟩; have HB1 := Lib.hid hb1; clear hb1)
          obtain ⟨wo, hwo⟩ : ∃ wo : World, wo = wr := ⟨_, rfl⟩
          rw [← hwo] at HKE HSB HS HB1
          clear hwo g0 HRC
          generalize hphe : E.ph = ph at hph4 ⊢
          have HPH := Lib.hid hphe
          clear hphe
          go_loopw [35] (fun i wr => ∃ m : Nat, m ≤ ph ∧ i = .int .i64 m ∧ EntAt wr b (movTo k a n m E) ∧ Mod [b] wo wr) (fun i _ => ph - (intOf i).toNat)
          case atStart => exact ⟨0, Nat.zero_le _, rfl, by rw [movTo_zero]; exact HKE.out.below HB1.out, Mod.of_below HB1.out⟩
          case round =>
            obtain ⟨m, hm, rfl, hE, hmd⟩ := hrel
            by_cases hlt2 : m < ph
            rotate_left
            · obtain rfl : m = ph := by omega
              have HS2 := Lib.hid (HS.out wr (by rw [← movTo_all, HPH.out]; exact hE) hmd)
              clear hE hmd
              go_wp2
              go_roundw
              case rel => exact ⟨j + 1, by omega, by go_num, HS2.out.1, HS2.out.2⟩
              case measure => simp [intOf]; omega
            · have hml : m < E.pl.length := by rw [HOK.out.four]; omega
              have hpe := at_get hml
              obtain ⟨⟨c0, c0f⟩, c1, c1f⟩ := hE.place (movTo_at (k := k) (a := a) (n := n) hpe)
              obtain ⟨s0, s1, s2⟩ := HSB.out.mod hmd (by simp; omega)
              have HMP := Lib.hid (HMV.out (E.at_ m)).out
              have HC := Lib.hid (And.intro (And.intro c0 c0f) (And.intro c1 c1f))
              have HE2 : Hid (∀ w3, Below wr.heap.size wr w3 → EntAt ((w3.setCell ⟨b, 6 + m * 2, none⟩ (.int .i64 (mv (E.at_ m).1 (E.at_ m).2 k a n).1)).setCell ⟨b, 6 + m * 2 + 1, none⟩ (.int .i64 (mv (E.at_ m).1 (E.at_ m).2 k a n).2)) b (movTo k a n (m + 1) E) ∧ Mod [b] wo ((w3.setCell ⟨b, 6 + m * 2, none⟩ (.int .i64 (mv (E.at_ m).1 (E.at_ m).2 k a n).1)).setCell ⟨b, 6 + m * 2 + 1, none⟩ (.int .i64 (mv (E.at_ m).1 (E.at_ m).2 k a n).2))) := Lib.hid (by
                intro w3 hb
                refine ⟨?_, ((hmd.then_below hb).setCell (.inl (by simp)) _).setCell (.inl (by simp)) _⟩
                rw [← movTo_succ hpe]
                exact (hE.below hb).setPlace (by rw [movTo_len HOK.out.four]; have := HOK.out.four; omega) _)
              have hbw := hE.lt
              have hmN : (m : Int) < (ph : Int) := by omega
              have hsw := lt_of_cell s0
              generalize (mv (E.at_ m).1 (E.at_ m).2 k a n).1 = y1 at HMP HE2
              generalize (mv (E.at_ m).1 (E.at_ m).2 k a n).2 = y2 at HMP HE2
              generalize (E.at_ m).1 = x1 at HMP c0 HC
              generalize (E.at_ m).2 = x2 at HMP c1 HC
              clear hE hmd hpe hml c0f c1f
              go_wp2_with (go_at_call 31; refine (HMP.out _).mono ?_; rintro e w3 ⟨rfl, hb3⟩; have hb4 := below_tail (below_allocs (Below.refl wr.heap.size wr) _) hb3; obtain ⟨⟨z0, z0f⟩, z1, z1f⟩ : HoldAt w3 b (6 + m * 2) (.int .i64 x1) ∧ HoldAt w3 b (6 + m * 2 + 1) (.int .i64 x2) := ⟨hold hb4 HC.out.1, hold hb4 HC.out.2⟩; have HE4 := Lib.hid (HE2.out w3 hb4); clear hb3)
              go_roundw
              case rel => exact ⟨m + 1, by omega, by go_num, HE4.out.1, HE4.out.2⟩
              case measure => simp [intOf]; omega
end Go.Proofs.Ytgfaincejebogaa
