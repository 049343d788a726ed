/- The program's store of points: best, Next, Ahead. Conditions: as stated. -/
import Derived.Test.YtfadcmjdlfobhaaPtE
import Derived.Deep.MidRow
import Derived.Laws.ResultCell
namespace Go.Proofs.Ytfadcmjdlfobhaa
open Go.RowKit Go.Sort

def BestPost (w : World) (o : Option P2) (e : Ending) (w' : World) : Prop := e = .returned (.tuple #[.agg #[.int .i64 (o.getD (0, 0)).1, .int .i64 (o.getD (0, 0)).2], .bool o.isSome]) ∧ Below w.heap.size w w'
theorem set_two {W : World} {b : Nat} {u v u' v' : Value} (h0 : W.cell? ⟨b, 0, none⟩ = some u ∧ W.frozen? ⟨b, 0, none⟩ = false) (h1 : W.cell? ⟨b, 1, none⟩ = some v ∧ W.frozen? ⟨b, 1, none⟩ = false) :
    (((W.setCell ⟨b, 0, none⟩ u').setCell ⟨b, 1, none⟩ v').cell? ⟨b, 0, none⟩ = some u' ∧ ((W.setCell ⟨b, 0, none⟩ u').setCell ⟨b, 1, none⟩ v').frozen? ⟨b, 0, none⟩ = false) ∧ ((W.setCell ⟨b, 0, none⟩ u').setCell ⟨b, 1, none⟩ v').cell? ⟨b, 1, none⟩ = some v' ∧ ((W.setCell ⟨b, 0, none⟩ u').setCell ⟨b, 1, none⟩ v').frozen? ⟨b, 1, none⟩ = false := by
  have k0 := set_self (u := u') h0
  have k1 : (W.setCell ⟨b, 0, none⟩ u').cell? ⟨b, 1, none⟩ = some v ∧ (W.setCell ⟨b, 0, none⟩ u').frozen? ⟨b, 1, none⟩ = false := ⟨(World.cell?_setCell_other W _ _ _ (fun e => by injection e with e1 e2; omega)).trans h1.1, by rw [World.frozen?_setCell]; exact h1.2⟩
  exact ⟨⟨(World.cell?_setCell_other _ _ _ _ (fun e => by injection e with e1 e2; omega)).trans k0.1, by rw [World.frozen?_setCell]; exact k0.2⟩, set_self k1⟩
theorem info_pos1 : (Try.prog.info? 30).map (·.size) = some 2 := by kernel_rfl
theorem ret_pos {fn : Func} {p u : Tmp} (hr : fn.results = #[.cell p 30, .tmp u]) (tmps : Array Value) (w : World) (b : Nat) (x y : Int) (hp : tmps.getD p undef = .pointer (some ⟨b, 0, none⟩)) (h0 : w.cell? ⟨b, 0, none⟩ = some (.int .i64 x)) (h1 : w.cell? ⟨b, 1, none⟩ = some (.int .i64 y)) :
    (results fn tmps).run Try.prog w = .ok (.tuple #[.agg #[.int .i64 x, .int .i64 y], tmps.getD u undef]) w := by
  rw [results_cell_tmp hr, hp]
  have := run_loadVar_mid (P := Try.prog) w b 0 30 [.int .i64 x, .int .i64 y] _ (by
    intro j v hj
    match j, hj with
    | 0, hj => obtain rfl : Value.int .i64 x = v := by simpa using hj
               simpa using h0
    | 1, hj => obtain rfl : Value.int .i64 y = v := by simpa using hj
               simpa using h1) Try.underlying30 rfl info_pos1
  simp only [asAddr, Sem.run_pure, Result.andThen_ok, this]
theorem best_end {w w1 wr : World} (hB : Below w.heap.size w w1) (hm : Mod [w.heap.size + 1] w1 wr) (u v : Value) : Below w.heap.size w ((wr.setCell ⟨w.heap.size, 0, none⟩ u).setCell ⟨w.heap.size, 1, none⟩ v) :=
  hB.trans ((((hm.mono (Y := [w.heap.size, w.heap.size + 1]) (fun g hg => by simp at hg; simp [hg])).setCell (a := ⟨w.heap.size, 0, none⟩) (.inl (by simp)) u).setCell (a := ⟨w.heap.size, 1, none⟩) (.inl (by simp)) v).below (fun g hg => by simp at hg; omega) hB.size)
def HoldAt (W : World) (b i : Nat) (v : Value) : Prop := W.cell? ⟨b, i, none⟩ = some v ∧ W.frozen? ⟨b, i, none⟩ = false
set_option maxRecDepth 100000 in
set_option maxHeartbeats 1600000 in
theorem BestN_any (p : Nat) (F : List Nat) (most : Int) (L : List P2) (fb : Nat) (r c : Int) (w : World) (h : PtSt w p F most L) (hz : L.length ≤ 1000000) (f0 : w.cell? ⟨fb, 0, none⟩ = some (.int .i64 r)) (f1 : w.cell? ⟨fb, 1, none⟩ = some (.int .i64 c)) :
    Calls Try.prog 50 #[.pointer (some ⟨p, 0, none⟩), .func (.func 51) #[] #[.pointer (some ⟨fb, 0, none⟩)], .func (.func 52) #[] #[]] w (BestPost w (bestOf (fun x => ltP (r, c) x) ltP L)) := by
  have HP : Hid (∀ w', Below w.heap.size w w' → Calls Try.prog 21 #[.pointer (some ⟨p, 0, none⟩)] w' (PosPost w' L)) := Lib.hid fun w' hb => PtPlaces_any p F most L w' (h.below hb) hz
  have hfw := lt_of_cell f0
  clear h
  go_enter Try.func50, Try.ntmps50
  go_wp2_with (go_at_call 21; refine (HP.out _ (below_allocs (below_allocs (Below.refl _ _) _) _)).mono ?_; rintro e w1 ⟨v, rfl, ho, hb1⟩; obtain ⟨A1, c1, rfl, -, -, -, hg⟩ := gr_of_owns encP_len ho rfl; have HG := Lib.hid hg; have HO := Lib.hid ho; have hB := below_tail (show Below w.heap.size w _ from by repeat (first | exact Below.refl _ _ | refine below_allocs ?_ _ | refine below_drewNs ?_ _ | refine Below.drew ?_)) hb1; have a0 := at_new (b := w.heap.size) hb1 (by repeat (first | (refine hp_new ?_; simp; done) | refine hp_old ?_ | refine hp_drewN ?_ | refine hp_drew ?_)) 0 (.int .i64 0) rfl; have a1 := at_new (b := w.heap.size) hb1 (by repeat (first | (refine hp_new ?_; simp; done) | refine hp_old ?_ | refine hp_drewN ?_ | refine hp_drew ?_)) 1 (.int .i64 0) rfl; have b0 := at_new (b := w.heap.size + 1) hb1 (by repeat (first | (refine hp_new ?_; simp; done) | refine hp_old ?_ | refine hp_drewN ?_ | refine hp_drew ?_)) 0 (.int .i64 0) rfl; have b1 := at_new (b := w.heap.size + 1) hb1 (by repeat (first | (refine hp_new ?_; simp; done) | refine hp_old ?_ | refine hp_drewN ?_ | refine hp_drew ?_)) 1 (.int .i64 0) rfl; clear ho hg)
  have hsz : w.heap.size + 1 < w1.heap.size := lt_of_cell b0.1
  have hOB : Hid (∀ g, (Value.slice A1 L.length c1).ownBlock = some g → w.heap.size + 2 ≤ g) := Lib.hid (fun g hg => by have := (HO.out.lt g hg).1; simpa using this)
  replace f0 := holda hB f0
  replace f1 := holda hB f1
  clear HO
  go_loopw [9, 15] (fun s9 i wr => ∃ j : Nat, j ≤ L.length ∧ i = .int .i64 j ∧ s9 = .bool (bestOf (fun x => ltP (r, c) x) ltP (L.take j)).isSome ∧ HoldAt wr (w.heap.size + 1) 0 (.int .i64 ((bestOf (fun x => ltP (r, c) x) ltP (L.take j)).getD (0, 0)).1) ∧ HoldAt wr (w.heap.size + 1) 1 (.int .i64 ((bestOf (fun x => ltP (r, c) x) ltP (L.take j)).getD (0, 0)).2) ∧ Mod [w.heap.size + 1] w1 wr) (fun _ i _ => L.length - (intOf i).toNat)
  case atStart => exact ⟨0, Nat.zero_le _, rfl, rfl, b0, b1, Mod.refl _ _⟩
  case round =>
    obtain ⟨j, hj, rfl, rfl, k0, k1, hmd⟩ := hrel
    unfold HoldAt at k0 k1
    have hnot : ∀ g, g < w.heap.size + 1 ∨ w.heap.size + 2 ≤ g → g ∉ [w.heap.size + 1] := fun g hg e => by rw [List.mem_singleton.1 e] at hg; omega
    replace a0 := hmd.hold (hnot _ (by omega)) a0
    replace a1 := hmd.hold (hnot _ (by omega)) a1
    replace f0 := hmd.cell (hnot _ (by omega)) f0
    replace f1 := hmd.cell (hnot _ (by omega)) f1
    have HMD := Lib.hid hmd
    have HBT := Lib.hid hB
    by_cases hlt : j < L.length
    rotate_left
    · obtain rfl : j = L.length := by omega
      rw [List.take_length] at k0 k1 ⊢
      generalize hob : bestOf (fun x => ltP (r, c) x) ltP L = ob at k0 k1 ⊢
      have HOE := Lib.hid hob
      clear hmd b0 b1 f0 f1 HG hob
      go_wp2
      obtain ⟨⟨r0, -⟩, r1, -⟩ := set_two (u' := .int .i64 (ob.getD (0, 0)).1) (v' := .int .i64 (ob.getD (0, 0)).2) a0 a1
      try simp only [Exit.inBlock, Exit.then]
      refine bodyPost_ret (ret_pos rfl _ _ w.heap.size _ _ rfl r0 r1) rfl ?_
      show BestPost w (bestOf (fun x => ltP (r, c) x) ltP L) _ _
      rw [HOE.out]
      exact ⟨rfl, best_end HBT.out HMD.out _ _⟩
    · obtain ⟨b, off, x, hA, hx, cx⟩ := HG.out.at_ hlt
      have HX := Lib.hid hx
      obtain ⟨x1, x2⟩ := x
      have hb2 := hOB.out b (by rw [hA]; rfl)
      have c0 : wr.cell? ⟨b, off + j * 2, none⟩ = some (.int .i64 x1) := hmd.cell (hnot b (.inr hb2)) (cx 0 _ rfl)
      have c1' := hmd.cell (hnot b (.inr hb2)) (cx 1 _ rfl)
      subst hA
      have hsn : bestOf (fun x => ltP (r, c) x) ltP (L.take (j + 1)) = bestG (fun x => ltP (r, c) x) ltP (bestOf (fun x => ltP (r, c) x) ltP (L.take j)) (x1, x2) := by rw [take_snoc hx, bestOf_snoc]
      have HSN := Lib.hid hsn
      have hbw := lt_of_cell c0
      have haw := lt_of_cell a0.1
      have hfw2 := lt_of_cell f0
      have how := lt_of_cell k0.1
      clear hmd b0 b1 cx hx hsn hB
      have HT : Hid (∀ w' : World, Below wr.heap.size wr w' → Calls Try.prog 51 #[.agg #[.int .i64 x1, .int .i64 x2], .pointer (some ⟨fb, 0, none⟩)] w' fun e w'' => e = .returned (.bool (ltP (r, c) (x1, x2))) ∧ Below w'.heap.size w' w'') := Lib.hid fun w' hb => Next1_any fb r c x1 x2 w' (holda hb f0) (holda hb f1)
      generalize hT : ltP (r, c) (x1, x2) = tx at HT
      have HTX := Lib.hid hT
      generalize hob : bestOf (fun x => ltP (r, c) x) ltP (L.take j) = ob at k0 k1 HSN
      clear hob hT f0 f1
      cases tx with
      | false =>
        have e2 : bestG (fun x => ltP (r, c) x) ltP ob (x1, x2) = ob := by cases ob <;> simp [bestG, HTX.out]
        rw [e2] at HSN
        clear e2
        go_wp2_with (go_at_call 51; refine (HT.out _ (below_allocs (Below.refl _ _) _)).mono ?_; rintro e w2 ⟨rfl, hb2⟩; have hb3 := below_tail (below_allocs (Below.refl wr.heap.size wr) _) hb2)
        go_roundw
        case rel => exact ⟨j + 1, by omega, by go_num, by rw [HSN.out], by rw [HSN.out]; exact hold hb3 k0, by rw [HSN.out]; exact hold hb3 k1, HMD.out.then_below hb3⟩
        case measure => simp [intOf]; omega
      | true =>
        cases ob with
        | none =>
          have e2 : bestG (fun x => ltP (r, c) x) ltP none (x1, x2) = some (x1, x2) := by simp [bestG, HTX.out]
          rw [e2] at HSN
          clear e2
          simp only [Option.isSome_none, Option.getD_none] at k0 k1 ⊢
          go_wp2_with (go_at_call 51; refine (HT.out _ (below_allocs (Below.refl _ _) _)).mono ?_; rintro e w2 ⟨rfl, hb2⟩; have hB := below_tail (show Below wr.heap.size wr _ from by repeat (first | exact Below.refl _ _ | refine below_allocs ?_ _ | refine below_drewNs ?_ _ | refine Below.drew ?_)) hb2; have y0 := at_new (b := wr.heap.size) hb2 (by repeat (first | (refine hp_new ?_; simp; done) | refine hp_old ?_ | refine hp_drewN ?_ | refine hp_drew ?_)) 0 (.int .i64 x1) rfl; have y1 := at_new (b := wr.heap.size) hb2 (by repeat (first | (refine hp_new ?_; simp; done) | refine hp_old ?_ | refine hp_drewN ?_ | refine hp_drew ?_)) 1 (.int .i64 x2) rfl; replace k0 := hold hB k0; replace k1 := hold hB k1)
          go_roundw
          case rel =>
            obtain ⟨r0, r1⟩ := set_two (u' := .int .i64 x1) (v' := .int .i64 x2) k0 k1
            exact ⟨j + 1, by omega, by go_num, by rw [HSN.out]; rfl, by rw [HSN.out]; exact r0, by rw [HSN.out]; exact r1, ((HMD.out.then_below hB).setCell (.inl (by simp)) _).setCell (.inl (by simp)) _⟩
          case measure => simp [intOf]; omega
        | some q =>
          obtain ⟨q1, q2⟩ := q
          have HBB : Hid (∀ w' : World, Calls Try.prog 52 #[.agg #[.int .i64 x1, .int .i64 x2], .agg #[.int .i64 q1, .int .i64 q2]] w' fun e w'' => e = .returned (.bool (ltP (x1, x2) (q1, q2))) ∧ Below w'.heap.size w' w'') := Lib.hid fun w' => Less_any x1 x2 q1 q2 w'
          generalize hbx : ltP (x1, x2) (q1, q2) = bx at HBB
          have HBX := Lib.hid hbx
          clear hbx
          simp only [Option.isSome_some, Option.getD_some] at k0 k1 ⊢
          cases bx with
          | false =>
            have e2 : bestG (fun x => ltP (r, c) x) ltP (some (q1, q2)) (x1, x2) = some (q1, q2) := by simp [bestG, HTX.out, HBX.out]
            rw [e2] at HSN
            clear e2
            go_wp2_with (first
              | (go_at_call 51; refine (HT.out _ (below_allocs (Below.refl _ _) _)).mono ?_; rintro e w2 ⟨rfl, hb2⟩; have hB := below_tail (show Below wr.heap.size wr _ from by repeat (first | exact Below.refl _ _ | refine below_allocs ?_ _ | refine below_drewNs ?_ _ | refine Below.drew ?_)) hb2; have y0 := at_new (b := wr.heap.size) hb2 (by repeat (first | (refine hp_new ?_; simp; done) | refine hp_old ?_ | refine hp_drewN ?_ | refine hp_drew ?_)) 0 (.int .i64 x1) rfl; have y1 := at_new (b := wr.heap.size) hb2 (by repeat (first | (refine hp_new ?_; simp; done) | refine hp_old ?_ | refine hp_drewN ?_ | refine hp_drew ?_)) 1 (.int .i64 x2) rfl; replace k0 := hold hB k0; replace k1 := hold hB k1)
              | (go_at_call 52; refine (HBB.out _).mono ?_; rintro e w3 ⟨rfl, hb4⟩; replace hB := below_tail hB hb4; replace k0 := hold hb4 k0; replace k1 := hold hb4 k1))
            go_roundw
            case rel => exact ⟨j + 1, by omega, by go_num, by rw [HSN.out]; rfl, by rw [HSN.out]; exact k0, by rw [HSN.out]; exact k1, HMD.out.then_below hB⟩
            case measure => simp [intOf]; omega
          | true =>
            have e2 : bestG (fun x => ltP (r, c) x) ltP (some (q1, q2)) (x1, x2) = some (x1, x2) := by simp [bestG, HTX.out, HBX.out]
            rw [e2] at HSN
            clear e2
            go_wp2_with (first
              | (go_at_call 51; refine (HT.out _ (below_allocs (Below.refl _ _) _)).mono ?_; rintro e w2 ⟨rfl, hb2⟩; have hB := below_tail (show Below wr.heap.size wr _ from by repeat (first | exact Below.refl _ _ | refine below_allocs ?_ _ | refine below_drewNs ?_ _ | refine Below.drew ?_)) hb2; have y0 := at_new (b := wr.heap.size) hb2 (by repeat (first | (refine hp_new ?_; simp; done) | refine hp_old ?_ | refine hp_drewN ?_ | refine hp_drew ?_)) 0 (.int .i64 x1) rfl; have y1 := at_new (b := wr.heap.size) hb2 (by repeat (first | (refine hp_new ?_; simp; done) | refine hp_old ?_ | refine hp_drewN ?_ | refine hp_drew ?_)) 1 (.int .i64 x2) rfl; replace k0 := hold hB k0; replace k1 := hold hB k1)
              | (go_at_call 52; refine (HBB.out _).mono ?_; rintro e w3 ⟨rfl, hb4⟩; replace hB := below_tail hB hb4; replace k0 := hold hb4 k0; replace k1 := hold hb4 k1; replace y0 := hold hb4 y0; replace y1 := hold hb4 y1))
            go_roundw
            case rel =>
              obtain ⟨r0, r1⟩ := set_two (u' := .int .i64 x1) (v' := .int .i64 x2) k0 k1
              exact ⟨j + 1, by omega, by go_num, by rw [HSN.out]; rfl, by rw [HSN.out]; exact r0, by rw [HSN.out]; exact r1, ((HMD.out.then_below hB).setCell (.inl (by simp)) _).setCell (.inl (by simp)) _⟩
            case measure => simp [intOf]; omega
set_option maxRecDepth 100000 in
set_option maxHeartbeats 1600000 in
theorem PtNext_any (p : Nat) (F : List Nat) (most : Int) (L : List P2) (r c : Int) (w : World) (h : PtSt w p F most L) (hz : L.length ≤ 1000000) :
    Calls Try.prog 28 #[.pointer (some ⟨p, 0, none⟩), .agg #[.int .i64 r, .int .i64 c]] w (BestPost w (bestOf (fun x => ltP (r, c) x) ltP L)) := by
  have HB : Hid (∀ w', Below w.heap.size w w' → w'.cell? ⟨w.heap.size, 0, none⟩ = some (.int .i64 r) → w'.cell? ⟨w.heap.size, 1, none⟩ = some (.int .i64 c) → Calls Try.prog 50 #[.pointer (some ⟨p, 0, none⟩), .func (.func 51) #[] #[.pointer (some ⟨w.heap.size, 0, none⟩)], .func (.func 52) #[] #[]] w' (BestPost w' (bestOf (fun x => ltP (r, c) x) ltP L))) := Lib.hid fun w' hb f0 f1 => BestN_any p F most L w.heap.size r c w' (h.below hb) hz f0 f1
  have hmf : ∀ (fn : Fn) (first cap : Array Value) (w : World), (Instr.makeFunc fn first cap).run Try.prog w = .ok (.func fn first cap) w := fun _ _ _ _ => rfl
  generalize bestOf (fun x => ltP (r, c) x) ltP L = o at HB ⊢
  have F0 := Lib.hid (at_ (W := (w.alloc (.cells #[.int .i64 r, .int .i64 c] 30)).alloc (.cells #[.int .i64 0, .int .i64 0] 30)) (hp_old (hp_new rfl)) 0 (.int .i64 r) rfl).1
  have F1 := Lib.hid (at_ (W := (w.alloc (.cells #[.int .i64 r, .int .i64 c] 30)).alloc (.cells #[.int .i64 0, .int .i64 0] 30)) (hp_old (hp_new rfl)) 1 (.int .i64 c) rfl).1
  clear h
  go_enter Try.func28, Try.ntmps28
  go_wp2_with (go_at_call 50; refine (HB.out _ (below_allocs (below_allocs (Below.refl _ _) _) _) F0.out F1.out).mono ?_; rintro e w1 ⟨rfl, hb1⟩; have hB := below_tail (show Below w.heap.size w _ from by repeat (first | exact Below.refl _ _ | refine below_allocs ?_ _ | refine below_drewNs ?_ _ | refine Below.drew ?_)) hb1; have a0 := at_new (b := w.heap.size + 1) hb1 (by repeat (first | (refine hp_new ?_; simp; done) | refine hp_old ?_ | refine hp_drewN ?_ | refine hp_drew ?_)) 0 (.int .i64 0) rfl; have a1 := at_new (b := w.heap.size + 1) hb1 (by repeat (first | (refine hp_new ?_; simp; done) | refine hp_old ?_ | refine hp_drewN ?_ | refine hp_drew ?_)) 1 (.int .i64 0) rfl)
  obtain ⟨⟨r0, -⟩, r1, -⟩ := set_two (u' := .int .i64 (o.getD (0, 0)).1) (v' := .int .i64 (o.getD (0, 0)).2) a0 a1
  try simp only [Exit.inBlock, Exit.then]
  refine bodyPost_ret (ret_pos rfl _ _ (w.heap.size + 1) _ _ rfl r0 r1) rfl ?_
  exact ⟨rfl, (((Mod.of_below (X := []) hB).setCell (a := ⟨w.heap.size + 1, 0, none⟩) (.inr (by simp)) _).setCell (a := ⟨w.heap.size + 1, 1, none⟩) (.inr (by simp)) _).below (fun g hg => by cases hg) (Nat.le_refl _)⟩
set_option maxRecDepth 100000 in
set_option maxHeartbeats 1600000 in
theorem BestA_any (p : Nat) (F : List Nat) (most : Int) (L : List P2) (fb : Nat) (r c : Int) (w : World) (h : PtSt w p F most L) (hz : L.length ≤ 1000000) (f0 : w.cell? ⟨fb, 0, none⟩ = some (.int .i64 r)) (f1 : w.cell? ⟨fb, 1, none⟩ = some (.int .i64 c)) :
    Calls Try.prog 50 #[.pointer (some ⟨p, 0, none⟩), .func (.func 53) #[] #[.pointer (some ⟨fb, 0, none⟩)], .func (.func 54) #[] #[]] w (BestPost w (bestOf (fun x => ltP x (r, c)) (fun a b => ltP b a) L)) := by
  have HP : Hid (∀ w', Below w.heap.size w w' → Calls Try.prog 21 #[.pointer (some ⟨p, 0, none⟩)] w' (PosPost w' L)) := Lib.hid fun w' hb => PtPlaces_any p F most L w' (h.below hb) hz
  have hfw := lt_of_cell f0
  clear h
  go_enter Try.func50, Try.ntmps50
  go_wp2_with (go_at_call 21; refine (HP.out _ (below_allocs (below_allocs (Below.refl _ _) _) _)).mono ?_; rintro e w1 ⟨v, rfl, ho, hb1⟩; obtain ⟨A1, c1, rfl, -, -, -, hg⟩ := gr_of_owns encP_len ho rfl; have HG := Lib.hid hg; have HO := Lib.hid ho; have hB := below_tail (show Below w.heap.size w _ from by repeat (first | exact Below.refl _ _ | refine below_allocs ?_ _ | refine below_drewNs ?_ _ | refine Below.drew ?_)) hb1; have a0 := at_new (b := w.heap.size) hb1 (by repeat (first | (refine hp_new ?_; simp; done) | refine hp_old ?_ | refine hp_drewN ?_ | refine hp_drew ?_)) 0 (.int .i64 0) rfl; have a1 := at_new (b := w.heap.size) hb1 (by repeat (first | (refine hp_new ?_; simp; done) | refine hp_old ?_ | refine hp_drewN ?_ | refine hp_drew ?_)) 1 (.int .i64 0) rfl; have b0 := at_new (b := w.heap.size + 1) hb1 (by repeat (first | (refine hp_new ?_; simp; done) | refine hp_old ?_ | refine hp_drewN ?_ | refine hp_drew ?_)) 0 (.int .i64 0) rfl; have b1 := at_new (b := w.heap.size + 1) hb1 (by repeat (first | (refine hp_new ?_; simp; done) | refine hp_old ?_ | refine hp_drewN ?_ | refine hp_drew ?_)) 1 (.int .i64 0) rfl; clear ho hg)
  have hsz : w.heap.size + 1 < w1.heap.size := lt_of_cell b0.1
  have hOB : Hid (∀ g, (Value.slice A1 L.length c1).ownBlock = some g → w.heap.size + 2 ≤ g) := Lib.hid (fun g hg => by have := (HO.out.lt g hg).1; simpa using this)
  replace f0 := holda hB f0
  replace f1 := holda hB f1
  clear HO
  go_loopw [9, 15] (fun s9 i wr => ∃ j : Nat, j ≤ L.length ∧ i = .int .i64 j ∧ s9 = .bool (bestOf (fun x => ltP x (r, c)) (fun a b => ltP b a) (L.take j)).isSome ∧ HoldAt wr (w.heap.size + 1) 0 (.int .i64 ((bestOf (fun x => ltP x (r, c)) (fun a b => ltP b a) (L.take j)).getD (0, 0)).1) ∧ HoldAt wr (w.heap.size + 1) 1 (.int .i64 ((bestOf (fun x => ltP x (r, c)) (fun a b => ltP b a) (L.take j)).getD (0, 0)).2) ∧ Mod [w.heap.size + 1] w1 wr) (fun _ i _ => L.length - (intOf i).toNat)
  case atStart => exact ⟨0, Nat.zero_le _, rfl, rfl, b0, b1, Mod.refl _ _⟩
  case round =>
    obtain ⟨j, hj, rfl, rfl, k0, k1, hmd⟩ := hrel
    unfold HoldAt at k0 k1
    have hnot : ∀ g, g < w.heap.size + 1 ∨ w.heap.size + 2 ≤ g → g ∉ [w.heap.size + 1] := fun g hg e => by rw [List.mem_singleton.1 e] at hg; omega
    replace a0 := hmd.hold (hnot _ (by omega)) a0
    replace a1 := hmd.hold (hnot _ (by omega)) a1
    replace f0 := hmd.cell (hnot _ (by omega)) f0
    replace f1 := hmd.cell (hnot _ (by omega)) f1
    have HMD := Lib.hid hmd
    have HBT := Lib.hid hB
    by_cases hlt : j < L.length
    rotate_left
    · obtain rfl : j = L.length := by omega
      rw [List.take_length] at k0 k1 ⊢
      generalize hob : bestOf (fun x => ltP x (r, c)) (fun a b => ltP b a) L = ob at k0 k1 ⊢
      have HOE := Lib.hid hob
      clear hmd b0 b1 f0 f1 HG hob
      go_wp2
      obtain ⟨⟨r0, -⟩, r1, -⟩ := set_two (u' := .int .i64 (ob.getD (0, 0)).1) (v' := .int .i64 (ob.getD (0, 0)).2) a0 a1
      try simp only [Exit.inBlock, Exit.then]
      refine bodyPost_ret (ret_pos rfl _ _ w.heap.size _ _ rfl r0 r1) rfl ?_
      show BestPost w (bestOf (fun x => ltP x (r, c)) (fun a b => ltP b a) L) _ _
      rw [HOE.out]
      exact ⟨rfl, best_end HBT.out HMD.out _ _⟩
    · obtain ⟨b, off, x, hA, hx, cx⟩ := HG.out.at_ hlt
      have HX := Lib.hid hx
      obtain ⟨x1, x2⟩ := x
      have hb2 := hOB.out b (by rw [hA]; rfl)
      have c0 : wr.cell? ⟨b, off + j * 2, none⟩ = some (.int .i64 x1) := hmd.cell (hnot b (.inr hb2)) (cx 0 _ rfl)
      have c1' := hmd.cell (hnot b (.inr hb2)) (cx 1 _ rfl)
      subst hA
      have hsn : bestOf (fun x => ltP x (r, c)) (fun a b => ltP b a) (L.take (j + 1)) = bestG (fun x => ltP x (r, c)) (fun a b => ltP b a) (bestOf (fun x => ltP x (r, c)) (fun a b => ltP b a) (L.take j)) (x1, x2) := by rw [take_snoc hx, bestOf_snoc]
      have HSN := Lib.hid hsn
      have hbw := lt_of_cell c0
      have haw := lt_of_cell a0.1
      have hfw2 := lt_of_cell f0
      have how := lt_of_cell k0.1
      clear hmd b0 b1 cx hx hsn hB
      have HT : Hid (∀ w' : World, Below wr.heap.size wr w' → Calls Try.prog 53 #[.agg #[.int .i64 x1, .int .i64 x2], .pointer (some ⟨fb, 0, none⟩)] w' fun e w'' => e = .returned (.bool (ltP (x1, x2) (r, c))) ∧ Below w'.heap.size w' w'') := Lib.hid fun w' hb => Ahead1_any fb r c x1 x2 w' (holda hb f0) (holda hb f1)
      generalize hT : ltP (x1, x2) (r, c) = tx at HT
      have HTX := Lib.hid hT
      generalize hob : bestOf (fun x => ltP x (r, c)) (fun a b => ltP b a) (L.take j) = ob at k0 k1 HSN
      clear hob hT f0 f1
      cases tx with
      | false =>
        have e2 : bestG (fun x => ltP x (r, c)) (fun a b => ltP b a) ob (x1, x2) = ob := by cases ob <;> simp [bestG, HTX.out]
        rw [e2] at HSN
        clear e2
        go_wp2_with (go_at_call 53; refine (HT.out _ (below_allocs (Below.refl _ _) _)).mono ?_; rintro e w2 ⟨rfl, hb2⟩; have hb3 := below_tail (below_allocs (Below.refl wr.heap.size wr) _) hb2)
        go_roundw
        case rel => exact ⟨j + 1, by omega, by go_num, by rw [HSN.out], by rw [HSN.out]; exact hold hb3 k0, by rw [HSN.out]; exact hold hb3 k1, HMD.out.then_below hb3⟩
        case measure => simp [intOf]; omega
      | true =>
        cases ob with
        | none =>
          have e2 : bestG (fun x => ltP x (r, c)) (fun a b => ltP b a) none (x1, x2) = some (x1, x2) := by simp [bestG, HTX.out]
          rw [e2] at HSN
          clear e2
          simp only [Option.isSome_none, Option.getD_none] at k0 k1 ⊢
          go_wp2_with (go_at_call 53; refine (HT.out _ (below_allocs (Below.refl _ _) _)).mono ?_; rintro e w2 ⟨rfl, hb2⟩; have hB := below_tail (show Below wr.heap.size wr _ from by repeat (first | exact Below.refl _ _ | refine below_allocs ?_ _ | refine below_drewNs ?_ _ | refine Below.drew ?_)) hb2; have y0 := at_new (b := wr.heap.size) hb2 (by repeat (first | (refine hp_new ?_; simp; done) | refine hp_old ?_ | refine hp_drewN ?_ | refine hp_drew ?_)) 0 (.int .i64 x1) rfl; have y1 := at_new (b := wr.heap.size) hb2 (by repeat (first | (refine hp_new ?_; simp; done) | refine hp_old ?_ | refine hp_drewN ?_ | refine hp_drew ?_)) 1 (.int .i64 x2) rfl; replace k0 := hold hB k0; replace k1 := hold hB k1)
          go_roundw
          case rel =>
            obtain ⟨r0, r1⟩ := set_two (u' := .int .i64 x1) (v' := .int .i64 x2) k0 k1
            exact ⟨j + 1, by omega, by go_num, by rw [HSN.out]; rfl, by rw [HSN.out]; exact r0, by rw [HSN.out]; exact r1, ((HMD.out.then_below hB).setCell (.inl (by simp)) _).setCell (.inl (by simp)) _⟩
          case measure => simp [intOf]; omega
        | some q =>
          obtain ⟨q1, q2⟩ := q
          have HBB : Hid (∀ w' : World, Calls Try.prog 54 #[.agg #[.int .i64 x1, .int .i64 x2], .agg #[.int .i64 q1, .int .i64 q2]] w' fun e w'' => e = .returned (.bool (ltP (q1, q2) (x1, x2))) ∧ Below w'.heap.size w' w'') := Lib.hid fun w' => Ahead2_any x1 x2 q1 q2 w'
          generalize hbx : ltP (q1, q2) (x1, x2) = bx at HBB
          have HBX := Lib.hid hbx
          clear hbx
          simp only [Option.isSome_some, Option.getD_some] at k0 k1 ⊢
          cases bx with
          | false =>
            have e2 : bestG (fun x => ltP x (r, c)) (fun a b => ltP b a) (some (q1, q2)) (x1, x2) = some (q1, q2) := by simp [bestG, HTX.out, HBX.out]
            rw [e2] at HSN
            clear e2
            go_wp2_with (first
              | (go_at_call 53; refine (HT.out _ (below_allocs (Below.refl _ _) _)).mono ?_; rintro e w2 ⟨rfl, hb2⟩; have hB := below_tail (show Below wr.heap.size wr _ from by repeat (first | exact Below.refl _ _ | refine below_allocs ?_ _ | refine below_drewNs ?_ _ | refine Below.drew ?_)) hb2; have y0 := at_new (b := wr.heap.size) hb2 (by repeat (first | (refine hp_new ?_; simp; done) | refine hp_old ?_ | refine hp_drewN ?_ | refine hp_drew ?_)) 0 (.int .i64 x1) rfl; have y1 := at_new (b := wr.heap.size) hb2 (by repeat (first | (refine hp_new ?_; simp; done) | refine hp_old ?_ | refine hp_drewN ?_ | refine hp_drew ?_)) 1 (.int .i64 x2) rfl; replace k0 := hold hB k0; replace k1 := hold hB k1)
              | (go_at_call 54; refine (HBB.out _).mono ?_; rintro e w3 ⟨rfl, hb4⟩; replace hB := below_tail hB hb4; replace k0 := hold hb4 k0; replace k1 := hold hb4 k1))
            go_roundw
            case rel => exact ⟨j + 1, by omega, by go_num, by rw [HSN.out]; rfl, by rw [HSN.out]; exact k0, by rw [HSN.out]; exact k1, HMD.out.then_below hB⟩
            case measure => simp [intOf]; omega
          | true =>
            have e2 : bestG (fun x => ltP x (r, c)) (fun a b => ltP b a) (some (q1, q2)) (x1, x2) = some (x1, x2) := by simp [bestG, HTX.out, HBX.out]
            rw [e2] at HSN
            clear e2
            go_wp2_with (first
              | (go_at_call 53; refine (HT.out _ (below_allocs (Below.refl _ _) _)).mono ?_; rintro e w2 ⟨rfl, hb2⟩; have hB := below_tail (show Below wr.heap.size wr _ from by repeat (first | exact Below.refl _ _ | refine below_allocs ?_ _ | refine below_drewNs ?_ _ | refine Below.drew ?_)) hb2; have y0 := at_new (b := wr.heap.size) hb2 (by repeat (first | (refine hp_new ?_; simp; done) | refine hp_old ?_ | refine hp_drewN ?_ | refine hp_drew ?_)) 0 (.int .i64 x1) rfl; have y1 := at_new (b := wr.heap.size) hb2 (by repeat (first | (refine hp_new ?_; simp; done) | refine hp_old ?_ | refine hp_drewN ?_ | refine hp_drew ?_)) 1 (.int .i64 x2) rfl; replace k0 := hold hB k0; replace k1 := hold hB k1)
              | (go_at_call 54; refine (HBB.out _).mono ?_; rintro e w3 ⟨rfl, hb4⟩; replace hB := below_tail hB hb4; replace k0 := hold hb4 k0; replace k1 := hold hb4 k1; replace y0 := hold hb4 y0; replace y1 := hold hb4 y1))
            go_roundw
            case rel =>
              obtain ⟨r0, r1⟩ := set_two (u' := .int .i64 x1) (v' := .int .i64 x2) k0 k1
              exact ⟨j + 1, by omega, by go_num, by rw [HSN.out]; rfl, by rw [HSN.out]; exact r0, by rw [HSN.out]; exact r1, ((HMD.out.then_below hB).setCell (.inl (by simp)) _).setCell (.inl (by simp)) _⟩
            case measure => simp [intOf]; omega
set_option maxRecDepth 100000 in
set_option maxHeartbeats 1600000 in
theorem PtAhead_any (p : Nat) (F : List Nat) (most : Int) (L : List P2) (r c : Int) (w : World) (h : PtSt w p F most L) (hz : L.length ≤ 1000000) :
    Calls Try.prog 29 #[.pointer (some ⟨p, 0, none⟩), .agg #[.int .i64 r, .int .i64 c]] w (BestPost w (bestOf (fun x => ltP x (r, c)) (fun a b => ltP b a) L)) := by
  have HB : Hid (∀ w', Below w.heap.size w w' → w'.cell? ⟨w.heap.size, 0, none⟩ = some (.int .i64 r) → w'.cell? ⟨w.heap.size, 1, none⟩ = some (.int .i64 c) → Calls Try.prog 50 #[.pointer (some ⟨p, 0, none⟩), .func (.func 53) #[] #[.pointer (some ⟨w.heap.size, 0, none⟩)], .func (.func 54) #[] #[]] w' (BestPost w' (bestOf (fun x => ltP x (r, c)) (fun a b => ltP b a) L))) := Lib.hid fun w' hb f0 f1 => BestA_any p F most L w.heap.size r c w' (h.below hb) hz f0 f1
  have hmf : ∀ (fn : Fn) (first cap : Array Value) (w : World), (Instr.makeFunc fn first cap).run Try.prog w = .ok (.func fn first cap) w := fun _ _ _ _ => rfl
  generalize bestOf (fun x => ltP x (r, c)) (fun a b => ltP b a) L = o at HB ⊢
  have F0 := Lib.hid (at_ (W := (w.alloc (.cells #[.int .i64 r, .int .i64 c] 30)).alloc (.cells #[.int .i64 0, .int .i64 0] 30)) (hp_old (hp_new rfl)) 0 (.int .i64 r) rfl).1
  have F1 := Lib.hid (at_ (W := (w.alloc (.cells #[.int .i64 r, .int .i64 c] 30)).alloc (.cells #[.int .i64 0, .int .i64 0] 30)) (hp_old (hp_new rfl)) 1 (.int .i64 c) rfl).1
  clear h
  go_enter Try.func29, Try.ntmps29
  go_wp2_with (go_at_call 50; refine (HB.out _ (below_allocs (below_allocs (Below.refl _ _) _) _) F0.out F1.out).mono ?_; rintro e w1 ⟨rfl, hb1⟩; have hB := below_tail (show Below w.heap.size w _ from by repeat (first | exact Below.refl _ _ | refine below_allocs ?_ _ | refine below_drewNs ?_ _ | refine Below.drew ?_)) hb1; have a0 := at_new (b := w.heap.size + 1) hb1 (by repeat (first | (refine hp_new ?_; simp; done) | refine hp_old ?_ | refine hp_drewN ?_ | refine hp_drew ?_)) 0 (.int .i64 0) rfl; have a1 := at_new (b := w.heap.size + 1) hb1 (by repeat (first | (refine hp_new ?_; simp; done) | refine hp_old ?_ | refine hp_drewN ?_ | refine hp_drew ?_)) 1 (.int .i64 0) rfl)
  obtain ⟨⟨r0, -⟩, r1, -⟩ := set_two (u' := .int .i64 (o.getD (0, 0)).1) (v' := .int .i64 (o.getD (0, 0)).2) a0 a1
  try simp only [Exit.inBlock, Exit.then]
  refine bodyPost_ret (ret_pos rfl _ _ (w.heap.size + 1) _ _ rfl r0 r1) rfl ?_
  exact ⟨rfl, (((Mod.of_below (X := []) hB).setCell (a := ⟨w.heap.size + 1, 0, none⟩) (.inr (by simp)) _).setCell (a := ⟨w.heap.size + 1, 1, none⟩) (.inr (by simp)) _).below (fun g hg => by cases hg) (Nat.le_refl _)⟩
end Go.Proofs.Ytfadcmjdlfobhaa
