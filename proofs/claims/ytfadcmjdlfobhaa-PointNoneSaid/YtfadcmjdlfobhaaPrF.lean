/- The document's store of points: Put. Conditions: as stated. -/
import Derived.Test.YtfadcmjdlfobhaaPrD
namespace Go.Proofs.Ytfadcmjdlfobhaa
open Go.RowKit Go.Sort

/-- The points of P, put one behind the other. -/
def putA (P : List P2) : Nat → List PA
  | 0 => []
  | i + 1 => match P[i]? with
    | some p => insP (p, (i : Int) + 1) (putA P i)
    | none => putA P i
theorem putA_succ {P : List P2} {i : Nat} {p : P2} (h : P[i]? = some p) : putA P (i + 1) = insP (p, (i : Int) + 1) (putA P i) := by rw [putA, h]
theorem putA_len (P : List P2) : ∀ i, (putA P i).length ≤ i
  | 0 => by simp [putA]
  | i + 1 => by
    have := putA_len P i
    rw [putA]
    split
    · rw [insP_len]; omega
    · omega
theorem pts_putA (most : Nat) (P : List P2) : ∀ i, i ≤ P.length → Pts most (i : Int) (P.take i) (putA P i)
  | 0, _ => by simpa [putA] using Pts.nil most 0
  | i + 1, h => by
    have hp : P[i]? = some P[i] := List.getElem?_eq_getElem (by omega)
    have := (pts_putA most P i (by omega)).put (by omega) P[i]
    rw [putA_succ hp, List.take_succ_eq_append_getElem (by omega), show ((i + 1 : Nat) : Int) = (i : Int) + 1 by omega]
    exact this
def PrPutPost (w : World) (q : Nat) (G : List Nat) (most : Int) (M : List PA) (P : List P2) (e : Ending) (w' : World) : Prop :=
  if okPut (M.map (·.1)) P = true then e = .returned (.bool true) ∧ ∃ G', PrSt w' q G' most (P.length : Nat) (putA P P.length) ∧ Mod G w w' ∧ ∀ g ∈ G', g ∈ G ∨ w.heap.size ≤ g
  else e = .returned (.bool false) ∧ Below w.heap.size w w'
set_option maxRecDepth 100000 in
set_option maxHeartbeats 3200000 in
theorem PrPut_any (q : Nat) (G : List Nat) (most next : Int) (M : List PA) (B : Option Addr) (P : List P2) (cb : Nat) (w : World) (h : PrSt w q G most next M) (hP : GrAt encP 2 w B P) (hB : ∀ b off, B = some ⟨b, off, none⟩ → 0 < P.length → b ∉ G) (hz : P.length ≤ 1000) :
    Calls Try.prog 26 #[.pointer (some ⟨q, 0, none⟩), .slice B P.length cb] w (PrPutPost w q G most M P) := by
  have HH := Lib.hid h
  have HP := Lib.hid hP
  obtain ⟨v, hG, h0, h1, h2, ho⟩ := h
  obtain ⟨A, ca, hv⟩ := row_form ho
  subst hv
  have HG := Lib.hid hG
  have hqB : Hid (∀ b off, B = some ⟨b, off, none⟩ → 0 < P.length → b ∉ [q]) := Lib.hid (fun b off e hp hm => hB b off e hp (by rw [hG]; rw [List.mem_singleton.1 hm]; simp))
  have hq := lt_of_cell h0
  clear hG ho hP hB
  by_cases hlen : P.length = M.length
  rotate_left
  · have e1 : okPut (M.map (·.1)) P = false := by simp [okPut, hlen]
    have hne : ((P.length : Int) != (M.length : Int)) = true := by simp; omega
    have E1 := Lib.hid e1
    clear hlen e1
    go_enter Try.func26, Try.ntmps26
    go_wp2
    go_ret
    unfold PrPutPost
    rw [E1.out]
    exact ⟨rfl, Below.refl _ _⟩
  have hne : ((P.length : Int) != (M.length : Int)) = false := by simp; omega
  have HLEN := Lib.hid hlen
  have hst0 : ShSt w q most 0 [] ((w.setCell ⟨q, 2, none⟩ (.slice none 0 0)).setCell ⟨q, 1, none⟩ (.int .i64 0)) := by
    have k1 : (w.setCell ⟨q, 2, none⟩ (.slice none 0 0)).cell? ⟨q, 1, none⟩ = some (.int .i64 next) ∧ (w.setCell ⟨q, 2, none⟩ (.slice none 0 0)).frozen? ⟨q, 1, none⟩ = false := ⟨(World.cell?_setCell_other _ _ _ _ (fun e => by injection e with e1 e2; omega)).trans h1.1, by rw [World.frozen?_setCell]; exact h1.2⟩
    have k2 := set_self (u := .slice none 0 0) h2
    refine ⟨[q], ⟨.slice none 0 0, rfl, ?_, set_self k1, ⟨?_, ?_⟩, World.ownsRow_nil _ _ _ _⟩, fun g hg => .inl (by simpa using hg), ((Mod.refl _ _).setCell (.inl (by simp)) _).setCell (.inl (by simp)) _⟩
    · exact (World.cell?_setCell_other _ _ _ _ (fun e => by injection e with e1 e2; omega)).trans ((World.cell?_setCell_other _ _ _ _ (fun e => by injection e with e1 e2; omega)).trans h0)
    · exact (World.cell?_setCell_other _ _ _ _ (fun e => by injection e with e1 e2; omega)).trans k2.1
    · rw [World.frozen?_setCell]; exact k2.2
  have HST0 := Lib.hid hst0
  clear hlen hst0
  go_enter Try.func26, Try.ntmps26
  go_wp2_with fail
  go_loop [5] (fun i => ∃ j : Nat, j ≤ P.length ∧ i = .int .i64 j ∧ (P.take j).all rightP = true) (fun i => P.length - (intOf i).toNat)
  case atStart => exact ⟨0, Nat.zero_le _, rfl, rfl⟩
  case round =>
    obtain ⟨j, hj, rfl, hall⟩ := hrel
    have HALL := Lib.hid hall
    clear hall
    by_cases hlt : j < P.length
    rotate_left
    · obtain rfl : j = P.length := by omega
      have hall := HALL.out
      rw [List.take_length] at hall
      have E1 := Lib.hid (show okPut (M.map (·.1)) P = true by simp [okPut, HLEN.out, hall])
      clear hall
      go_wp2_with fail
      generalize hW1 : (w.setCell ⟨q, 2, none⟩ (.slice none 0 0)).setCell ⟨q, 1, none⟩ (.int .i64 0) = W1
      rw [hW1] at HST0
      clear hW1 h0 h1 h2
      go_loopw [6] (fun s6 wr => ∃ i : Nat, i ≤ P.length ∧ s6 = .int .i64 i ∧ ShSt w q most i (putA P i) wr) (fun s6 _ => P.length - (intOf s6).toNat)
      case atStart => exact ⟨0, Nat.zero_le _, rfl, HST0.out⟩
      case round =>
        obtain ⟨i, hi, rfl, hst⟩ := hrel
        by_cases hlt2 : i < P.length
        rotate_left
        · obtain rfl : i = P.length := by omega
          have HST := Lib.hid hst
          clear hst
          go_wp2
          go_ret
          unfold PrPutPost
          rw [E1.out, if_pos rfl]
          obtain ⟨G', k1, k2, k3⟩ := HST.out
          exact ⟨rfl, G', k1, k3.mono (fun g hg => by rw [HG.out, List.mem_singleton.1 hg]; simp), fun g hg => (k2 g hg).imp (fun e => by rw [HG.out, e]; simp) id⟩
        · obtain ⟨b, off, x, hA, hx, cx⟩ := HP.out.at_ hlt2
          have hbq := hqB.out b off hA (by omega)
          subst hA
          have HX := Lib.hid (putA_succ hx)
          have hpl := putA_len P i
          have hiz : (i : Int) < 1000 := by omega
          obtain ⟨x1, x2⟩ := x
          obtain ⟨G', hp, hG2, hm⟩ := hst
          have c0 : wr.cell? ⟨b, off + i * 2, none⟩ = some (.int .i64 x1) := hm.cell hbq (cx 0 _ rfl)
          have c1 : wr.cell? ⟨b, off + i * 2 + 1, none⟩ = some (.int .i64 x2) := hm.cell hbq (cx 1 _ rfl)
          have hG'q : q ∈ G' := by obtain ⟨v', hv', -⟩ := hp; rw [hv']; simp
          have HW1 : Hid (∀ W2 : World, W2 = wr.setCell ⟨q, 1, none⟩ (.int .i64 ((i : Int) + 1)) → PrSt W2 q G' most ((i : Int) + 1) (putA P i) ∧ Mod G' wr W2 ∧ W2.cell? ⟨b, off + i * 2, none⟩ = some (.int .i64 x1) ∧ W2.cell? ⟨b, off + i * 2 + 1, none⟩ = some (.int .i64 x2) ∧ W2.cell? ⟨q, 1, none⟩ = some (.int .i64 ((i : Int) + 1))) := Lib.hid (by
            rintro W2 rfl
            obtain ⟨v', hv', k0, k1, k2, ko⟩ := hp
            have hmm : Mod [q] wr (wr.setCell ⟨q, 1, none⟩ (.int .i64 ((i : Int) + 1))) := (Mod.refl _ _).setCell (.inl (by simp)) _
            refine ⟨⟨v', hv', (World.cell?_setCell_other _ _ _ _ (fun e => by injection e with e1 e2; omega)).trans k0, set_self k1, ⟨(World.cell?_setCell_other _ _ _ _ (fun e => by injection e with e1 e2; omega)).trans k2.1, by rw [World.frozen?_setCell]; exact k2.2⟩, ownsRow_setCell_below ko (Nat.lt_succ_self q) _⟩, hmm.mono (fun g hg => by rw [List.mem_singleton.1 hg]; exact hG'q), hmm.cell hbq c0, hmm.cell hbq c1, (set_self k1).1⟩)
          have k1 : wr.cell? ⟨q, 1, none⟩ = some (.int .i64 i) ∧ wr.frozen? ⟨q, 1, none⟩ = false := by obtain ⟨_, -, -, k1, -⟩ := hp; exact k1
          have HS : Hid (∀ wm e w1, Mod G' wr wm → PrPost wm q G' most ((i : Int) + 1) (putA P (i + 1)) e w1 → e = .returned (.tuple #[]) ∧ ShSt w q most ((i + 1 : Nat) : Int) (putA P (i + 1)) w1) := Lib.hid (fun wm e w1 hmm hpp => by
            have hh := ShSt.put (W0 := w) (wr := wm) hG2 (hm.trans hmm (fun g hg => (hG2 g hg).imp (fun e => by rw [e]; simp) id)) hpp
            exact ⟨hpp.1, by rw [show ((i + 1 : Nat) : Int) = (i : Int) + 1 by omega]; exact hh⟩)
          clear hx cx hm hp hG2 c0 c1 hbq hqB hG'q
          go_upto_region 13 with fail
          generalize hW2 : World.setCell _ _ _ = W2
          obtain ⟨hp2, hm2, c0, c1, k1'⟩ := HW1.out W2 hW2.symm
          have HM2 := Lib.hid hm2
          have HPut : Hid (∀ w', Below W2.heap.size W2 w' → Calls Try.prog 49 #[.pointer (some ⟨q, 0, none⟩), .agg #[.int .i64 x1, .int .i64 x2, .int .i64 ((i : Int) + 1)]] w' (PrPost w' q G' most ((i : Int) + 1) (putA P (i + 1)))) := Lib.hid fun w' hb => by
            rw [HX.out]
            exact Prput_any q G' most ((i : Int) + 1) (putA P i) x1 x2 ((i : Int) + 1) w' (hp2.below hb) (by omega)
          clear hW2 HW1 hp2 hm2 k1 hpl
          refine wp_region_u 10 (fun w' => Below W2.heap.size W2 w' ∧ w'.cell? ⟨b, off + i * 2, none⟩ = some (.int .i64 x1) ∧ w'.cell? ⟨b, off + i * 2 + 1, none⟩ = some (.int .i64 x2) ∧ w'.cell? ⟨q, 1, none⟩ = some (.int .i64 ((i : Int) + 1))) (by kernel_rfl) (by kernel_rfl) ?_ ?_
          · exact ⟨(Below.refl _ _).drew, c0, c1, k1'⟩
          simp only [List.take_succ_cons, List.take_zero, List.drop_succ_cons, List.drop_zero]
          repeat (refine seqU_val ?_ (by rfl) ?_ ?_; rotate_left; · (intro w' hS; obtain ⟨_, _⟩ := hS; go_simp; first | done | with_reducible rfl)
                  simp only [Act.put, List.setIfInBounds_toArray, List.set_cons_zero, List.set_cons_succ])
          refine seqU_nil (fun w' hS => ?_)
          have hB1 := hS.1
          clear hS c0 c1 k1'
          go_wp2_with (go_at_call 49; refine (HPut.out _ hB1).mono ?_; intro e w3 hpp; obtain ⟨rfl, hst4⟩ := HS.out _ _ _ (HM2.out.then_below hB1) hpp; have HS4 := Lib.hid hst4; clear hst4 hpp)
          go_roundw
          case rel => exact ⟨i + 1, by omega, by go_num, HS4.out⟩
          case measure => simp [intOf]; omega
    · obtain ⟨b, off, x, hA, hx, cx⟩ := HP.out.at_ hlt
      have HX := Lib.hid hx
      subst hA
      obtain ⟨x1, x2⟩ := x
      have c0 : w.cell? ⟨b, off + j * 2, none⟩ = some (.int .i64 x1) := cx 0 _ rfl
      have c1 : w.cell? ⟨b, off + j * 2 + 1, none⟩ = some (.int .i64 x2) := cx 1 _ rfl
      have HR1 := Lib.hid (fun w => Right10_any x1 w)
      have HR2 := Lib.hid (fun w => Right10_any x2 w)
      generalize hr1 : inB x1 = r1 at HR1
      generalize hr2 : inB x2 = r2 at HR2
      have HRT := Lib.hid (show rightP (x1, x2) = (r1 && r2) from by unfold rightP; rw [hr1, hr2])
      have E0 : Hid ((r1 && r2) = false → okPut (M.map (·.1)) P = false) := Lib.hid (fun hf => by
        unfold okPut
        rw [Bool.and_eq_false_iff]
        right
        rw [Bool.eq_false_iff]
        intro hall
        have := List.all_eq_true.1 hall _ (List.mem_of_getElem? HX.out)
        rw [HRT.out, hf] at this
        cases this)
      clear cx hx hr1 hr2 hqB h0 h1 h2
      cases r1 with
      | false =>
        go_wp2_with (go_at_call 24; refine (HR1.out _).mono ?_; rintro e w2 ⟨rfl, rfl⟩)
        go_ret
        unfold PrPutPost
        rw [E0.out rfl]
        exact ⟨rfl, Below.refl _ _⟩
      | true => cases r2 with
        | false =>
          go_wp2_with (first
            | (go_at_call 24; refine (HR1.out _).mono ?_; rintro e w2 ⟨rfl, rfl⟩)
            | (go_at_call 24; refine (HR2.out _).mono ?_; rintro e w2 ⟨rfl, rfl⟩))
          go_ret
          unfold PrPutPost
          rw [E0.out rfl]
          exact ⟨rfl, Below.refl _ _⟩
        | true =>
          go_wp2_with (first
            | (go_at_call 24; refine (HR1.out _).mono ?_; rintro e w2 ⟨rfl, rfl⟩)
            | (go_at_call 24; refine (HR2.out _).mono ?_; rintro e w2 ⟨rfl, rfl⟩))
          go_round
          case rel => exact ⟨j + 1, by omega, by go_num, all_take HALL.out HX.out HRT.out⟩
          case measure => simp [intOf]; omega
end Go.Proofs.Ytfadcmjdlfobhaa
