/- The program's store of points: Put. Conditions: as stated. -/
import Derived.Test.YtfadcmjdlfobhaaPtF
import Derived.Laws.IdiomCopy
namespace Go.Proofs.Ytfadcmjdlfobhaa
open Go.RowKit Go.Sort

section
variable {P : Program}
theorem run_copy_k (w : World) (dT sT ty elem : TypeId) (b o dLen dCap : Nat) (a : Addr) (sLen sCap k : Nat) (cs : List Value) (hu : P.underlying dT = some (.slice elem)) (hs : (P.info? elem).map (·.size) = some k) (hn : cs.length = Nat.min sLen dLen * k)
    (hsrc : ∀ j v, cs[j]? = some v → w.cell? (a.add j) = some v) (hc : ∀ j, j < cs.length → (w.cell? ⟨b, o + j, none⟩).isSome = true) (hf : ∀ j, j < cs.length → w.frozen? ⟨b, o + j, none⟩ = false) (h1 : ∀ v ∈ cs, v.oneCell' = true) :
    (Builtin.copy_ #[dT, sT] ty #[.slice (some ⟨b, o, none⟩) dLen dCap, .slice (some a) sLen sCap]).run P w = .ok (goInt (Nat.min sLen dLen)) (w.setCells b o cs) := by
  have hl := run_loadCells_list (P := P) w a cs hsrc
  have hst := run_storeCells_cells (P := P) b o cs 0 w (by simpa using hc) (by simpa using hf) h1
  cases hq : P.info? elem with
  | none => simp [hq] at hs
  | some i =>
    have hi : i.size = k := by simpa [hq] using hs
    simp [Builtin.copy_, run_underlying hu, Builtin.lenOf, Builtin.firstCells, sizeOf, typeInfo, hq, hi, ← hn, hl, hst]
theorem run_copy_0 (w : World) (dT sT ty elem : TypeId) (d a : Option Addr) (dCap sCap k : Nat) (hu : P.underlying dT = some (.slice elem)) (hs : (P.info? elem).map (·.size) = some k) :
    (Builtin.copy_ #[dT, sT] ty #[.slice d 0 dCap, .slice a 0 sCap]).run P w = .ok (goInt 0) w := by
  cases hq : P.info? elem with
  | none => simp [hq] at hs
  | some i =>
    cases d <;> cases a <;> simp [Builtin.copy_, run_underlying hu, Builtin.lenOf, Builtin.firstCells, sizeOf, typeInfo, hq, loadCells, loadCellsFrom, storeCells]
end
theorem owns_setCells {base g : Nat} {e : TypeId} {size n cap : Nat} : ∀ (cs : List Value) (o : Nat) (xs : List Value) (w : World), w.ownsRow base e size (.slice (some ⟨g, 0, none⟩) n cap) n xs → o + cs.length ≤ xs.length → (w.setCells g o cs).ownsRow base e size (.slice (some ⟨g, 0, none⟩) n cap) n (xs.take o ++ (cs ++ xs.drop (o + cs.length)))
  | [], o, xs, w, h, _ => by simpa [World.setCells] using h
  | v :: r, o, xs, w, h, hl => by
    rw [List.length_cons] at hl
    have ih := owns_setCells r (o + 1) (xs.set o v) (w.setCell ⟨g, o, none⟩ v) (owns_set1 h o v) (by rw [List.length_set]; omega)
    have hlt : o < (xs.set o v).length := by rw [List.length_set]; omega
    rw [List.take_succ_eq_append_getElem hlt, List.getElem_set_self, List.take_set_of_le (Nat.le_refl o), List.drop_set_of_lt (by omega), List.append_assoc] at ih
    rw [World.setCells, List.length_cons, show o + (r.length + 1) = o + 1 + r.length by omega]
    exact ih
theorem mod_setCellsN {X : List Nat} {w : World} {g : Nat} (hg : g ∈ X ∨ w.heap.size ≤ g) : ∀ (cs : List Value) (o : Nat) (w1 : World), Mod X w w1 → Mod X w (w1.setCells g o cs)
  | [], _, _, h => h
  | v :: r, o, _, h => mod_setCellsN hg r (o + 1) _ (h.setCell (a := ⟨g, o, none⟩) hg v)
/-- May these be put? -/
def okPut (L M : List P2) : Bool := M.length == L.length && M.all rightP
def putL (L M : List P2) : List P2 := if okPut L M then M else L
def PutPost (w : World) (p : Nat) (F : List Nat) (most : Int) (L M : List P2) (e : Ending) (w' : World) : Prop :=
  e = .returned (.int .i64 (if okPut L M then 0 else 1)) ∧ PtSt w' p F most (putL L M) ∧ Mod F w w'
theorem all_take {M : List P2} {j : Nat} {x : P2} (h : (M.take j).all rightP = true) (hx : M[j]? = some x) (hr : rightP x = true) : (M.take (j + 1)).all rightP = true := by
  rw [take_snoc hx, List.all_append, h]; simp [hr]
set_option maxRecDepth 100000 in
set_option maxHeartbeats 1600000 in
theorem PtPut_any (p : Nat) (F : List Nat) (most : Int) (L : List P2) (B : Option Addr) (M : List P2) (cb : Nat) (w : World) (h : PtSt w p F most L) (hm : GrAt encP 2 w B M) (hz : M.length ≤ 1000000) :
    Calls Try.prog 25 #[.pointer (some ⟨p, 0, none⟩), .slice B M.length cb] w (PutPost w p F most L M) := by
  have HH := Lib.hid h
  have HM := Lib.hid hm
  obtain ⟨v, hF, h0, h1, ho⟩ := h
  have HF := Lib.hid hF
  have HO := Lib.hid ho
  obtain ⟨A, c, hv⟩ := row_form ho
  subst hv
  clear hF ho hm
  by_cases hlen : M.length = L.length
  rotate_left
  · have e1 : okPut L M = false := by simp [okPut, hlen]
    have hne : ((M.length : Int) != (L.length : Int)) = true := by simp; omega
    have E1 := Lib.hid e1
    clear hlen e1
    go_enter Try.func25, Try.ntmps25
    go_wp2
    go_ret
    unfold PutPost putL
    rw [E1.out]
    exact ⟨rfl, HH.out, Mod.refl _ _⟩
  have hne : ((M.length : Int) != (L.length : Int)) = false := by simp; omega
  have HLEN := Lib.hid hlen
  clear hlen
  go_enter Try.func25, Try.ntmps25
  go_wp2_with fail
  go_loopw [21] (fun i wr => ∃ j : Nat, j ≤ M.length ∧ i = .int .i64 j ∧ (M.take j).all rightP = true ∧ Below w.heap.size w wr) (fun i _ => M.length - (intOf i).toNat)
  case atStart => exact ⟨0, Nat.zero_le _, rfl, rfl, Below.refl _ _⟩
  case round =>
    obtain ⟨j, hj, rfl, hall, hB⟩ := hrel
    have HALL := Lib.hid hall
    clear hall
    by_cases hlt : j < M.length
    rotate_left
    · obtain rfl : j = M.length := by omega
      have hall := HALL.out
      rw [List.take_length] at hall
      have E1 := Lib.hid (show okPut L M = true by simp [okPut, HLEN.out, hall])
      have hbF : Hid (p ∈ F) := Lib.hid (by rw [HF.out]; simp)
      replace h0 := hold hB h0
      replace h1 := holda hB h1
      have HO2 := Lib.hid (owns_bl HO.out hB)
      have HB := Lib.hid hB
      have hp2 := lt_of_cell h0.1
      clear hall hB
      rcases Nat.eq_zero_or_pos M.length with hz0 | hz0
      · have hl0 : L.length = 0 := by have := HLEN.out; omega
        obtain rfl : M = [] := List.length_eq_zero_iff.1 hz0
        obtain rfl : L = [] := List.length_eq_zero_iff.1 hl0
        have hcp : (Builtin.copy_ #[40, 40] 3 #[.slice A 0 c, .slice B 0 cb]).run Try.prog wr = .ok (goInt 0) wr := run_copy_0 _ _ _ _ 30 _ _ _ _ 2 Try.underlying40 info_pos1
        go_wp2
        go_ret
        unfold PutPost putL
        rw [E1.out]
        exact ⟨rfl, HH.out.below HB.out, Mod.of_below HB.out⟩
      · obtain ⟨bm, offm, hA, -⟩ := HM.out hz0
        subst hA
        have hl0 : 0 < L.length := by have := HLEN.out; omega
        obtain ⟨g, c', hf0⟩ := Go.Joins.ownsRow_form HO.out hl0
        simp only [Value.slice.injEq] at hf0
        obtain ⟨rfl, -, -⟩ := hf0
        have hgp : Hid (p + 1 ≤ g ∧ g ∈ F) := Lib.hid ⟨(HO.out.lt g rfl).1, by rw [HF.out]; simp [Value.ownBlock]⟩
        have HNW := Lib.hid ((HM.out.below HB.out).news encP_len)
        have HFL := Lib.hid (flat_len encP_len M)
        have HRM : Hid (∀ j, j < (flat encP M).length → (wr.cell? ⟨g, 0 + j, none⟩).isSome = true ∧ wr.frozen? ⟨g, 0 + j, none⟩ = false) := Lib.hid fun j hj => by
          rw [flat_len encP_len] at hj
          have := owns_room HO2.out (m := j / 2) (by have := HLEN.out; omega) (j % 2) (by omega)
          rwa [show j / 2 * 2 + j % 2 = 0 + j by omega] at this
        have hmin : Nat.min M.length L.length = M.length := by rw [HLEN.out]; exact Nat.min_self _
        have HMIN := Lib.hid hmin
        clear hmin
        have hcp : (Builtin.copy_ #[40, 40] 3 #[.slice (some ⟨g, 0, none⟩) L.length c, .slice (some ⟨bm, offm, none⟩) M.length cb]).run Try.prog wr = .ok (goInt (Nat.min M.length L.length)) (wr.setCells g 0 (flat encP M)) := run_copy_k _ _ _ _ 30 g 0 _ _ ⟨bm, offm, none⟩ _ _ 2 (flat encP M) Try.underlying40 info_pos1 (by rw [HMIN.out]; exact HFL.out) HNW.out (fun j hj => (HRM.out j hj).1) (fun j hj => (HRM.out j hj).2) (flat_one encP_one M)
        go_wp2
        go_ret
        unfold PutPost putL
        rw [E1.out]
        have hlen := HLEN.out
        have hgp1 := hgp.out.1
        refine ⟨rfl, ⟨.slice (some ⟨g, 0, none⟩) L.length c, HF.out, ?_, ?_, ?_⟩, mod_setCellsN (.inl hgp.out.2) _ _ _ (Mod.of_below HB.out)⟩
        · exact ⟨(World.cell?_setCells_out g _ 0 wr ⟨p, 0, none⟩ (fun e _ => by simp at e; omega)).trans h0.1, (World.frozen?_setCells g _ 0 wr _).trans h0.2⟩
        · exact (World.cell?_setCells_out g _ 0 wr ⟨p, 1, none⟩ (fun e _ => by simp at e; omega)).trans h1
        · have h9 := owns_setCells (flat encP M) 0 _ wr HO2.out (by rw [flat_len encP_len, flat_len encP_len]; omega)
          rw [List.take_zero, List.nil_append, List.drop_eq_nil_of_le (by rw [flat_len encP_len, flat_len encP_len]; omega), List.append_nil] at h9
          simp only [if_true]
          rw [hlen]
          exact h9
    · obtain ⟨b, off, x, hA, hx, cx⟩ := HM.out.at_ hlt
      have HX := Lib.hid hx
      obtain ⟨x1, x2⟩ := x
      subst hA
      have c0 : wr.cell? ⟨b, off + j * 2, none⟩ = some (.int .i64 x1) := holda hB (cx 0 _ rfl)
      have c1' := holda hB (cx 1 _ rfl)
      have HR := Lib.hid (fun w => ptright_any x1 x2 w)
      generalize hr : (inB x1 && inB x2) = rt at HR
      have HRT := Lib.hid hr
      have HB := Lib.hid hB
      clear cx hx hr hB
      cases rt with
      | true =>
        go_wp2_with (go_at_call 48; refine (HR.out _).mono ?_; rintro e w2 ⟨rfl, hb2⟩; have hb3 := below_tail (below_allocs (Below.refl wr.heap.size wr) _) hb2)
        go_roundw
        case rel => exact ⟨j + 1, by omega, by go_num, all_take HALL.out HX.out HRT.out, below_tail HB.out hb3⟩
        case measure => simp [intOf]; omega
      | false =>
        go_wp2_with (go_at_call 48; refine (HR.out _).mono ?_; rintro e w2 ⟨rfl, hb2⟩; have hb3 := below_tail (below_allocs (Below.refl wr.heap.size wr) _) hb2)
        go_ret
        have E1 : okPut L M = false := by
          unfold okPut
          rw [Bool.and_eq_false_iff]
          right
          rw [Bool.eq_false_iff]
          intro hall
          have := List.all_eq_true.1 hall _ (List.mem_of_getElem? HX.out)
          unfold rightP at this
          rw [HRT.out] at this
          cases this
        unfold PutPost putL
        rw [E1]
        have hb4 := below_tail HB.out hb3
        exact ⟨rfl, HH.out.below hb4, Mod.of_below hb4⟩
end Go.Proofs.Ytfadcmjdlfobhaa
