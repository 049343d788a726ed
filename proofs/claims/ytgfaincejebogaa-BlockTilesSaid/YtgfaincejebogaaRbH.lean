/- The document's blocks: starts. Conditions: as stated. -/
import Derived.Test.YtgfaincejebogaaRbG
namespace Go.Proofs.Ytgfaincejebogaa
open Go.RowKit

/-- Where the block with this id begins. -/
def stOf (id : Int) : List Mk → P2
  | [] => (0, 0)
  | m :: l => if m.id = id then (m.r, m.c) else stOf id l
theorem stOf_drop {id : Int} : ∀ {M : List Mk} {k : Nat}, (∀ m ∈ M.take k, m.id ≠ id) → stOf id M = stOf id (M.drop k)
  | [], k, _ => by simp
  | m :: l, 0, _ => rfl
  | m :: l, k + 1, h => by
    rw [List.drop_succ_cons, stOf, if_neg (h m (by simp)), stOf_drop (k := k) (fun x hx => h x (by simp [hx]))]
theorem ret_pos {fn : Func} {p : Tmp} (hr : fn.results = #[.cell p 24]) (tmps : Array Value) (w : World) (b : Nat) (u v : Value) (hp : tmps.getD p undef = .pointer (some ⟨b, 0, none⟩)) (h0 : w.cell? ⟨b, 0, none⟩ = some u) (h1 : w.cell? ⟨b, 1, none⟩ = some v) :
    (results fn tmps).run Try.prog w = .ok (.agg #[u, v]) w := by
  rw [results_cell1 hr, hp]
  have := run_loadVar_mid (P := Try.prog) w b 0 24 [u, v] _ (fun j x hj => by
    match j, hj with
    | 0, hj => simpa using hj ▸ h0
    | 1, hj => simpa using hj ▸ h1
    | j + 2, hj => simp at hj) Try.underlying24 rfl info_posS
  simp only [asAddr, Sem.run_pure, Result.andThen_ok, this]
set_option maxRecDepth 100000 in
set_option maxHeartbeats 3200000 in
theorem rstarts_any {q : Nat} {vM vF : Value} {M : List Mk} {F : List Fc} {most ids : Int} {dir : ByteArray} (id : Int) (w : World) (h : RbO w q vM vF M F most ids dir) (hz : M.length ≤ 100000) :
    Calls Try.prog 33 #[.pointer (some ⟨q, 0, none⟩), .int .u64 id] w fun e w' => e = .returned (.agg #[.int .i64 (stOf id M).1, .int .i64 (stOf id M).2]) ∧ Below w.heap.size w w' := by
  have HO := Lib.hid h
  have hqw := lt_of_cell h.most
  obtain ⟨A, ca, hv, -, -, -, hg⟩ := gr_of_owns encMk_len h.ownM rfl
  have HV := Lib.hid hv
  have HG := Lib.hid hg
  have hb1 : Below w.heap.size w (w.alloc (.cells #[.int .i64 0, .int .i64 0] 24)) := below_allocs (Below.refl _ _) _
  have HB1 := Lib.hid hb1
  clear h hv hg hb1
  go_enter Try.func33, Try.ntmps33
  go_wp2_with fail
  generalize hW0 : World.alloc w _ = W0 at HB1 ⊢
  have HZ := Lib.hid (show HoldAt W0 w.heap.size 0 (.int .i64 0) ∧ HoldAt W0 w.heap.size 1 (.int .i64 0) from by rw [← hW0]; exact ⟨at_ (hp_new rfl) 0 _ rfl, at_ (hp_new rfl) 1 _ rfl⟩)
  clear hW0
  go_loopw [5] (fun s5 wr => ∃ k : Nat, k ≤ M.length ∧ s5 = .int .i64 k ∧ (∀ m ∈ M.take k, m.id ≠ id) ∧ Below W0.heap.size W0 wr) (fun s5 _ => M.length - (intOf s5).toNat)
  case atStart => exact ⟨0, Nat.zero_le _, by simp, by simp, Below.refl _ _⟩
  case round =>
    obtain ⟨k, hk, rfl, hno, hb⟩ := hrel
    have m0 := (HO.out.below (below_tail HB1.out hb)).m.1
    rw [HV.out] at m0
    obtain ⟨z0, z0f⟩ := hold hb HZ.out.1
    obtain ⟨z1, z1f⟩ := hold hb HZ.out.2
    have HNO := Lib.hid hno
    have HB := Lib.hid (below_tail HB1.out hb)
    by_cases hlt : k < M.length
    rotate_left
    · have hge : ¬ (k : Int) < (M.length : Int) := by omega
      have HE := Lib.hid (show stOf id M = (0, 0) from by rw [stOf_drop HNO.out, List.drop_eq_nil_of_le (by omega)]; rfl)
      clear hno hb
      go_wp2
      have hs := set_two (u' := .int .i64 0) (v' := .int .i64 0) ⟨z0, z0f⟩ ⟨z1, z1f⟩
      rw [HE.out]
      refine bodyPost_ret (ret_pos rfl _ _ w.heap.size _ _ rfl hs.1.1 hs.2.1) rfl ⟨rfl, ?_⟩
      exact (HB.out.setCell (Nat.le_refl _) _).setCell (Nat.le_refl _) _
    · obtain ⟨b, off, x, hA, hx, cx⟩ := HG.out.at_ hlt
      subst hA
      have c0 : w.cell? ⟨b, off + k * 4, none⟩ = some (.int .u64 x.id) := cx 0 _ rfl
      have c2 : w.cell? ⟨b, off + k * 4 + 2, none⟩ = some (.int .i64 x.r) := cx 2 _ rfl
      have c3 : w.cell? ⟨b, off + k * 4 + 2 + 1, none⟩ = some (.int .i64 x.c) := cx 3 _ rfl
      have hbl := lt_of_cell c0
      replace c0 := holda (below_tail HB1.out hb) c0
      replace c2 := holda (below_tail HB1.out hb) c2
      replace c3 := holda (below_tail HB1.out hb) c3
      have hkN : (k : Int) < (M.length : Int) := by omega
      have HX := Lib.hid hx
      have HBB := Lib.hid hb
      clear cx hx hno hb
      by_cases he : x.id = id
      · have HE := Lib.hid (show stOf id M = (x.r, x.c) from by
          rw [stOf_drop HNO.out, List.drop_eq_getElem_cons hlt, (List.getElem?_eq_some_iff.1 HX.out).2, stOf, if_pos he])
        go_wp2
        have hs := set_two (u' := .int .i64 x.r) (v' := .int .i64 x.c) ⟨z0, z0f⟩ ⟨z1, z1f⟩
        rw [HE.out]
        refine bodyPost_ret (ret_pos rfl _ _ w.heap.size _ _ rfl hs.1.1 hs.2.1) rfl ⟨rfl, ?_⟩
        exact (HB.out.setCell (Nat.le_refl _) _).setCell (Nat.le_refl _) _
      · have HE := Lib.hid he
        have hbq : (x.id == id) = false := beq_eq_false_iff_ne.2 he
        go_wp2
        go_roundw
        case rel => exact ⟨k + 1, by omega, by go_num, fun m hm => by
          rw [List.take_succ_eq_append_getElem hlt, (List.getElem?_eq_some_iff.1 HX.out).2] at hm
          rcases List.mem_append.1 hm with hm | hm
          · exact HNO.out m hm
          · rw [List.mem_singleton.1 hm]; exact HE.out, HBB.out⟩
        case measure => simp [intOf]; omega
end Go.Proofs.Ytgfaincejebogaa
