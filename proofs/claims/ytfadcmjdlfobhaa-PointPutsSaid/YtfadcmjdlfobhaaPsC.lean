/- The document's example of chapter 20. Conditions: none. -/
import Derived.Test.YtfadcmjdlfobhaaPsA
namespace Go.Proofs.Ytfadcmjdlfobhaa
open Go.RowKit Go.Sort

/-- The example's store. -/
def AwSt (w : World) (L : List P2) (w' : World) : Prop := ∃ F, PtSt w' w.heap.size F 2 L ∧ (∀ g ∈ F, w.heap.size ≤ g) ∧ Below w.heap.size w w'
def AwPost (w : World) (L : List P2) (e : Ending) (w' : World) : Prop := e = .returned (.tuple #[]) ∧ AwSt w L w'
theorem AwSt.add {w w1 : World} {L L' : List P2} (h : AwSt w L w1) (r c : Int) (hl : (L.length : Int) ≤ 2) (he : addL 2 L (r, c) = L') :
    Calls Try.prog 23 #[.pointer (some ⟨w.heap.size, 0, none⟩), .agg #[.int .i64 r, .int .i64 c]] w1 (AwPost w L') := by
  obtain ⟨F, h1, h2, h3⟩ := h
  refine (PtAdd_any w.heap.size F 2 L r c w1 h1 (by omega) (by omega) hl).mono fun e w2 ⟨he2, F', k1, k2, k3⟩ => ⟨he2, F', by rw [← he]; exact k1, fun g hg => ?_, h3.trans (k2.below h2 h3.size)⟩
  have := h3.size
  rcases k3 g hg with h | h
  · exact h2 g h
  · omega
theorem sortP_34 : sortP [(3, 0), (4, 0)] = [(3, 0), (4, 0)] :=
  asc_uniq (sortP_asc _) (by unfold Asc; simp [ltP]) (sortP_perm _)
theorem gr_two {w : World} {g : Nat} {t : TypeId} {a b c d : Int} (h : w.heap[g]? = some (.cells #[.int .i64 a, .int .i64 b, .int .i64 c, .int .i64 d] t (0, 0))) : GrAt encP 2 w (some ⟨g, 0, none⟩) [(a, b), (c, d)] := fun _ => by
  refine ⟨g, 0, rfl, fun i x hx j v hv => ?_⟩
  rw [Nat.zero_add, cell_of_row w g (i * 2 + j) _ _ _ h]
  match i, hx with
  | 0, hx => simp at hx; subst hx; match j, hv with
    | 0, hv => simpa [encP] using hv
    | 1, hv => simpa [encP] using hv
  | 1, hx => simp at hx; subst hx; match j, hv with
    | 0, hv => simpa [encP] using hv
    | 1, hv => simpa [encP] using hv
set_option maxRecDepth 100000 in
set_option maxHeartbeats 1600000 in
theorem awake20 (w : World) : Calls Try.prog 14 #[] w (TruePost w) := by
  have HN := Lib.hid (PtNew_ok 2 w (by omega) (by omega))
  have H5 : Hid (∀ w1, AwSt w [] w1 → Calls Try.prog 23 #[.pointer (some ⟨w.heap.size, 0, none⟩), .agg #[.int .i64 5, .int .i64 0]] w1 (AwPost w [(5, 0)])) := Lib.hid fun w1 h => h.add 5 0 (by simp) (by decide)
  have H3 : Hid (∀ w1, AwSt w [(5, 0)] w1 → Calls Try.prog 23 #[.pointer (some ⟨w.heap.size, 0, none⟩), .agg #[.int .i64 3, .int .i64 0]] w1 (AwPost w [(5, 0), (3, 0)])) := Lib.hid fun w1 h => h.add 3 0 (by simp) (by decide)
  have H4 : Hid (∀ w1, AwSt w [(5, 0), (3, 0)] w1 → Calls Try.prog 23 #[.pointer (some ⟨w.heap.size, 0, none⟩), .agg #[.int .i64 4, .int .i64 0]] w1 (AwPost w [(3, 0), (4, 0)])) := Lib.hid fun w1 h => h.add 4 0 (by simp) (by decide)
  obtain ⟨LL, hLL⟩ : ∃ LL : List P2, LL = [(3, 0), (4, 0)] := ⟨_, rfl⟩
  have HL : Hid (∀ w1, AwSt w [(3, 0), (4, 0)] w1 → Calls Try.prog 19 #[.pointer (some ⟨w.heap.size, 0, none⟩)] w1 (PosPost w1 LL)) := Lib.hid fun w1 h => by
    obtain ⟨F, h1, -⟩ := h
    have := PtList_any w.heap.size F 2 _ w1 h1 (by simp)
    rw [sortP_34, ← hLL] at this
    exact this
  have HP : Hid (∀ (X Y : Option Addr) (cx cy : Nat) (w : World), GrAt encP 2 w X LL → GrAt encP 2 w Y [(3, 0), (4, 0)] → Calls Try.prog 18 #[.slice X LL.length cx, .slice Y 2 cy] w (TruePost w)) := Lib.hid fun X Y cx cy w hX hY => by
    subst hLL
    exact Places_same X Y [(3, 0), (4, 0)] cx cy w hX hY (by simp)
  have HLL := Lib.hid hLL
  clear hLL
  go_enter Try.func14, Try.ntmps14
  go_wp2_with (first
    | (go_at_call 41; refine HN.out.mono ?_; rintro e w1 ⟨rfl, hpt, hb1⟩; have HS := Lib.hid (show AwSt w [] w1 from ⟨[w.heap.size], hpt, by simp, hb1⟩); clear hpt hb1)
    | (go_at_call 23; (with_reducible refine (H5.out _ HS.out).mono ?_); rintro e w2 ⟨rfl, hs⟩; have HS5 := Lib.hid hs; clear hs)
    | (go_at_call 23; (with_reducible refine (H3.out _ HS5.out).mono ?_); rintro e w3 ⟨rfl, hs⟩; have HS3 := Lib.hid hs; clear hs)
    | (go_at_call 23; (with_reducible refine (H4.out _ HS3.out).mono ?_); rintro e w4 ⟨rfl, hs⟩; have HS4 := Lib.hid hs; clear hs)
    | (go_at_call 19; refine (HL.out _ HS4.out).mono ?_; rintro e w5 ⟨v, rfl, ho, hb5⟩; obtain ⟨A, c, rfl, -, -, -, hg⟩ := gr_of_owns encP_len ho rfl; have HG := Lib.hid hg; clear ho hg)
    | (go_at_call 18; refine (HP.out _ _ _ _ _ (HG.out.below (below_allocs (Below.refl _ _) _)) (gr_two (hp_new rfl))).mono ?_; rintro e w6 ⟨rfl, hb6⟩))
  go_ret
  obtain ⟨_, _, _, hb4⟩ := HS4.out
  exact ⟨rfl, below_tail (below_allocs (below_tail hb4 hb5) _) hb6⟩
end Go.Proofs.Ytfadcmjdlfobhaa
