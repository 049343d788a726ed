/- Both stores of points: made, does; the document's example. Conditions: as stated. -/
import Derived.Test.YtfadcmjdlfobhaaPsA
namespace Go.Proofs.Ytfadcmjdlfobhaa
open Go.RowKit Go.Sort

def MadePost (w : World) (mo : Nat) (e : Ending) (w' : World) : Prop :=
  ∃ p q : Nat, e = .returned (.tuple #[.pointer (some ⟨p, 0, none⟩), .pointer (some ⟨q, 0, none⟩)]) ∧ Bo w.heap.size p q mo 0 [] w w'
set_option maxRecDepth 100000 in
set_option maxHeartbeats 1600000 in
theorem made20 (m : Int) (h0 : 0 ≤ m) (h1 : m ≤ 255) (mo : Nat) (hm : (mo : Int) = 1 + m % 30) (w : World) :
    Calls Try.prog 15 #[.int .u8 m] w (MadePost w mo) := by
  have HM := Lib.hid hm
  have HN : Hid (∀ w, Calls Try.prog 41 #[.int .i64 (1 + m % 30)] w fun e w' => e = .returned (.tuple #[.pointer (some ⟨w.heap.size, 0, none⟩), .int .i64 0]) ∧ PtSt w' w.heap.size [w.heap.size] mo [] ∧ Below w.heap.size w w') := Lib.hid (fun w => by
    rw [← hm]; exact PtNew_ok mo w (by omega) (by omega))
  clear hm
  go_enter Try.func15, Try.ntmps15
  go_wp2_with (go_at_call 41; refine (HN.out _).mono ?_; rintro e w1 ⟨rfl, hpt, hb1⟩; have HPT := Lib.hid hpt; clear hpt)
  go_ret2
  have hb2 := below_allocs (Below.refl w1.heap.size w1) (.cells #[.int .i64 (1 + m % 30), .int .i64 0, .slice none 0 0] 38)
  have hlt := HPT.out.lt w.heap.size (by simp)
  refine ⟨w.heap.size, w1.heap.size, rfl, 0, [], ⟨[w.heap.size], [w1.heap.size], HPT.out.below hb2, ⟨.slice none 0 0, rfl, ?_, at_ (hp_new rfl) 1 _ rfl, at_ (hp_new rfl) 2 _ rfl, World.ownsRow_nil _ _ _ _⟩, ?_, ?_, ?_⟩, below_tail hb1 hb2, Pts.nil _ _, fun x hx => (by cases hx), Nat.zero_le _, Int.le_refl _, by simp⟩
  · rw [HM.out]; exact (at_ (hp_new rfl) 0 _ rfl).1
  · intro g hg hG
    simp at hg hG
    omega
  · intro g hg; simp at hg; omega
  · intro g hg; simp at hg; omega
/-- An operation. -/
structure Ov where
  mv : Bool
  r : Int
  c : Int
  k : Int
  a : Int
  n : Int
def encO (o : Ov) : List Value := [.bool o.mv, .int .i64 o.r, .int .i64 o.c, .int .i64 o.k, .int .i64 o.a, .int .i64 o.n]
def stepL (mo : Nat) (L : List P2) (o : Ov) : List P2 := if o.mv then shiftL o.k o.a o.n L else addL mo L (o.r, o.c)
theorem stepL_len {mo : Nat} {L : List P2} (o : Ov) (hm : 1 ≤ mo) (h : L.length ≤ mo) : (stepL mo L o).length ≤ mo := by
  unfold stepL
  split
  · exact Nat.le_trans (shiftL_len _ _ _ _) h
  · have := addL_len (most := mo) (p := (o.r, o.c)) (by omega) (by omega : (L.length : Int) ≤ mo); omega
def DoesPost (B p q mo N : Nat) (L : List P2) (w0 : World) (e : Ending) (w' : World) : Prop := e = .returned (.tuple #[]) ∧ Bo B p q mo N L w0 w'
set_option maxRecDepth 100000 in
set_option maxHeartbeats 1600000 in
theorem does20 (B p q mo N : Nat) (L : List P2) (w0 w : World) (o : Ov) (h : Bo B p q mo N L w0 w) (hm : 1 ≤ mo) (hm2 : mo ≤ 30) (hN : N ≤ 100) :
    Calls Try.prog 16 #[.pointer (some ⟨p, 0, none⟩), .pointer (some ⟨q, 0, none⟩), .agg #[.bool o.mv, .int .i64 o.r, .int .i64 o.c, .int .i64 o.k, .int .i64 o.a, .int .i64 o.n]] w (DoesPost B p q mo (N + 1) (stepL mo L o) w0) := by
  obtain ⟨next, M, hs, hw, hp, hc, hl, hn0, hn⟩ := h
  obtain ⟨mvb, r, c, k, a, n⟩ := o
  have hML := hp.len
  have hsz := hs.size
  have hx := hs.fresh (.cells #[.bool mvb, .int .i64 r, .int .i64 c, .int .i64 k, .int .i64 a, .int .i64 n] 34)
  have hw1 : Below B w0 (w.alloc (.cells #[.bool mvb, .int .i64 r, .int .i64 c, .int .i64 k, .int .i64 a, .int .i64 n] 34)) := hw.trans (below_allocs (Below.refl _ _) _ |>.mono hsz)
  have hsz1 : B ≤ (w.alloc (.cells #[.bool mvb, .int .i64 r, .int .i64 c, .int .i64 k, .int .i64 a, .int .i64 n] 34)).heap.size := by simp; omega
  have hn1 := addN_le next (r, c)
  cases mvb with
  | true =>
    have HA := Lib.hid (hx.pt hsz1 hw1 (fun F hF => PtShift_any p F mo L k a n _ hF (by omega)))
    have HB : Hid (∀ w2, StsX B p q mo (shiftL k a n L) next M w.heap.size w2 → Below B w0 w2 → Calls Try.prog 45 #[.pointer (some ⟨q, 0, none⟩), .agg #[.int .i64 k, .int .i64 a, .int .i64 n]] w2 (PtRes B p q mo (shiftL k a n L) next (shiftA (goR k a n) (mvP k a n) M) w.heap.size w0 w2)) :=
      Lib.hid (fun w2 h2 hw2 => h2.pr h2.forget.size hw2 (fun G hG => PrShift_any q G mo next M k a n w2 hG (by omega)))
    have HK : Hid (∀ w2, PtKeep w.heap.size (w.alloc (.cells #[.bool true, .int .i64 r, .int .i64 c, .int .i64 k, .int .i64 a, .int .i64 n] 34)) w2 → w2.cell? ⟨w.heap.size, 3, none⟩ = some (.int .i64 k) ∧ w2.cell? ⟨w.heap.size, 4, none⟩ = some (.int .i64 a) ∧ w2.cell? ⟨w.heap.size, 5, none⟩ = some (.int .i64 n)) :=
      Lib.hid (fun w2 hk => ⟨hk 3 _ (at_ (hp_new rfl) 3 _ rfl).1, hk 4 _ (at_ (hp_new rfl) 4 _ rfl).1, hk 5 _ (at_ (hp_new rfl) 5 _ rfl).1⟩)
    have HF : Hid (∀ w3, StsX B p q mo (shiftL k a n L) next (shiftA (goR k a n) (mvP k a n) M) w.heap.size w3 → Below B w0 w3 → Bo B p q mo (N + 1) (shiftL k a n L) w0 w3) := Lib.hid (fun w3 h3 hw3 =>
      ⟨next, _, h3.forget, hw3, pts_shift hp hc, shiftL_cols hc, Nat.le_trans (shiftL_len _ _ _ _) hl, hn0, by omega⟩)
    clear hs hw hp hc hx hw1 hsz1 hML hn0 hn hn1
    go_enter Try.func16, Try.ntmps16
    go_wp2_with (first
      | (go_at_call 42; refine HA.out.mono ?_; rintro e w2 ⟨rfl, hx2, hw2, hk2⟩; obtain ⟨c3, c4, c5⟩ := HK.out _ hk2; have HX2 := Lib.hid hx2; have HW2 := Lib.hid hw2; clear hx2 hw2 hk2)
      | (go_at_call 45; refine (HB.out _ HX2.out HW2.out).mono ?_; rintro e w3 ⟨rfl, hx3, hw3, hk3⟩; have HX3 := Lib.hid hx3; have HW3 := Lib.hid hw3; clear hx3 hw3 hk3))
    go_end0
    exact ⟨rfl, HF.out _ HX3.out HW3.out⟩
  | false =>
    have HA := Lib.hid (hx.pt hsz1 hw1 (fun F hF => PtAdd_any p F mo L r c _ hF (by omega) (by omega) (by omega)))
    have HB : Hid (∀ w2, StsX B p q mo (addL mo L (r, c)) next M w.heap.size w2 → Below B w0 w2 → Calls Try.prog 46 #[.pointer (some ⟨q, 0, none⟩), .agg #[.int .i64 r, .int .i64 c]] w2 (PtRes B p q mo (addL mo L (r, c)) (addN next (r, c)) (addA mo next M (r, c)) w.heap.size w0 w2)) :=
      Lib.hid (fun w2 h2 hw2 => h2.pr h2.forget.size hw2 (fun G hG => PrAdd_any q G mo next M r c w2 hG (by omega) hn0 (by omega) (by omega)))
    have HK : Hid (∀ w2, PtKeep w.heap.size (w.alloc (.cells #[.bool false, .int .i64 r, .int .i64 c, .int .i64 k, .int .i64 a, .int .i64 n] 34)) w2 → w2.cell? ⟨w.heap.size, 1, none⟩ = some (.int .i64 r) ∧ w2.cell? ⟨w.heap.size, 2, none⟩ = some (.int .i64 c)) :=
      Lib.hid (fun w2 hk => ⟨hk 1 _ (at_ (hp_new rfl) 1 _ rfl).1, hk 2 _ (at_ (hp_new rfl) 2 _ rfl).1⟩)
    have HF : Hid (∀ w3, StsX B p q mo (addL mo L (r, c)) (addN next (r, c)) (addA mo next M (r, c)) w.heap.size w3 → Below B w0 w3 → Bo B p q mo (N + 1) (addL mo L (r, c)) w0 w3) := Lib.hid (fun w3 h3 hw3 =>
      ⟨_, _, h3.forget, hw3, pts_add hp hn0 hm hl _, addL_cols hc, by have := addL_len (most := mo) (L := L) (p := (r, c)) (by omega) (by omega); omega, by omega, by omega⟩)
    clear hs hw hp hc hx hw1 hsz1 hML hn0 hn hn1
    go_enter Try.func16, Try.ntmps16
    go_wp2_with (first
      | (go_at_call 23; refine HA.out.mono ?_; rintro e w2 ⟨rfl, hx2, hw2, hk2⟩; obtain ⟨c3, c4⟩ := HK.out _ hk2; have HX2 := Lib.hid hx2; have HW2 := Lib.hid hw2; clear hx2 hw2 hk2)
      | (go_at_call 46; refine (HB.out _ HX2.out HW2.out).mono ?_; rintro e w3 ⟨rfl, hx3, hw3, hk3⟩; have HX3 := Lib.hid hx3; have HW3 := Lib.hid hw3; clear hx3 hw3 hk3))
    go_end0
    exact ⟨rfl, HF.out _ HX3.out HW3.out⟩
end Go.Proofs.Ytfadcmjdlfobhaa
