/- Both stores of blocks in memory; made, does. Conditions: as stated. -/
import Derived.Test.YtgfaincejebogaaBlL
import Derived.Test.YtgfaincejebogaaRbJ
namespace Go.Proofs.Ytgfaincejebogaa
open Go.RowKit

def BtAll (B p q mo N : Nat) (S : Bs) (w : World) (X : Nat → Prop) : Prop :=
  ∃ v L vM vF M F ids dir, BlO w p v L mo S.ids S.dir ∧ L.map (·.2) = S.es ∧ RbO w q vM vF M F mo ids dir ∧ RInv M F ids ∧ (∀ g ∈ foot p v L, g ∉ rfoot q vM vF) ∧
    (∀ g ∈ foot p v L, B ≤ g ∧ ¬ X g) ∧ (∀ g ∈ rfoot q vM vF, B ≤ g ∧ ¬ X g) ∧ M.length ≤ 4 * N ∧ F.length ≤ mo ∧ 0 ≤ ids ∧ ids ≤ N
/-- Both stores, apart, in memory from B on. -/
def Bt (B p q mo N : Nat) (S : Bs) (w : World) : Prop := BtAll B p q mo N S w (fun _ => False)
/-- Besides, both stay clear of block x. -/
def BtX (B p q mo N : Nat) (S : Bs) (x : Nat) (w : World) : Prop := BtAll B p q mo N S w (fun g => g = x) ∧ x < w.heap.size
theorem BtAll.below {B p q mo N : Nat} {S : Bs} {w w' : World} {X : Nat → Prop} (h : BtAll B p q mo N S w X) (hb : Below w.heap.size w w') : BtAll B p q mo N S w' X := by
  obtain ⟨v, L, vM, vF, M, F, ids, dir, h1, h2, h3, h4⟩ := h
  exact ⟨v, L, vM, vF, M, F, ids, dir, h1.below hb, h2, h3.below hb, h4⟩
theorem BtAll.size {B p q mo N : Nat} {S : Bs} {w : World} {X : Nat → Prop} (h : BtAll B p q mo N S w X) : B ≤ w.heap.size := by
  obtain ⟨v, L, vM, vF, M, F, ids, dir, h1, -, -, -, -, h6, -⟩ := h
  have := h1.lt p (by simp [foot])
  have := (h6 p (by simp [foot])).1
  omega
theorem BtX.forget {B p q mo N x : Nat} {S : Bs} {w : World} (h : BtX B p q mo N S x w) : Bt B p q mo N S w := by
  obtain ⟨⟨v, L, vM, vF, M, F, ids, dir, h1, h2, h3, h4, h5, h6, h7, h8⟩, -⟩ := h
  exact ⟨v, L, vM, vF, M, F, ids, dir, h1, h2, h3, h4, h5, fun g hg => ⟨(h6 g hg).1, id⟩, fun g hg => ⟨(h7 g hg).1, id⟩, h8⟩
theorem Bt.fresh {B p q mo N : Nat} {S : Bs} {w : World} (h : Bt B p q mo N S w) (o : Obj) : BtX B p q mo N S w.heap.size (w.alloc o) := by
  obtain ⟨v, L, vM, vF, M, F, ids, dir, h1, h2, h3, h4, h5, h6, h7, h8⟩ := h
  have hb := below_allocs (Below.refl w.heap.size w) o
  exact ⟨⟨v, L, vM, vF, M, F, ids, dir, h1.below hb, h2, h3.below hb, h4, h5, fun g hg => ⟨(h6 g hg).1, fun e => by have := h1.lt g hg; omega⟩, fun g hg => ⟨(h7 g hg).1, fun e => by have := h3.lt g hg; omega⟩, h8⟩, by simp⟩
def BtKeep (x : Nat) (w w' : World) : Prop := ∀ o v, w.cell? ⟨x, o, none⟩ = some v → w'.cell? ⟨x, o, none⟩ = some v
def BtRes (B p q mo N : Nat) (S : Bs) (x : Nat) (w0 w : World) (e : Ending) (w' : World) : Prop :=
  e = .returned (.tuple #[]) ∧ BtX B p q mo N S x w' ∧ Below B w0 w' ∧ BtKeep x w w'
theorem BtX.pl {B p q mo N x : Nat} {S S' : Bs} {w w0 : World} {f : FuncId} {args : Array Value} (h : BtX B p q mo N S x w) (hw : Below B w0 w)
    (hc : ∀ v L, BlO w p v L mo S.ids S.dir → L.map (·.2) = S.es → Calls Try.prog f args w (BlPost w p v L mo S')) : Calls Try.prog f args w (BtRes B p q mo N S' x w0 w) := by
  have hB := h.1.size
  obtain ⟨⟨v, L, vM, vF, M, F, ids, dir, h1, h2, h3, h4, h5, h6, h7, h8⟩, hx⟩ := h
  refine (hc v L h1 h2).mono fun e w' ⟨he, v', L', k1, k2, k3, k4⟩ => ⟨he, ⟨⟨v', L', vM, vF, M, F, ids, dir, k1, k2, h3.mod k3 (fun g hg hF => h5 g hF hg), h4, fun g hg hG => ?_, fun g hg => ?_, h7, h8⟩, Nat.lt_of_lt_of_le hx k3.size⟩, hw.trans (k3.below (fun g hg => (h6 g hg).1) hB), fun o v hv => k3.cell (fun hX => (h6 x hX).2 rfl) hv⟩
  · rcases k4 g hg with h | h
    · exact h5 g h hG
    · have := h3.lt g hG; omega
  · rcases k4 g hg with h | h
    · exact h6 g h
    · exact ⟨by omega, fun e => by omega⟩
theorem BtX.rf {B p q mo N N' x : Nat} {S : Bs} {w w0 : World} {f : FuncId} {args : Array Value} (h : BtX B p q mo N S x w) (hw : Below B w0 w)
    (hc : ∀ vM vF M F ids dir, RbO w q vM vF M F mo ids dir → RInv M F ids → M.length ≤ 4 * N → F.length ≤ mo → 0 ≤ ids → ids ≤ (N : Int) → Calls Try.prog f args w (RkPost w q vM vF mo N')) : Calls Try.prog f args w (BtRes B p q mo N' S x w0 w) := by
  have hB := h.1.size
  obtain ⟨⟨v, L, vM, vF, M, F, ids, dir, h1, h2, h3, h4, h5, h6, h7, h8, h9, h10, h11⟩, hx⟩ := h
  refine (hc vM vF M F ids dir h3 h4 h8 h9 h10 h11).mono fun e w' ⟨M', F', ids', dir', ⟨he, vM', vF', k1, k3, k4⟩, k5, k6, k7, k8, k9⟩ => ⟨he, ⟨⟨v, L, vM', vF', M', F', ids', dir', h1.mod k3 (fun g hg hF => h5 g hg hF), h2, k1, k5, fun g hg hG => ?_, h6, fun g hg => ?_, k6, k7, k8, k9⟩, Nat.lt_of_lt_of_le hx k3.size⟩, hw.trans (k3.below (fun g hg => (h7 g hg).1) hB), fun o v hv => k3.cell (fun hX => (h7 x hX).2 rfl) hv⟩
  · rcases k4 g hG with h | h
    · exact h5 g hg h
    · have := h1.lt g hg; omega
  · rcases k4 g hg with h | h
    · exact h7 g h
    · exact ⟨by omega, fun e => by omega⟩
theorem bltake_any {p : Nat} {v : Value} {L : List (Nat × Ent)} {mo : Nat} {ids : Int} {dir : ByteArray} (x : Sg) (r c : Int) (w : World) (h : BlO w p v L mo ids dir) (hmo : 1 ≤ mo) (hz : L.length ≤ 900) (hi0 : 0 ≤ ids) (hi1 : ids ≤ 1000000) :
    Calls Try.prog 15 #[.pointer (some ⟨p, 0, none⟩), .agg #[.int .i64 x.k, .int .i64 x.code, .bool x.has, .string x.text], .agg #[.int .i64 r, .int .i64 c]] w (BlPost w p v L mo (takeB mo ⟨ids, dir, L.map (·.2)⟩ x (r, c))) := by
  rcases List.eq_nil_or_concat L with rfl | ⟨L', ⟨b, E⟩, rfl⟩
  · exact take_none x r c w h hmo hi0 hi1
  · rw [List.concat_eq_append] at h hz ⊢
    have := take_last x r c w h hmo (by simp at hz; omega) hi0 hi1
    simpa using this
/-- An operation. -/
structure Bop where
  s : Sg
  r : Int
  c : Int
  k : Int
  a : Int
  n : Int
def encB (o : Bop) : List Value := [.int .i64 o.s.k, .int .i64 o.s.code, .bool o.s.has, .string o.s.text, .int .i64 o.r, .int .i64 o.c, .int .i64 o.k, .int .i64 o.a, .int .i64 o.n]
def stepB (mo : Nat) (S : Bs) (o : Bop) : Bs := if o.s.k < 0 then shiftB S o.k o.a o.n else takeB mo S o.s (o.r, o.c)
def DoesPost (B p q mo N : Nat) (S : Bs) (w0 : World) (e : Ending) (w' : World) : Prop := e = .returned (.tuple #[]) ∧ Bt B p q mo N S w' ∧ Below B w0 w'
set_option maxRecDepth 100000 in
set_option maxHeartbeats 1600000 in
theorem does19 (B p q mo N : Nat) (S : Bs) (w0 w : World) (o : Bop) (h : Bt B p q mo N S w) (hw : Below B w0 w) (hm : 1 ≤ mo) (hm2 : mo ≤ 30) (hN : N ≤ 100) (hl : S.es.length ≤ mo) (hi0 : 0 ≤ S.ids) (hi1 : S.ids ≤ N) :
    Calls Try.prog 9 #[.pointer (some ⟨p, 0, none⟩), .pointer (some ⟨q, 0, none⟩), .agg #[.int .i64 o.s.k, .int .i64 o.s.code, .bool o.s.has, .string o.s.text, .int .i64 o.r, .int .i64 o.c, .int .i64 o.k, .int .i64 o.a, .int .i64 o.n]] w (DoesPost B p q mo (N + 1) (stepB mo S o) w0) := by
  obtain ⟨⟨sk, sc, sh, st⟩, r, c, k, a, n⟩ := o
  have hsz := h.size
  have hx := h.fresh (.cells #[.int .i64 sk, .int .i64 sc, .bool sh, .string st, .int .i64 r, .int .i64 c, .int .i64 k, .int .i64 a, .int .i64 n] 37)
  have hw1 : Below B w0 (w.alloc (.cells #[.int .i64 sk, .int .i64 sc, .bool sh, .string st, .int .i64 r, .int .i64 c, .int .i64 k, .int .i64 a, .int .i64 n] 37)) := hw.trans (below_allocs (Below.refl _ _) _ |>.mono hsz)
  by_cases hk : sk < 0
  · have HA := Lib.hid (hx.pl hw1 (S' := shiftB S k a n) (fun v L hL he => by
      have := blShift_any k a n _ hL (by rw [← List.length_map (f := (·.2)), he]; omega)
      rwa [he] at this))
    have HB : Hid (∀ w2, BtX B p q mo N (shiftB S k a n) w.heap.size w2 → Below B w0 w2 → Calls Try.prog 18 #[.pointer (some ⟨q, 0, none⟩), .agg #[.int .i64 k, .int .i64 a, .int .i64 n]] w2 (BtRes B p q mo (N + 1) (shiftB S k a n) w.heap.size w0 w2)) :=
      Lib.hid (fun w2 h2 hw2 => h2.rf hw2 (fun vM vF M F ids dir ho hi e1 e2 e3 e4 => by
        cases hr : rightS k a n with
        | false => exact rshift_out k a n w2 ho hi e2 e1 e3 e4 hr
        | true => exact rshift_in k a n w2 ho hi hm2 e2 e1 e3 e4 hN hr))
    have HK : Hid (∀ w2, BtKeep w.heap.size (w.alloc (.cells #[.int .i64 sk, .int .i64 sc, .bool sh, .string st, .int .i64 r, .int .i64 c, .int .i64 k, .int .i64 a, .int .i64 n] 37)) w2 → w2.cell? ⟨w.heap.size, 6, none⟩ = some (.int .i64 k) ∧ w2.cell? ⟨w.heap.size, 7, none⟩ = some (.int .i64 a) ∧ w2.cell? ⟨w.heap.size, 8, none⟩ = some (.int .i64 n)) :=
      Lib.hid (fun w2 hk => ⟨hk 6 _ (at_ (hp_new rfl) 6 _ rfl).1, hk 7 _ (at_ (hp_new rfl) 7 _ rfl).1, hk 8 _ (at_ (hp_new rfl) 8 _ rfl).1⟩)
    have HS : Hid (stepB mo S ⟨⟨sk, sc, sh, st⟩, r, c, k, a, n⟩ = shiftB S k a n) := Lib.hid (by unfold stepB; rw [if_pos hk])
    clear hx hw1 hw h
    go_enter Try.func9, Try.ntmps9
    go_wp2_with (first
      | (go_at_call 17; refine HA.out.mono ?_; rintro e w2 ⟨rfl, hx2, hw2, hk2⟩; obtain ⟨c3, c4, c5⟩ := HK.out _ hk2; have HX2 := Lib.hid hx2; have HW2 := Lib.hid hw2; clear hx2 hw2 hk2)
      | (go_at_call 18; refine (HB.out _ HX2.out HW2.out).mono ?_; rintro e w3 ⟨rfl, hx3, hw3, hk3⟩; have HX3 := Lib.hid hx3; have HW3 := Lib.hid hw3; clear hx3 hw3 hk3))
    go_end0
    rw [HS.out]
    exact ⟨rfl, HX3.out.forget, HW3.out⟩
  · have HA := Lib.hid (hx.pl hw1 (S' := takeB mo S ⟨sk, sc, sh, st⟩ (r, c)) (fun v L hL he => by
      have := bltake_any ⟨sk, sc, sh, st⟩ r c _ hL hm (by rw [← List.length_map (f := (·.2)), he]; omega) hi0 (by omega)
      rwa [he] at this))
    have HB : Hid (∀ w2, BtX B p q mo N (takeB mo S ⟨sk, sc, sh, st⟩ (r, c)) w.heap.size w2 → Below B w0 w2 → Calls Try.prog 19 #[.pointer (some ⟨q, 0, none⟩), .agg #[.int .i64 sk, .int .i64 sc, .bool sh, .string st], .agg #[.int .i64 r, .int .i64 c]] w2 (BtRes B p q mo (N + 1) (takeB mo S ⟨sk, sc, sh, st⟩ (r, c)) w.heap.size w0 w2)) :=
      Lib.hid (fun w2 h2 hw2 => h2.rf hw2 (fun vM vF M F ids dir ho hi e1 e2 e3 e4 => rtake_any ⟨sk, sc, sh, st⟩ r c w2 ho hi hm hm2 e2 e1 e3 e4 hN))
    have HK : Hid (∀ w2, BtKeep w.heap.size (w.alloc (.cells #[.int .i64 sk, .int .i64 sc, .bool sh, .string st, .int .i64 r, .int .i64 c, .int .i64 k, .int .i64 a, .int .i64 n] 37)) w2 → w2.cell? ⟨w.heap.size, 0, none⟩ = some (.int .i64 sk) ∧ w2.cell? ⟨w.heap.size, 1, none⟩ = some (.int .i64 sc) ∧ w2.cell? ⟨w.heap.size, 2, none⟩ = some (.bool sh) ∧ w2.cell? ⟨w.heap.size, 3, none⟩ = some (.string st) ∧ w2.cell? ⟨w.heap.size, 4, none⟩ = some (.int .i64 r) ∧ w2.cell? ⟨w.heap.size, 5, none⟩ = some (.int .i64 c)) :=
      Lib.hid (fun w2 hk => ⟨hk 0 _ (at_ (hp_new rfl) 0 _ rfl).1, hk 1 _ (at_ (hp_new rfl) 1 _ rfl).1, hk 2 _ (at_ (hp_new rfl) 2 _ rfl).1, hk 3 _ (at_ (hp_new rfl) 3 _ rfl).1, hk 4 _ (at_ (hp_new rfl) 4 _ rfl).1, hk 5 _ (at_ (hp_new rfl) 5 _ rfl).1⟩)
    have HS : Hid (stepB mo S ⟨⟨sk, sc, sh, st⟩, r, c, k, a, n⟩ = takeB mo S ⟨sk, sc, sh, st⟩ (r, c)) := Lib.hid (by unfold stepB; rw [if_neg hk])
    clear hx hw1 hw h
    go_enter Try.func9, Try.ntmps9
    go_wp2_with (first
      | (go_at_call 15; refine HA.out.mono ?_; rintro e w2 ⟨rfl, hx2, hw2, hk2⟩; obtain ⟨c0, c1, c2, c3, c4, c5⟩ := HK.out _ hk2; have HX2 := Lib.hid hx2; have HW2 := Lib.hid hw2; clear hx2 hw2 hk2)
      | (go_at_call 19; refine (HB.out _ HX2.out HW2.out).mono ?_; rintro e w3 ⟨rfl, hx3, hw3, hk3⟩; have HX3 := Lib.hid hx3; have HW3 := Lib.hid hw3; clear hx3 hw3 hk3))
    go_end0
    rw [HS.out]
    exact ⟨rfl, HX3.out.forget, HW3.out⟩
def MadePost (w : World) (mo : Nat) (e : Ending) (w' : World) : Prop :=
  ∃ p q : Nat, e = .returned (.tuple #[.pointer (some ⟨p, 0, none⟩), .pointer (some ⟨q, 0, none⟩)]) ∧ Bt w.heap.size p q mo 0 ⟨0, ByteArray.empty, []⟩ w' ∧ Below w.heap.size w w'
set_option maxRecDepth 100000 in
set_option maxHeartbeats 1600000 in
theorem made19 (m : Int) (h0 : 0 ≤ m) (h1 : m ≤ 255) (mo : Nat) (hm : (mo : Int) = 1 + m % 30) (w : World) :
    Calls Try.prog 7 #[.int .u8 m] w (MadePost w mo) := by
  have HM := Lib.hid hm
  have HN : Hid (∀ w, Calls Try.prog 14 #[.int .i64 (1 + m % 30)] w fun e w' => e = .returned (.tuple #[.pointer (some ⟨w.heap.size, 0, none⟩), .int .i64 0]) ∧ BlO w' w.heap.size (.slice none 0 0) [] mo 0 ByteArray.empty ∧ Below w.heap.size w w') := Lib.hid (fun w => by
    rw [← hm]; exact blNew_ok mo w (by omega) (by omega))
  clear hm
  go_enter Try.func7, Try.ntmps7
  go_wp2_with (go_at_call 14; refine (HN.out _).mono ?_; rintro e w1 ⟨rfl, hpt, hb1⟩; have HPT := Lib.hid hpt; clear hpt)
  go_ret2
  have hb2 := below_allocs (Below.refl w1.heap.size w1) (.cells #[.int .i64 (1 + m % 30), .slice none 0 0, .slice none 0 0, .int .u64 0, .string ByteArray.empty] 58)
  have hlt := HPT.out.lt w.heap.size (by simp [foot])
  refine ⟨w.heap.size, w1.heap.size, rfl, ⟨_, [], .slice none 0 0, .slice none 0 0, [], [], 0, ByteArray.empty, HPT.out.below hb2, rfl, ⟨?_, at_ (hp_new rfl) 1 _ rfl, at_ (hp_new rfl) 2 _ rfl, at_ (hp_new rfl) 3 _ rfl, at_ (hp_new rfl) 4 _ rfl, World.ownsRow_nil _ _ _ _, World.ownsRow_nil _ _ _ _⟩, ?_, ?_, ?_, ?_, by simp, by simp, by omega, by simp⟩, below_tail hb1 hb2⟩
  · rw [HM.out]; exact (at_ (hp_new rfl) 0 _ rfl).1
  · exact ⟨fun m hm => (by cases hm), fun h => absurd rfl h, fun m hm => (by cases hm)⟩
  · intro g hg hG
    simp [foot, rfoot, Value.ownBlock] at hg hG
    omega
  · intro g hg; simp [foot, Value.ownBlock] at hg; exact ⟨by omega, id⟩
  · intro g hg; simp [rfoot, Value.ownBlock] at hg; exact ⟨by omega, id⟩
end Go.Proofs.Ytgfaincejebogaa
