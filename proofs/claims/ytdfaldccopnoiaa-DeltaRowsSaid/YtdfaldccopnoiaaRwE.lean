/- The rows that differ: the program's walk (each, Rows and its closure), and the document's comparison of numbers. Conditions: none. -/
import Derived.Test.YtdfaldccopnoiaaRwD
import Derived.Test.YtdfaldccopnoiaaClC
import Derived.Test.YtdfaldccopnoiaaShR
import Derived.Lib.SmallJoins
namespace Go.Proofs.Ytdfaldccopnoiaa
open Go.RowKit

theorem Part_any (A B : Option Addr) (l m : List Cl) (ca cb : Nat) (hz : l.length ≤ 9223372036854775807) (hz2 : m.length ≤ 9223372036854775807) :
    ∃ a b : Int, ∀ w : World, ClsAt w A l → ClsAt w B m → Calls Try.prog 24 #[.slice A l.length ca, .slice B m.length cb] w fun e w' => e = .returned (.tuple #[.int .i64 a, .int .i64 b, .bool (decide (l.length = m.length ∧ l ≠ m))]) ∧ Below w.heap.size w w' := by
  by_cases h2 : l.length ≠ m.length ∨ l = m
  · have e : decide (l.length = m.length ∧ l ≠ m) = false := decide_eq_false (by rintro ⟨h1, h3⟩; rcases h2 with h | h; exact h h1; exact h3 h)
    exact ⟨0, 0, fun w hl hm => by rw [e]; exact Part_none A B l m ca cb w hl hm hz hz2 h2⟩
  · have hlen : l.length = m.length := by omega
    have e : decide (l.length = m.length ∧ l ≠ m) = true := decide_eq_true ⟨hlen, fun e => h2 (.inr e)⟩
    obtain ⟨fst, lst, hd⟩ := diffs_of hlen (fun e => h2 (.inr e))
    have a1 := hd.lt
    have a2 := hd.le
    refine ⟨partA fst (halfB (l[fst]'(by omega)) (m[fst]'(by omega)) 2), partB lst l.length (halfB (l[lst]'(by omega)) (m[lst]'(by omega)) 1), fun w hl hm => ?_⟩
    obtain ⟨b, off, rfl, -⟩ := hl (by omega)
    obtain ⟨b', off', rfl, -⟩ := hm (by omega)
    rw [e]
    exact Part_some b b' off off' l m ca cb fst lst _ _ _ _ w hl hm hz hz2 hd (List.getElem?_eq_getElem (show fst < l.length by omega)) (List.getElem?_eq_getElem (show fst < m.length by omega)) (List.getElem?_eq_getElem (show lst < l.length by omega)) (List.getElem?_eq_getElem (show lst < m.length by omega))

theorem owns_below {w w' : World} {base : Nat} {e : TypeId} {size : Nat} {v : Value} {n : Nat} {xs : List Value} (h : w.ownsRow base e size v n xs) (hb : Below w.heap.size w w') : w'.ownsRow base e size v n xs := by
  obtain ⟨h1, h2 | ⟨g, cap, cur, e1, e2, e3, e4⟩⟩ := h
  · exact ⟨h1, .inl h2⟩
  · refine ⟨h1, .inr ⟨g, cap, cur, e1, e2, ?_, e4⟩⟩
    rw [hb.block g ?_]; exact e3
    rcases Nat.lt_or_ge g w.heap.size with h | h
    · exact h
    · rw [Array.getElem?_eq_none h] at e3; cases e3
/-- The variable 'out', and the row that it holds. -/
def OutSt (W : World) (xs : List Int) (w : World) : Prop :=
  ∃ v : Value, (w.cell? ⟨W.heap.size, 0, none⟩ = some v ∧ w.frozen? ⟨W.heap.size, 0, none⟩ = false) ∧ w.ownsRow (W.heap.size + 1) 3 1 v xs.length (vals xs) ∧ Below W.heap.size W w
theorem OutSt.below {W w w' : World} {xs : List Int} (h : OutSt W xs w) (hb : Below w.heap.size w w') : OutSt W xs w' := by
  obtain ⟨v, hc, ho, hB⟩ := h
  exact ⟨v, hold hb hc, owns_below ho hb, below_tail hB hb⟩

set_option maxRecDepth 100000 in
set_option maxHeartbeats 1600000 in
theorem Rows1_any (y a b : Int) (W w : World) (xs : List Int) (hst : OutSt W xs w) (hn : xs.length ≤ 1000) :
    Calls Try.prog 50 #[.int .i64 y, .int .i64 a, .int .i64 b, .pointer (some ⟨W.heap.size, 0, none⟩)] w fun e w' => e = .returned (.tuple #[]) ∧ OutSt W (xs ++ [y]) w' := by
  obtain ⟨i0, hi, hz0, hz1, hz2⟩ := info_parts info_int
  obtain ⟨v, hc, ho, hB⟩ := hst
  have HO := Lib.hid ho
  have c0 := hc.1
  have z0 := lt_of_cell c0
  have HC := Lib.hid hc
  clear hc
  go_enter Try.func50, Try.ntmps50
  go_wp2_with (at_builtin; refine wpList_append_own _ rfl (.tmp 7) (.tmp 9) _ rfl (W.heap.size + 1) 3 i0 (.int .i64 0) 1 8 Try.underlying25 hi hz0 hz1 hz2 rfl (by decide) _ _ _ rfl (HO.out.alloc _) ⟨w.heap.size, 0, none⟩ 1 1 [.int .i64 y] rfl rfl (cell_one_new _ _ _) (by simp [Value.oneCell']) (by simp only [maxLen]; omega) (by omega) (by simp; omega) ?_; intro v1 w1 hown1 hg1 _; have HG := Lib.hid hg1; have HO1 := Lib.hid hown1; have hc1 := hold_grown hg1 (hold_alloc HC.out) (fun e => by have := (ho.lt _ e.symm).1; omega); have c1 := hc1.1; have f1 := hc1.2; obtain ⟨g1, cap1, rfl⟩ := Go.Joins.ownsRow_form hown1 (Nat.succ_pos _))
  go_end0
  refine ⟨rfl, _, set_self ⟨c1, f1⟩, ?_, ?_⟩
  · rw [← vals_snoc, List.length_append]
    exact ownsRow_setCell_below HO1.out (Nat.lt_succ_self _) _
  · have hB1 := below_allocs hB (.cells #[.int .i64 y] 3)
    exact below_set (below_grown hB1 (ho.alloc _) HG.out (Nat.le_succ _) hB1.size) (Nat.le_refl _) _

theorem Rows1_hid (W : World) : Hid (∀ (y a b : Int) (w : World) (xs : List Int), OutSt W xs w → xs.length ≤ 1000 → Calls Try.prog 50 #[.int .i64 y, .int .i64 a, .int .i64 b, .pointer (some ⟨W.heap.size, 0, none⟩)] w fun e w' => e = .returned (.tuple #[]) ∧ OutSt W (xs ++ [y]) w') :=
  Lib.hid fun y a b w xs h1 h2 => Rows1_any y a b W w xs h1 h2
def difs (L M : List (List Cl)) (k : Nat) : List Int := ((List.range k).filter (fun (y : Nat) => decide (L[y]? ≠ M[y]?))).map Int.ofNat
theorem difs_len (L M : List (List Cl)) (k : Nat) : (difs L M k).length ≤ k := by
  unfold difs
  rw [List.length_map]
  exact Nat.le_trans (List.length_filter_le _ _) (by simp)
theorem difs_succ_ne {L M : List (List Cl)} {k : Nat} (h : L[k]? ≠ M[k]?) : difs L M (k + 1) = difs L M k ++ [(k : Int)] := by
  simp [difs, List.range_succ, h]
theorem difs_succ_eq {L M : List (List Cl)} {k : Nat} (h : L[k]? = M[k]?) : difs L M (k + 1) = difs L M k := by
  simp [difs, List.range_succ, h]

set_option maxRecDepth 100000 in
set_option maxHeartbeats 1600000 in
theorem each_any (A B : Option Addr) (l m : List Rw) (ca cb N : Nat) (W w : World) (hl : RwsAt W A l) (hm : RwsAt W B m) (hz : l.length ≤ 400) (hz2 : m.length ≤ 400) (hN : N = min l.length m.length) (hst : OutSt W [] w) :
    Calls Try.prog 49 #[.slice A l.length ca, .slice B m.length cb, .func (.func 50) #[] #[.pointer (some ⟨W.heap.size, 0, none⟩)]] w fun e w' => e = .returned (.tuple #[]) ∧ OutSt W (difs (conts l) (conts m) N) w' := by
  have HL := Lib.hid hl
  have HM := Lib.hid hm
  have HST := Lib.hid hst
  have HR := Rows1_hid W
  have n1 : N ≤ l.length := by omega
  have n2 : N ≤ m.length := by omega
  have n3 : min (l.length : Int) (m.length : Int) = (N : Int) := by omega
  clear hl hm hst hN
  go_enter Try.func49, Try.ntmps49
  go_wp2_with fail
  all_goals (first | (have e : (m.length : Int) = (N : Int) := by omega) | (have e : (l.length : Int) = (N : Int) := by omega))
  all_goals simp only [e]
  all_goals clear e
  all_goals
    go_loopw [17] (fun i wr => ∃ k : Nat, k ≤ N ∧ i = .int .i64 k ∧ OutSt W (difs (conts l) (conts m) k) wr) (fun i _ => N - (intOf i).toNat)
    case atStart => exact ⟨0, Nat.zero_le _, rfl, HST.out⟩
    case round =>
      obtain ⟨k, hk, rfl, hst⟩ := hrel
      have HS2 := Lib.hid hst
      obtain ⟨v0, -, -, hB⟩ := hst
      by_cases hlt : k < N
      rotate_left
      · obtain rfl : k = N := by omega
        go_wp2
        go_end0
        exact ⟨rfl, HS2.out⟩
      · have hll : k < l.length := by omega
        have hlm : k < m.length := by omega
        obtain ⟨b, off, x, rfl, hx, cx⟩ := HL.out.at_ hll
        obtain ⟨b', off', y, rfl, hy, cy⟩ := HM.out.at_ hlm
        have HXX := Lib.hid hx
        have HYY := Lib.hid hy
        clear hx hy
        replace cx := cx.below hB
        replace cy := cy.below hB
        obtain ⟨pa, pb, hp⟩ := Part_any x.A y.A x.cs y.cs x.cap y.cap cx.2.2 cy.2.2
        have c0 := cx.1.1
        have d0 := cy.1.1
        have CX := Lib.hid cx.2.1
        have CY := Lib.hid cy.2.1
        have hzx := cx.2.2
        have hzy := cy.2.2
        clear cx cy
        have hdl := difs_len (conts l) (conts m) k
        have HDL := Lib.hid (show (difs (conts l) (conts m) k).length ≤ 1000 by omega)
        clear hdl
        by_cases hEq : x.cs = y.cs
        · rw [show decide (x.cs.length = y.cs.length ∧ x.cs ≠ y.cs) = false from decide_eq_false (fun h => h.2 hEq)] at hp
          have HP := Lib.hid hp
          have hle : ((x.cs.length : Int) != (y.cs.length : Int)) = false := by simp [hEq]
          have HE := Lib.hid hEq
          clear hp hEq
          go_upto_region 4 with (fail)
          go_quiet (fail)
          go_wp2_with (go_at_call 24; refine (HP.out _ (CX.out.below (by repeat (first | exact Below.refl _ _ | refine below_drewNs ?_ _ | refine Below.drew ?_))) (CY.out.below (by repeat (first | exact Below.refl _ _ | refine below_drewNs ?_ _ | refine Below.drew ?_)))).mono ?_; rintro e w1 ⟨rfl, hb0⟩; have hb := below_tail (show Below wr.heap.size wr _ from by repeat (first | exact Below.refl _ _ | refine below_drewNs ?_ _ | refine Below.drew ?_)) hb0; clear hb0)
          go_roundw
          case rel => exact ⟨k + 1, by omega, by go_num, by rw [difs_succ_eq (by rw [conts_at HXX.out, conts_at HYY.out, HE.out])]; exact HS2.out.below hb⟩
          case measure => simp [intOf]; omega
        · by_cases hln : x.cs.length = y.cs.length
          · rw [show decide (x.cs.length = y.cs.length ∧ x.cs ≠ y.cs) = true from decide_eq_true ⟨hln, hEq⟩] at hp
            have HP := Lib.hid hp
            have hle : ((x.cs.length : Int) != (y.cs.length : Int)) = false := by simp [hln]
            have HE := Lib.hid hEq
            clear hp hEq hln
            go_upto_region 4 with (fail)
            go_quiet (fail)
            go_wp2_with (first | (go_at_call 24; refine (HP.out _ (CX.out.below (by repeat (first | exact Below.refl _ _ | refine below_drewNs ?_ _ | refine Below.drew ?_))) (CY.out.below (by repeat (first | exact Below.refl _ _ | refine below_drewNs ?_ _ | refine Below.drew ?_)))).mono ?_; rintro e w1 ⟨rfl, hb0⟩; have hb := below_tail (show Below wr.heap.size wr _ from by repeat (first | exact Below.refl _ _ | refine below_drewNs ?_ _ | refine Below.drew ?_)) hb0; clear hb0) | (go_at_call 50; refine (HR.out _ _ _ _ _ (HS2.out.below hb) HDL.out).mono ?_; rintro e w2 ⟨rfl, hst2⟩))
            go_roundw
            case rel => exact ⟨k + 1, by omega, by go_num, by rw [difs_succ_ne (by rw [conts_at HXX.out, conts_at HYY.out]; simpa using HE.out)]; exact hst2⟩
            case measure => simp [intOf]; omega
          · rw [show decide (x.cs.length = y.cs.length ∧ x.cs ≠ y.cs) = false from decide_eq_false (fun h => hln h.1)] at hp
            have HP := Lib.hid hp
            have hle : ((x.cs.length : Int) != (y.cs.length : Int)) = true := by simp; omega
            have HE := Lib.hid hEq
            clear hp hEq hln
            go_upto_region 4 with (fail)
            go_quiet (fail)
            go_wp2_with (first | (go_at_call 24; refine (HP.out _ (CX.out.below (by repeat (first | exact Below.refl _ _ | refine below_drewNs ?_ _ | refine Below.drew ?_))) (CY.out.below (by repeat (first | exact Below.refl _ _ | refine below_drewNs ?_ _ | refine Below.drew ?_)))).mono ?_; rintro e w1 ⟨rfl, hb0⟩; have hb := below_tail (show Below wr.heap.size wr _ from by repeat (first | exact Below.refl _ _ | refine below_drewNs ?_ _ | refine Below.drew ?_)) hb0; clear hb0) | (go_at_call 50; refine (HR.out _ _ _ _ _ (HS2.out.below hb) HDL.out).mono ?_; rintro e w2 ⟨rfl, hst2⟩))
            go_roundw
            case rel => exact ⟨k + 1, by omega, by go_num, by rw [difs_succ_ne (by rw [conts_at HXX.out, conts_at HYY.out]; simpa using HE.out)]; exact hst2⟩
            case measure => simp [intOf]; omega

theorem each_hid (A B : Option Addr) (l m : List Rw) (ca cb : Nat) (W : World) (hl : RwsAt W A l) (hm : RwsAt W B m) (hz : l.length ≤ 400) (hz2 : m.length ≤ 400) :
    Hid (∀ w : World, OutSt W [] w → Calls Try.prog 49 #[.slice A l.length ca, .slice B m.length cb, .func (.func 50) #[] #[.pointer (some ⟨W.heap.size, 0, none⟩)]] w fun e w' => e = .returned (.tuple #[]) ∧ OutSt W (difs (conts l) (conts m) (min l.length m.length)) w') :=
  Lib.hid fun w h => each_any A B l m ca cb _ W w hl hm hz hz2 rfl h

def OwnPost (w : World) (xs : List Int) (e : Ending) (w' : World) : Prop := ∃ v : Value, e = .returned v ∧ w'.ownsRow (w.heap.size + 1) 3 1 v xs.length (vals xs) ∧ Below w.heap.size w w'
set_option maxRecDepth 100000 in
set_option maxHeartbeats 1600000 in
theorem DRows_any (A B : Option Addr) (l m : List Rw) (ca cb : Nat) (w : World) (hl : RwsAt w A l) (hm : RwsAt w B m) (hz : l.length ≤ 400) (hz2 : m.length ≤ 400) :
    Calls Try.prog 33 #[.slice A l.length ca, .slice B m.length cb] w (OwnPost w (difs (conts l) (conts m) (min l.length m.length))) := by
  have HE := each_hid A B l m ca cb w hl hm hz hz2
  generalize difs (conts l) (conts m) (min l.length m.length) = xs at HE ⊢
  have hmf : ∀ (fn : Fn) (first cap : Array Value) (w : World), (Instr.makeFunc fn first cap).run Try.prog w = .ok (.func fn first cap) w := fun _ _ _ _ => rfl
  have S0 : OutSt w [] (w.alloc (.cells #[.slice none 0 0] 25)) :=
    ⟨.slice none 0 0, at_new (Below.refl _ _) (hp_new rfl) 0 _ rfl, World.ownsRow_nil _ _ _ _, below_allocs (Below.refl _ _) _⟩
  have HS := Lib.hid S0
  clear hl hm S0
  go_enter Try.func33, Try.ntmps33
  go_wp2_with (go_at_call 49; refine (HE.out _ HS.out).mono ?_; rintro e w1 ⟨rfl, v, hc, ho, hB⟩; have c0 := hc.1)
  go_ret
  exact ⟨v, rfl, ho, hB⟩

set_option maxRecDepth 100000 in
set_option maxHeartbeats 1600000 in
theorem Ints_same (v1 v2 : Value) (B1 B2 : Nat) (xs : List Int) (w : World) (h1 : w.ownsRow B1 3 1 v1 xs.length (vals xs)) (h2 : w.ownsRow B2 3 1 v2 xs.length (vals xs)) (hz : xs.length ≤ 1000) :
    Calls Try.prog 32 #[v1, v2] w fun e w' => e = .returned (.bool true) ∧ Below w.heap.size w w' := by
  rcases Nat.eq_zero_or_pos xs.length with h0 | h0
  · obtain rfl : xs = [] := List.length_eq_zero_iff.1 h0
    rcases Go.Joins.ownsRow_forms h1 with ⟨rfl, -⟩ | ⟨g, cap, rfl⟩ <;> rcases Go.Joins.ownsRow_forms h2 with ⟨rfl, -⟩ | ⟨g2, cap2, rfl⟩
    all_goals
      clear h1 h2 hz h0
      go_enter Try.func32, Try.ntmps32
      go_wp2_with fail
      go_loopw [5] (fun i wr => i = .int .i64 0 ∧ Below w.heap.size w wr) (fun _ _ => 0)
      case atStart => exact ⟨rfl, Below.refl _ _⟩
      case round =>
        obtain ⟨rfl, hB⟩ := hrel
        go_wp2
        go_ret
        exact ⟨rfl, hB⟩
  · obtain ⟨g, cap, rfl⟩ := Go.Joins.ownsRow_form h1 h0
    obtain ⟨g2, cap2, rfl⟩ := Go.Joins.ownsRow_form h2 h0
    have hcell : ∀ (j : Nat) (x : Int), xs[j]? = some x → w.cell? ⟨g, j, none⟩ = some (.int .i64 x) ∧ w.cell? ⟨g2, j, none⟩ = some (.int .i64 x) := by
      intro j x hj
      have hlt := (List.getElem?_eq_some_iff.1 hj).1
      refine ⟨?_, ?_⟩
      · rw [h1.cellAt j (by omega)]; simp [vals, hj]
      · rw [h2.cellAt j (by omega)]; simp [vals, hj]
    have HC := Lib.hid hcell
    clear hcell h1 h2
    go_enter Try.func32, Try.ntmps32
    go_wp2_with fail
    go_loopw [5] (fun i wr => ∃ j : Nat, j ≤ xs.length ∧ i = .int .i64 j ∧ Below w.heap.size w wr) (fun i _ => xs.length - (intOf i).toNat)
    case atStart => exact ⟨0, Nat.zero_le _, rfl, Below.refl _ _⟩
    case round =>
      obtain ⟨j, hj, rfl, hB⟩ := hrel
      by_cases hlt : j < xs.length
      rotate_left
      · go_wp2
        go_ret
        exact ⟨rfl, hB⟩
      obtain ⟨x, hx⟩ : ∃ x, xs[j]? = some x := ⟨xs[j], List.getElem?_eq_getElem hlt⟩
      have c0 := holda hB (HC.out j x hx).1
      have c1 := holda hB (HC.out j x hx).2
      have HX := Lib.hid hx
      clear hx
      go_upto_region 6 with (fail)
      go_quiet (fail)
      go_wp2
      go_roundw
      case rel => exact ⟨j + 1, by omega, by go_num, by repeat (first | exact hB | refine below_drewNs ?_ _ | refine Below.drew ?_)⟩
      case measure => simp [intOf]; omega
end Go.Proofs.Ytdfaldccopnoiaa
