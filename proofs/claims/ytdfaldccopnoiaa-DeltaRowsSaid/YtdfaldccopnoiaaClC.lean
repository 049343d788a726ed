/- Walks of delta.Part and of its closure: the part of a row that differs. Conditions: none. -/
import Derived.Test.YtdfaldccopnoiaaClB
import Derived.Deep.LoopGhost
import Derived.Deep.QuietTactic
import Derived.BigQuiet
namespace Go.Proofs.Ytdfaldccopnoiaa
open Go.RowKit

def halfB (x y : Cl) (k : Int) : Bool := x.half == k || y.half == k
set_option maxHeartbeats 800000 in
theorem half_any (i : Nat) (kk : Int) (bf bt : Nat) (b b' off off' : Nat) (ca cb n m : Nat) (x y : Cl) (w : World) (hf : w.cell? ⟨bf, 0, none⟩ = some (.slice (some ⟨b, off, none⟩) n ca)) (ht : w.cell? ⟨bt, 0, none⟩ = some (.slice (some ⟨b', off', none⟩) m cb))
    (hx : w.cell? ⟨b, off + i * 8 + 2, none⟩ = some (.int .i64 x.half)) (hy : w.cell? ⟨b', off' + i * 8 + 2, none⟩ = some (.int .i64 y.half)) (hin : i < n) (him : i < m) :
    Calls Try.prog 47 #[.int .i64 i, .int .i64 kk, .pointer (some ⟨bf, 0, none⟩), .pointer (some ⟨bt, 0, none⟩)] w fun e w' => e = .returned (.bool (halfB x y kk)) ∧ w = w' := by
  unfold halfB
  cases hh : (x.half == kk)
  · go_enter Try.func47, Try.ntmps47
    go_wp2
    go_ret
    exact ⟨by simp, rfl⟩
  · go_enter Try.func47, Try.ntmps47
    go_wp2
    go_ret
    exact ⟨by simp, rfl⟩

theorem ClsAt.cell {w : World} {b off : Nat} {l : List Cl} {k : Nat} {c : Cl} (h : ClsAt w (some ⟨b, off, none⟩) l) (hk : l[k]? = some c) : ClAt w b (off + k * 8) c := by
  obtain ⟨b1, off1, e, hc⟩ := h (by have := (List.getElem?_eq_some_iff.1 hk).1; omega)
  injection e with e
  injection e with e1 e2 _
  subst e1 e2
  exact hc k c hk
/-- Where the first and the last cell lie that differ. -/
structure Diffs (l m : List Cl) (fst lst : Nat) : Prop where
  len : l.length = m.length
  le : fst ≤ lst
  lt : lst < l.length
  f : l[fst]? ≠ m[fst]?
  g : l[lst]? ≠ m[lst]?
  before : ∀ i, i < fst → l[i]? = m[i]?
  behind : ∀ i, lst < i → l[i]? = m[i]?
theorem least_of {Q : Nat → Prop} [DecidablePred Q] : ∀ n, (∃ i, i < n ∧ Q i) → ∃ i, i < n ∧ Q i ∧ ∀ j, j < i → ¬ Q j
  | 0, ⟨i, h, _⟩ => absurd h (by omega)
  | n + 1, h => by
    by_cases h1 : ∃ i, i < n ∧ Q i
    · obtain ⟨i, hi, hq, hj⟩ := least_of n h1
      exact ⟨i, by omega, hq, hj⟩
    · obtain ⟨i, hi, hq⟩ := h
      have : i = n := by
        rcases Nat.lt_or_ge i n with h2 | h2
        · exact absurd ⟨i, h2, hq⟩ h1
        · omega
      subst this
      exact ⟨i, hi, hq, fun j hj hqj => h1 ⟨j, hj, hqj⟩⟩
theorem greatest_of {Q : Nat → Prop} [DecidablePred Q] : ∀ n, (∃ i, i < n ∧ Q i) → ∃ i, i < n ∧ Q i ∧ ∀ j, i < j → j < n → ¬ Q j
  | 0, ⟨i, h, _⟩ => absurd h (by omega)
  | n + 1, h => by
    by_cases h1 : Q n
    · exact ⟨n, by omega, h1, fun j hj hjn => by omega⟩
    · obtain ⟨i, hi, hq⟩ := h
      have hin : i < n := by
        rcases Nat.lt_or_ge i n with h2 | h2
        · exact h2
        · exact absurd (show Q n by have : i = n := by omega
                                    rw [← this]; exact hq) h1
      obtain ⟨i, hi, hq, hj⟩ := greatest_of n ⟨i, hin, hq⟩
      refine ⟨i, by omega, hq, fun j hj1 hj2 => ?_⟩
      rcases Nat.lt_or_ge j n with h2 | h2
      · exact hj j hj1 h2
      · have : j = n := by omega
        rw [this]; exact h1
theorem diffs_of {l m : List Cl} (hlen : l.length = m.length) (hne : l ≠ m) : ∃ fst lst, Diffs l m fst lst := by
  have hex : ∃ i, i < l.length ∧ l[i]? ≠ m[i]? := by
    by_cases h : ∃ i, i < l.length ∧ l[i]? ≠ m[i]?
    · exact h
    · exfalso
      apply hne
      apply List.ext_getElem? 
      intro i
      by_cases hi : i < l.length
      · by_cases e : l[i]? = m[i]?
        · exact e
        · exact absurd ⟨i, hi, e⟩ h
      · rw [List.getElem?_eq_none (by omega), List.getElem?_eq_none (by omega)]
  obtain ⟨f, hf, hq, hb⟩ := least_of _ hex
  obtain ⟨g, hg, hq2, hb2⟩ := greatest_of _ hex
  refine ⟨f, g, hlen, ?_, hg, hq, hq2, fun i hi => ?_, fun i hi => ?_⟩
  · rcases Nat.lt_or_ge g f with h | h
    · exact absurd hq2 (hb g h)
    · exact h
  · have := hb i hi
    exact Decidable.not_not.1 this
  · by_cases h : i < l.length
    · exact Decidable.not_not.1 (hb2 i hi h)
    · rw [List.getElem?_eq_none (by omega), List.getElem?_eq_none (by omega)]

def partA (fst : Nat) (h : Bool) : Int := if 0 < fst ∧ h = true then (fst : Int) - 1 else fst
def partB (lst len : Nat) (h : Bool) : Int := if lst + 1 < len ∧ h = true then (lst : Int) + 2 else (lst : Int) + 1
def noPart : Value := .tuple #[.int .i64 0, .int .i64 0, .bool false]

theorem EqualCells_hid (A B : Option Addr) (l m : List Cl) (ca cb : Nat) (hz : l.length ≤ 9223372036854775807) (hz2 : m.length ≤ 9223372036854775807) :
    Hid (∀ w : World, ClsAt w A l → ClsAt w B m → Calls Try.prog 46 #[.slice A l.length ca, .slice B m.length cb] w fun e w' => e = .returned (.bool (decide (l = m))) ∧ Below w.heap.size w w') :=
  Lib.hid fun w hl hm => EqualCells_any A B l m ca cb w hl hm hz hz2
set_option maxHeartbeats 800000 in
theorem Part_none (A B : Option Addr) (l m : List Cl) (ca cb : Nat) (w : World) (hl : ClsAt w A l) (hm : ClsAt w B m) (hz : l.length ≤ 9223372036854775807) (hz2 : m.length ≤ 9223372036854775807) (h : l.length ≠ m.length ∨ l = m) :
    Calls Try.prog 24 #[.slice A l.length ca, .slice B m.length cb] w fun e w' => e = .returned noPart ∧ Below w.heap.size w w' := by
  have HL := Lib.hid (hl.below ((Below.refl _ _).alloc (Nat.le_refl _) (.cells #[.slice A l.length ca] 38)))
  have HM := Lib.hid (hm.below ((Below.refl _ _).alloc (Nat.le_refl _) (.cells #[.slice A l.length ca] 38)))
  clear hl hm
  have HE := EqualCells_hid A B l m ca cb hz hz2
  unfold noPart
  by_cases hlen : l.length = m.length
  rotate_left
  · have h' : ((l.length : Int) != (m.length : Int)) = true := by simp; omega
    clear hlen h HE
    go_enter Try.func24, Try.ntmps24
    go_wp2
    go_ret3
    exact ⟨rfl, below_allocs (below_allocs (Below.refl _ _) _) _⟩
  · obtain rfl : l = m := by
      rcases h with h | h
      · exact absurd hlen h
      · exact h
    rw [show decide (l = l) = true from by simp] at HE
    clear hlen h
    go_enter Try.func24, Try.ntmps24
    go_wp2_with (go_at_call 46; refine (HE.out _ (HL.out.below ((Below.refl _ _).alloc (Nat.le_refl _) _)) (HM.out.below ((Below.refl _ _).alloc (Nat.le_refl _) _))).mono ?_; rintro e w1 ⟨rfl, hb1⟩; have hB := below_tail (show Below w.heap.size w _ from by repeat (first | exact Below.refl _ _ | refine below_allocs ?_ _)) hb1)
    go_ret3
    exact ⟨rfl, hB⟩

set_option maxRecDepth 100000 in
set_option maxHeartbeats 1600000 in
theorem Part_some (b b' off off' : Nat) (l m : List Cl) (ca cb fst lst : Nat) (x y x2 y2 : Cl) (w : World) (hl : ClsAt w (some ⟨b, off, none⟩) l) (hm : ClsAt w (some ⟨b', off', none⟩) m) (hz : l.length ≤ 9223372036854775807) (hz2 : m.length ≤ 9223372036854775807) (hd : Diffs l m fst lst)
    (hx : l[fst]? = some x) (hy : m[fst]? = some y) (hx2 : l[lst]? = some x2) (hy2 : m[lst]? = some y2) :
    Calls Try.prog 24 #[.slice (some ⟨b, off, none⟩) l.length ca, .slice (some ⟨b', off', none⟩) m.length cb] w fun e w' => e = .returned (.tuple #[.int .i64 (partA fst (halfB x y 2)), .int .i64 (partB lst l.length (halfB x2 y2 1)), .bool true]) ∧ Below w.heap.size w w' := by
  have hne : decide (l = m) = false := by
    simp; rintro rfl; exact hd.f rfl
  have HL := Lib.hid (hl.below ((Below.refl _ _).alloc (Nat.le_refl _) (.cells #[.slice (some ⟨b, off, none⟩) l.length ca] 38)))
  have HM := Lib.hid (hm.below ((Below.refl _ _).alloc (Nat.le_refl _) (.cells #[.slice (some ⟨b, off, none⟩) l.length ca] 38)))
  clear hl hm
  have HE := EqualCells_hid (some ⟨b, off, none⟩) (some ⟨b', off', none⟩) l m ca cb hz hz2
  rw [hne] at HE
  clear hne
  have HD := Lib.hid hd
  have h' : ((l.length : Int) != (m.length : Int)) = false := by have := hd.len; simp; omega
  have d1 := hd.le
  have d2 := hd.lt
  have d3 : lst < m.length := by have := hd.len; omega
  have X1 := Lib.hid hx
  have Y1 := Lib.hid hy
  have X2 := Lib.hid hx2
  have Y2 := Lib.hid hy2
  clear hd hx hy hx2 hy2
  go_enter Try.func24, Try.ntmps24
  go_wp2_with (go_at_call 46; refine (HE.out _ (HL.out.below ((Below.refl _ _).alloc (Nat.le_refl _) _)) (HM.out.below ((Below.refl _ _).alloc (Nat.le_refl _) _))).mono ?_; rintro e w1 ⟨rfl, hb1⟩; have hB := below_tail (show Below w.heap.size w _ from by repeat (first | exact Below.refl _ _ | refine below_allocs ?_ _ | refine below_drewNs ?_ _ | refine Below.drew ?_)) hb1; have p := at_new (b := w.heap.size) hb1 (by repeat (first | (refine hp_new ?_; simp; done) | refine hp_old ?_ | refine hp_drewN ?_ | refine hp_drew ?_)) 0 (.slice (some ⟨b, off, none⟩) l.length ca) rfl; have q := at_new (b := w.heap.size + 1) hb1 (by repeat (first | (refine hp_new ?_; simp; done) | refine hp_old ?_ | refine hp_drewN ?_ | refine hp_drew ?_)) 0 (.slice (some ⟨b', off', none⟩) m.length cb) rfl)
  have HL1 := Lib.hid ((HL.out.below ((Below.refl _ _).alloc (Nat.le_refl _) _)).below hb1)
  have HM1 := Lib.hid ((HM.out.below ((Below.refl _ _).alloc (Nat.le_refl _) _)).below hb1)
  clear HL HM HE hb1
  go_quiet (fail)
  replace p := (show (w1.drewN nq).cell? _ = _ ∧ (w1.drewN nq).frozen? _ = _ from p)
  replace q := (show (w1.drewN nq).cell? _ = _ ∧ (w1.drewN nq).frozen? _ = _ from q)
  have HL2 := Lib.hid (HL1.out.below (below_drewNs (Below.refl _ _) nq))
  have HM2 := Lib.hid (HM1.out.below (below_drewNs (Below.refl _ _) nq))
  replace hB := below_drewNs hB nq
  clear HL1 HM1
  generalize w1.drewN nq = w2 at p q HL2 HM2 hB ⊢
  go_wp2_with fail
  go_loopw [7] (fun s7 wr => ∃ k : Nat, k ≤ fst ∧ s7 = .int .i64 k ∧ Below w2.heap.size w2 wr) (fun s7 _ => fst - (intOf s7).toNat)
  case atStart => exact ⟨0, Nat.zero_le _, rfl, Below.refl _ _⟩
  case round =>
    obtain ⟨k, hk, rfl, hB2⟩ := hrel
    have hkl : k < l.length := by omega
    have hkm : k < m.length := by omega
    obtain ⟨u, hu⟩ : ∃ u, l[k]? = some u := ⟨l[k], List.getElem?_eq_getElem hkl⟩
    obtain ⟨v, hv⟩ : ∃ v, m[k]? = some v := ⟨m[k], List.getElem?_eq_getElem hkm⟩
    have cx := (HL2.out.cell hu).below hB2
    have cy := (HM2.out.cell hv).below hB2
    unfold ClAt at cx cy
    have U := Lib.hid hu
    have V := Lib.hid hv
    clear hu hv
    have p2 := hold hB2 p
    have q2 := hold hB2 q
    go_wp2_with fail
    refine wp_region_u 8 (fun w' => (Below wr.heap.size wr w' ∧ w'.cell? ⟨w.heap.size, 0, none⟩ = some (.slice (some ⟨b, off, none⟩) l.length ca) ∧ w'.cell? ⟨w.heap.size + 1, 0, none⟩ = some (.slice (some ⟨b', off', none⟩) m.length cb)) ∧ (w'.cell? ⟨b, off + k * 8, none⟩ = some (.int .i32 u.r) ∧ w'.cell? ⟨b, off + k * 8 + 1, none⟩ = some (.string u.more) ∧ w'.cell? ⟨b, off + k * 8 + 2, none⟩ = some (.int .i64 u.half) ∧ w'.cell? ⟨b, off + k * 8 + 3, none⟩ = some (.int .i64 u.fk) ∧ w'.cell? ⟨b, off + k * 8 + 4, none⟩ = some (.int .i64 u.fn) ∧ w'.cell? ⟨b, off + k * 8 + 5, none⟩ = some (.int .i64 u.bk) ∧ w'.cell? ⟨b, off + k * 8 + 6, none⟩ = some (.int .i64 u.bn) ∧ w'.cell? ⟨b, off + k * 8 + 7, none⟩ = some (.int .i64 u.fl)) ∧ (w'.cell? ⟨b', off' + k * 8, none⟩ = some (.int .i32 v.r) ∧ w'.cell? ⟨b', off' + k * 8 + 1, none⟩ = some (.string v.more) ∧ w'.cell? ⟨b', off' + k * 8 + 2, none⟩ = some (.int .i64 v.half) ∧ w'.cell? ⟨b', off' + k * 8 + 3, none⟩ = some (.int .i64 v.fk) ∧ w'.cell? ⟨b', off' + k * 8 + 4, none⟩ = some (.int .i64 v.fn) ∧ w'.cell? ⟨b', off' + k * 8 + 5, none⟩ = some (.int .i64 v.bk) ∧ w'.cell? ⟨b', off' + k * 8 + 6, none⟩ = some (.int .i64 v.bn) ∧ w'.cell? ⟨b', off' + k * 8 + 7, none⟩ = some (.int .i64 v.fl))) (by kernel_rfl) (by kernel_rfl) ?_ ?_
    · exact ⟨⟨(Below.refl _ _).drew, p2.1, q2.1⟩, cx, cy⟩
    simp only [List.take_succ_cons, List.take_zero, List.drop_succ_cons, List.drop_zero]
    repeat (refine seqU_val ?_ (by rfl) ?_ ?_; rotate_left; · (intro w' hS; obtain ⟨_, _, _⟩ := hS; go_simp; first | done | with_reducible rfl)
            simp only [Act.put, List.setIfInBounds_toArray, List.set_cons_zero, List.set_cons_succ])
    refine seqU_nil (fun w' hS => ?_)
    have hB4 := hS.1.1
    clear hS cx cy p2 q2
    refine wpList_val (.bool (decide (u = v))) rfl (exec_eql_cell _ _ _ _ _ _ _ _ u v rfl rfl w') ?_
    by_cases hkf : k < fst
    · have huv : u = v := by
        have h1 := HD.out.before k hkf
        rw [U.out, V.out] at h1
        injection h1
      rw [show decide (u = v) = true from by simp [huv]]
      simp only [Act.put, List.setIfInBounds_toArray, List.set_cons_zero, List.set_cons_succ]
      have HUV := Lib.hid huv
      clear huv
      go_wp2
      go_roundw
      case rel => exact ⟨k + 1, by omega, by go_num, below_tail hB2 hB4⟩
      case measure => simp [intOf]; omega
    obtain rfl : k = fst := by omega
    have huv : u ≠ v := by
      intro e
      apply HD.out.f
      rw [U.out, V.out, e]
    rw [show decide (u = v) = false from by simp [huv]]
    simp only [Act.put, List.setIfInBounds_toArray, List.set_cons_zero, List.set_cons_succ]
    clear huv U V hkf
    have hB3 := below_tail hB2 hB4
    clear hB2 hB4
    go_wp2_with fail
    go_loopw [8] (fun s8 wr2 => ∃ j : Nat, lst ≤ j ∧ j < l.length ∧ s8 = .int .i64 ((j : Int) + 1) ∧ Below w2.heap.size w2 wr2) (fun s8 _ => (intOf s8).toNat)
    case atStart =>
      have := HD.out.len
      refine ⟨l.length - 1, by omega, by omega, ?_, hB3⟩
      congr 1; omega
    case round =>
      obtain ⟨j, hj, hjl, rfl, hB5⟩ := hrel
      have hjm : j < m.length := by have := HD.out.len; omega
      obtain ⟨u2, hu⟩ : ∃ u, l[j]? = some u := ⟨l[j], List.getElem?_eq_getElem hjl⟩
      obtain ⟨v2, hv⟩ : ∃ v, m[j]? = some v := ⟨m[j], List.getElem?_eq_getElem hjm⟩
      have cx := (HL2.out.cell hu).below hB5
      have cy := (HM2.out.cell hv).below hB5
      unfold ClAt at cx cy
      have U := Lib.hid hu
      have V := Lib.hid hv
      clear hu hv
      have p2 := hold hB5 p
      have q2 := hold hB5 q
      have hw : IntKind.i64.wrap (j : Int) = (j : Int) := IntWalk.i64_in _ (by omega)
      go_wp2_with fail
      refine wp_region_u 10 (fun w' => (Below wr.heap.size wr w' ∧ w'.cell? ⟨w.heap.size, 0, none⟩ = some (.slice (some ⟨b, off, none⟩) l.length ca) ∧ w'.cell? ⟨w.heap.size + 1, 0, none⟩ = some (.slice (some ⟨b', off', none⟩) m.length cb)) ∧ (w'.cell? ⟨b, off + j * 8, none⟩ = some (.int .i32 u2.r) ∧ w'.cell? ⟨b, off + j * 8 + 1, none⟩ = some (.string u2.more) ∧ w'.cell? ⟨b, off + j * 8 + 2, none⟩ = some (.int .i64 u2.half) ∧ w'.cell? ⟨b, off + j * 8 + 3, none⟩ = some (.int .i64 u2.fk) ∧ w'.cell? ⟨b, off + j * 8 + 4, none⟩ = some (.int .i64 u2.fn) ∧ w'.cell? ⟨b, off + j * 8 + 5, none⟩ = some (.int .i64 u2.bk) ∧ w'.cell? ⟨b, off + j * 8 + 6, none⟩ = some (.int .i64 u2.bn) ∧ w'.cell? ⟨b, off + j * 8 + 7, none⟩ = some (.int .i64 u2.fl)) ∧ (w'.cell? ⟨b', off' + j * 8, none⟩ = some (.int .i32 v2.r) ∧ w'.cell? ⟨b', off' + j * 8 + 1, none⟩ = some (.string v2.more) ∧ w'.cell? ⟨b', off' + j * 8 + 2, none⟩ = some (.int .i64 v2.half) ∧ w'.cell? ⟨b', off' + j * 8 + 3, none⟩ = some (.int .i64 v2.fk) ∧ w'.cell? ⟨b', off' + j * 8 + 4, none⟩ = some (.int .i64 v2.fn) ∧ w'.cell? ⟨b', off' + j * 8 + 5, none⟩ = some (.int .i64 v2.bk) ∧ w'.cell? ⟨b', off' + j * 8 + 6, none⟩ = some (.int .i64 v2.bn) ∧ w'.cell? ⟨b', off' + j * 8 + 7, none⟩ = some (.int .i64 v2.fl))) (by kernel_rfl) (by kernel_rfl) ?_ ?_
      · exact ⟨⟨(Below.refl _ _).drew, p2.1, q2.1⟩, cx, cy⟩
      simp only [List.take_succ_cons, List.take_zero, List.drop_succ_cons, List.drop_zero]
      repeat (refine seqU_val ?_ (by rfl) ?_ ?_; rotate_left; · (intro w' hS; obtain ⟨_, _, _⟩ := hS; go_simp; first | done | with_reducible rfl)
              simp only [Act.put, List.setIfInBounds_toArray, List.set_cons_zero, List.set_cons_succ])
      refine seqU_nil (fun w' hS => ?_)
      have hB6 := hS.1.1
      clear hS cx cy p2 q2
      refine wpList_val (.bool (decide (u2 = v2))) rfl (exec_eql_cell _ _ _ _ _ _ _ _ u2 v2 rfl rfl w') ?_
      by_cases hjl2 : lst < j
      · have huv : u2 = v2 := by
          have h1 := HD.out.behind j hjl2
          rw [U.out, V.out] at h1
          injection h1
        rw [show decide (u2 = v2) = true from by simp [huv]]
        simp only [Act.put, List.setIfInBounds_toArray, List.set_cons_zero, List.set_cons_succ]
        have HUV := Lib.hid huv
        clear huv
        go_wp2
        go_roundw
        case rel =>
          exact ⟨j - 1, by omega, by omega, by first | go_num | (congr 1; omega), below_tail hB5 hB6⟩
        case measure => simp [intOf]
      obtain rfl : j = lst := by omega
      have huv : u2 ≠ v2 := by
        intro e
        apply HD.out.g
        rw [U.out, V.out, e]
      rw [show decide (u2 = v2) = false from by simp [huv]]
      simp only [Act.put, List.setIfInBounds_toArray, List.set_cons_zero, List.set_cons_succ]
      clear huv U V hjl2
      have hB7 := below_tail hB5 hB6
      clear hB5 hB6 hB3
      replace p := hold hB7 p
      replace q := hold hB7 q
      have cx := (HL2.out.cell X1.out).below hB7
      have cy := (HM2.out.cell Y1.out).below hB7
      have cx2 := (HL2.out.cell X2.out).below hB7
      have cy2 := (HM2.out.cell Y2.out).below hB7
      have G1 : Hid (Calls Try.prog 47 #[.int .i64 k, .int .i64 2, .pointer (some ⟨w.heap.size, 0, none⟩), .pointer (some ⟨w.heap.size + 1, 0, none⟩)] w' fun e w'' => e = .returned (.bool (halfB x y 2)) ∧ w' = w'') :=
        Lib.hid (half_any k 2 _ _ b b' off off' ca cb _ _ x y w' p.1 q.1 cx.2.2.1 cy.2.2.1 (by omega) (by omega))
      have G2 : Hid (Calls Try.prog 47 #[.int .i64 j, .int .i64 1, .pointer (some ⟨w.heap.size, 0, none⟩), .pointer (some ⟨w.heap.size + 1, 0, none⟩)] w' fun e w'' => e = .returned (.bool (halfB x2 y2 1)) ∧ w' = w'') :=
        Lib.hid (half_any j 1 _ _ b b' off off' ca cb _ _ x2 y2 w' p.1 q.1 cx2.2.2.1 cy2.2.2.1 (by omega) (by omega))
      clear cx cy cx2 cy2 X1 X2 Y1 Y2 HL2 HM2
      have hfin := below_tail hB hB7
      have hB8 := Lib.hid hfin
      clear hfin hB hB7
      have hmf : ∀ (fn : Fn) (first cap : Array Value) (w : World), (Instr.makeFunc fn first cap).run Try.prog w = .ok (.func fn first cap) w := fun _ _ _ _ => rfl
      have hlm := HD.out.len
      have hlm1 : l.length ≤ m.length := by omega
      have hlm2 : m.length ≤ l.length := by omega
      clear hlm hw HD
      cases hha : halfB x y 2 <;> cases hhb : halfB x2 y2 1
      all_goals
        rw [hha] at G1
        rw [hhb] at G2
        have HA := Lib.hid hha
        have HB := Lib.hid hhb
        clear hha hhb
        by_cases hk0 : 0 < k <;> by_cases hj1 : j + 1 < m.length
        all_goals
          go_wp2_with (first | (go_at_call 47; (with_reducible refine (G1.out).mono ?_); rintro e w3 ⟨rfl, rfl⟩) | (go_at_call 47; (with_reducible refine (G2.out).mono ?_); rintro e w3 ⟨rfl, rfl⟩))
          go_ret3
          refine ⟨?_, hB8.out⟩
          rw [HA.out, HB.out]
          simp [partA, partB]
          try omega
end Go.Proofs.Ytdfaldccopnoiaa
