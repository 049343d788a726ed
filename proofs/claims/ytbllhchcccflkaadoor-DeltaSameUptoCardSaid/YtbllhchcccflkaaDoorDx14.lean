/- Ds, for every input: the call returns true, and its arguments read behind it as they read before. No condition. -/
import Derived.Test.YtbllhchcccflkaaDoorDx13
import Derived.Test.YtbllhchcccflkaaDoorRows
import Derived.ProofKit
import Derived.OpenShut
import Derived.Lib.SmallJoins
import Derived.Below
import Derived.ChangeSame
import Derived.Carry
import Derived.Test.YtbllhchcccflkaaDoorCards
import Derived.Test.YtbllhchcccflkaaDoorTie
import Derived.LaidMore
import Derived.Stop.Joined
import Derived.Stop.LaidErr
import Derived.SevenTiedAt
import Derived.Deep.DeepHandedRow
import Derived.Lib.LaidTab
set_option linter.unusedVariables false
set_option linter.unusedSimpArgs false
namespace Go.Proofs.YtbllhchcccflkaaDoor
open Go.RowKit
/-- What the law's first look reads. -/
def LawS (W : World) (A : Option Addr) (l : List Rw) (N : Nat) (y x : Int) (w' : World) : Prop := w'.cell? ⟨N, 0, none⟩ = some (.int .i64 y) ∧ w'.cell? ⟨N, 1, none⟩ = some (.int .i64 x) ∧ Below W.heap.size W w' ∧ RwsAt w' A l
theorem LawS.pers {W : World} {A : Option Addr} {l : List Rw} {N : Nat} {y x : Int} : Pers (LawS W A l N y x) := fun _ _ h hb => ⟨holda hb h.1, holda hb h.2.1, below_tail h.2.2.1 hb, h.2.2.2.below hb⟩
theorem LawS.row {W : World} {b off N : Nat} {r : Rw} {l : List Rw} {y x : Int} {w' : World} (h : LawS W (some ⟨b, off, none⟩) l N y x w') (hr : l[0]? = some r) : w'.cell? ⟨b, off, none⟩ = some (.slice r.A r.cs.length r.cap) := by
  obtain ⟨b', off', e, hc⟩ := h.2.2.2 (List.getElem?_eq_some_iff.1 hr).1
  injection e with e
  injection e with e1 e2
  subst e1
  subst e2
  have := (hc 0 r hr).1.1
  rwa [Nat.zero_mul, Nat.add_zero] at this
def True2 (_ : Value) (_ : World) : Prop := True
theorem True2.pers (v : Value) : Pers (True2 v) := fun _ _ _ _ => trivial
/-- The rows that the law parts. -/
def PartV (l : List Rw) (v : Value) (w' : World) : Prop := ∃ A2 c, v = .slice A2 l.length c ∧ RwsAt w' A2 (l.map unCont)
theorem PartV.pers (l : List Rw) (v : Value) : Pers (PartV l v) := fun _ _ ⟨A2, c, e, h⟩ hb => ⟨A2, c, e, h.below hb⟩
theorem PartV.out {l : List Rw} {A2 : Option Addr} {c : Nat} {w' : World} (h : PartV l (.slice A2 l.length c) w') : RwsAt w' A2 (l.map unCont) := by
  obtain ⟨A3, c3, e, h⟩ := h
  injection e with e1 e2 e3
  subst e1
  exact h
theorem parted_val {l : List Rw} {w : World} {e : Ending} {w' : World} (h : PartedPost l w e w') : ∃ v, e = .returned v ∧ ((∃ A2 c, v = .slice A2 l.length c) ∧ PartV l v w') ∧ Below w.heap.size w w' := by
  obtain ⟨A2, c, rfl, h1, h2⟩ := h
  exact ⟨_, rfl, ⟨⟨A2, c, rfl⟩, A2, c, rfl, h1⟩, h2⟩
set_option maxRecDepth 100000 in
set_option maxHeartbeats 6400000 in
theorem DeltaSame_walk (A : Option Addr) (l : List Rw) (ca : Nat) (y x : Int) (w : World) (hl : RwsAt w A l) (hz : l.length ≤ 9223372036854775807) (hmz : ∀ r ∈ l, ∀ c ∈ r.cs, c.more.size ≤ 1048576) (ht : TabP w) :
    Calls Tryd.prog 3 #[.slice A l.length ca, .agg #[.int .i64 y, .int .i64 x]] w fun e w' => e = .returned (.bool true) ∧ Below w.heap.size w w' := by
  have hn := hp_new (W := w) (o := .cells #[.int .i64 y, .int .i64 x] 24) rfl
  have n0 := (at_ hn 0 _ rfl).1
  have n1 := (at_ hn 1 _ rfl).1
  have hB0 := below_allocs (Below.refl w.heap.size w) (.cells #[.int .i64 y, .int .i64 x] 24)
  have HL := Lib.hid hl
  have HT := Lib.hid ht
  have HMZ := Lib.hid hmz
  have HG : Hid (∀ w', RwsAt w' A l → Calls Tryd.prog 4 #[.slice A l.length ca] w' (GreatPost l w')) := Lib.hid (fun w' h => Great_any A l ca w' h hz)
  clear hn hl ht hmz
  go_enter Tryd.func3, Tryd.ntmps3
  go_upto_region 1 with fail
  generalize hW : w.alloc (.cells #[.int .i64 y, .int .i64 x] 24) = W at n0 n1 hB0 ⊢
  clear hW
  have HB0 := Lib.hid hB0
  have HLW := Lib.hid (HL.out.below hB0)
  clear hB0
  generalize w.heap.size = N at n0 n1 ⊢
  refine wp_region_n 32 (LawS W A l N y x) (by kernel_rfl) (by kernel_rfl) LawS.pers ?_ ?_
  · exact ⟨n0, n1, (Below.refl _ _).drew, HLW.out.below (Below.refl _ _).drew⟩
  refine AtN.take 0 (o := ⟨_, _, _, _, _, _⟩) (v := ?_) (by kernel_rfl) rfl (by simp) (by kernel_rfl) (by kernel_rfl) ?_ ?_; rotate_left
  · first | exact StabN.skip (by rfl) | (refine StabN.val (by rfl) ?_; intro w' hS; obtain ⟨_, _, _⟩ := hS; go_simp; first | done | with_reducible rfl)
  simp only [Act.put, List.setIfInBounds_toArray, List.set_cons_zero, List.set_cons_succ]
  refine AtN.one 1 (o := ⟨_, _, _, _, _, _⟩) (fun v => ∃ b, v = .bool b ∧ (b = false → l.length ≤ 400)) (True2) (by simp) (by kernel_rfl) rfl (True2.pers) (StabN.call 4 #[.slice A l.length ca] _ _ (by rfl) (by intro w'; go_simp; done) (fun w' hS => (HG.out w' hS.2.2.2).mono (fun e w2 ⟨b, he, hg, hb⟩ => ⟨.bool b, he, ⟨⟨b, rfl, hg⟩, trivial⟩, hb⟩))) ?_
  rintro _ ⟨b, rfl, hg⟩
  simp only [Act.put, List.setIfInBounds_toArray, List.set_cons_zero, List.set_cons_succ]
  rcases b with _ | _
  rotate_left
  · skip
    refine AtN.go 2 ?_
    iterate 30 (refine AtC.take (o := ⟨_, _, _, _, _, _⟩) (v := ?_) (by kernel_rfl) rfl (by simp) (by kernel_rfl) (by kernel_rfl) ?_ ?_; rotate_left; (focus (first | (refine StabN.skip ?_; rfl) | (refine StabN.val (by rfl) ?_; intro w' hS; obtain ⟨⟨_, _, _⟩, _⟩ := hS; go_simp; first | done | with_reducible rfl))); simp only [Act.put, List.setIfInBounds_toArray, List.set_cons_zero, List.set_cons_succ])
    refine AtC.back ?_
    refine AtN.done (by kernel_rfl) (fun w5 hS => ?_)
    have HS := Lib.hid (HB0.out.trans (hS.1.2.2.1.mono HB0.out.size))
    clear hS
    go_wp2_with (go_at_call 6; (with_reducible refine (awake29 _).mono ?_); rintro e w6 ⟨rfl, hb6⟩)
    go_ret
    exact ⟨rfl, below_tail HS.out hb6⟩
  have hz4 := hg rfl
  have HR : Hid (∀ w', RwsAt w' A l → Calls Tryd.prog 5 #[.slice A l.length ca] w' (R28Post l w')) := Lib.hid (fun w' h => right28_any A l ca w' h hz4 HMZ.out)
  clear hg
  refine AtN.go 2 ?_
  iterate 2 (refine AtC.take (o := ⟨_, _, _, _, _, _⟩) (v := ?_) (by kernel_rfl) rfl (by simp) (by kernel_rfl) (by kernel_rfl) ?_ ?_; rotate_left; (focus (first | (refine StabN.skip ?_; rfl) | (refine StabN.val (by rfl) ?_; intro w' hS; obtain ⟨⟨_, _, _⟩, _⟩ := hS; go_simp; first | done | with_reducible rfl))); simp only [Act.put, List.setIfInBounds_toArray, List.set_cons_zero, List.set_cons_succ])
  refine AtC.back ?_
  refine AtN.one 4 (o := ⟨_, _, _, _, _, _⟩) (fun v => ∃ b, v = .bool b ∧ (b = true → ∃ cols, RowsOk l cols)) (True2) (by simp) (by kernel_rfl) rfl (True2.pers) (StabN.call 5 #[.slice A l.length ca] _ _ (by rfl) (by intro w'; go_simp; done) (fun w' hS => (HR.out w' hS.1.2.2.2).mono (fun e w2 ⟨b, he, hg, hb⟩ => ⟨.bool b, he, ⟨⟨b, rfl, hg⟩, trivial⟩, hb⟩))) ?_
  rintro _ ⟨b, rfl, hg⟩
  simp only [Act.put, List.setIfInBounds_toArray, List.set_cons_zero, List.set_cons_succ]
  rcases b with _ | _
  · skip
    refine AtN.go 5 ?_
    iterate 27 (refine AtC.take (o := ⟨_, _, _, _, _, _⟩) (v := ?_) (by kernel_rfl) rfl (by simp) (by kernel_rfl) (by kernel_rfl) ?_ ?_; rotate_left; (focus (first | (refine StabN.skip ?_; rfl) | (refine StabN.val (by rfl) ?_; intro w' hS; obtain ⟨⟨⟨_, _, _⟩, _⟩, _⟩ := hS; go_simp; first | done | with_reducible rfl))); simp only [Act.put, List.setIfInBounds_toArray, List.set_cons_zero, List.set_cons_succ])
    refine AtC.back ?_
    refine AtN.done (by kernel_rfl) (fun w5 hS => ?_)
    have HS := Lib.hid (HB0.out.trans (hS.1.1.2.2.1.mono HB0.out.size))
    clear hS
    go_wp2_with (go_at_call 6; (with_reducible refine (awake29 _).mono ?_); rintro e w6 ⟨rfl, hb6⟩)
    go_ret
    exact ⟨rfl, below_tail HS.out hb6⟩
  obtain ⟨cols, hok⟩ := hg rfl
  clear hg HR HG HMZ
  by_cases hy0 : y < 0
  · skip
    refine AtN.go 5 ?_
    iterate 27 (refine AtC.take (o := ⟨_, _, _, _, _, _⟩) (v := ?_) (by kernel_rfl) rfl (by simp) (by kernel_rfl) (by kernel_rfl) ?_ ?_; rotate_left; (focus (first | (refine StabN.skip ?_; rfl) | (refine StabN.val (by rfl) ?_; intro w' hS; obtain ⟨⟨⟨_, _, _⟩, _⟩, _⟩ := hS; go_simp; first | done | with_reducible rfl))); simp only [Act.put, List.setIfInBounds_toArray, List.set_cons_zero, List.set_cons_succ])
    refine AtC.back ?_
    refine AtN.done (by kernel_rfl) (fun w5 hS => ?_)
    have HS := Lib.hid (HB0.out.trans (hS.1.1.2.2.1.mono HB0.out.size))
    clear hS
    go_wp2_with (go_at_call 6; (with_reducible refine (awake29 _).mono ?_); rintro e w6 ⟨rfl, hb6⟩)
    go_ret
    exact ⟨rfl, below_tail HS.out hb6⟩
  by_cases hy1 : (l.length : Int) ≤ y
  · skip
    refine AtN.go 5 ?_
    iterate 27 (refine AtC.take (o := ⟨_, _, _, _, _, _⟩) (v := ?_) (by kernel_rfl) rfl (by simp) (by kernel_rfl) (by kernel_rfl) ?_ ?_; rotate_left; (focus (first | (refine StabN.skip ?_; rfl) | (refine StabN.val (by rfl) ?_; intro w' hS; obtain ⟨⟨⟨_, _, _⟩, _⟩, _⟩ := hS; go_simp; first | done | with_reducible rfl))); simp only [Act.put, List.setIfInBounds_toArray, List.set_cons_zero, List.set_cons_succ])
    refine AtC.back ?_
    refine AtN.done (by kernel_rfl) (fun w5 hS => ?_)
    have HS := Lib.hid (HB0.out.trans (hS.1.1.2.2.1.mono HB0.out.size))
    clear hS
    go_wp2_with (go_at_call 6; (with_reducible refine (awake29 _).mono ?_); rintro e w6 ⟨rfl, hb6⟩)
    go_ret
    exact ⟨rfl, below_tail HS.out hb6⟩
  by_cases hx0 : x < 0
  · skip
    refine AtN.go 5 ?_
    iterate 27 (refine AtC.take (o := ⟨_, _, _, _, _, _⟩) (v := ?_) (by kernel_rfl) rfl (by simp) (by kernel_rfl) (by kernel_rfl) ?_ ?_; rotate_left; (focus (first | (refine StabN.skip ?_; rfl) | (refine StabN.val (by rfl) ?_; intro w' hS; obtain ⟨⟨⟨_, _, _⟩, _⟩, _⟩ := hS; go_simp; first | done | with_reducible rfl))); simp only [Act.put, List.setIfInBounds_toArray, List.set_cons_zero, List.set_cons_succ])
    refine AtC.back ?_
    refine AtN.done (by kernel_rfl) (fun w5 hS => ?_)
    have HS := Lib.hid (HB0.out.trans (hS.1.1.2.2.1.mono HB0.out.size))
    clear hS
    go_wp2_with (go_at_call 6; (with_reducible refine (awake29 _).mono ?_); rintro e w6 ⟨rfl, hb6⟩)
    go_ret
    exact ⟨rfl, below_tail HS.out hb6⟩
  obtain ⟨k1, k2, k3, k4, k5⟩ := id hok
  obtain ⟨b, off, rfl, -⟩ := HL.out k1
  have hr0 := List.getElem?_eq_getElem k1
  have hrc := (k5 _ (List.getElem_mem k1)).1
  generalize l[0] = r at hr0 hrc
  have HOK := Lib.hid hok
  clear k5 hok
  refine AtN.go 5 ?_
  iterate 25 (refine AtC.take (o := ⟨_, _, _, _, _, _⟩) (v := ?_) (by kernel_rfl) rfl (by simp) (by kernel_rfl) (by kernel_rfl) ?_ ?_; rotate_left; (focus (first | (refine StabN.skip ?_; rfl) | (refine StabN.val (by rfl) ?_; intro w' hS; obtain ⟨⟨⟨_, _, _⟩, _⟩, _⟩ := hS; go_simp; first | done | with_reducible rfl))); simp only [Act.put, List.setIfInBounds_toArray, List.set_cons_zero, List.set_cons_succ])
  refine AtC.back ?_
  refine AtN.take 30 (o := ⟨_, _, _, _, _, _⟩) (v := .slice r.A cols r.cap) (by kernel_rfl) rfl (by simp) (by kernel_rfl) (by kernel_rfl) (StabN.val (by rfl) (fun w' hS => by have c0 := hS.1.1.row hr0; rw [hrc] at c0; go_simp)) ?_
  simp only [Act.put, List.setIfInBounds_toArray, List.set_cons_zero, List.set_cons_succ]
  refine AtN.take 31 (o := ⟨_, _, _, _, _, _⟩) (v := ?_) (by kernel_rfl) rfl (by simp) (by kernel_rfl) (by kernel_rfl) ?_ ?_; rotate_left
  · first | (refine StabN.skip ?_; rfl) | (refine StabN.val (by rfl) ?_; intro w' hS; obtain ⟨⟨⟨_, _, _⟩, _⟩, _⟩ := hS; go_simp; first | done | with_reducible rfl)
  simp only [Act.put, List.setIfInBounds_toArray, List.set_cons_zero, List.set_cons_succ]
  by_cases hx1 : (cols : Int) ≤ x
  · refine AtN.done (by kernel_rfl) (fun w5 hS => ?_)
    have HS := Lib.hid (HB0.out.trans (hS.1.1.2.2.1.mono HB0.out.size))
    clear hS
    go_wp2_with (go_at_call 6; (with_reducible refine (awake29 _).mono ?_); rintro e w6 ⟨rfl, hb6⟩)
    go_ret
    exact ⟨rfl, below_tail HS.out hb6⟩
  obtain ⟨Y, rfl⟩ := Int.eq_ofNat_of_zero_le (Int.not_lt.1 hy0)
  obtain ⟨X, rfl⟩ := Int.eq_ofNat_of_zero_le (Int.not_lt.1 hx0)
  refine AtN.done (by kernel_rfl) (fun w5 hS => ?_)
  have h0 := hS.1.1.1
  have h1 := hS.1.1.2.1
  have HB5 := Lib.hid hS.1.1.2.2.1
  have HL5 := Lib.hid hS.1.1.2.2.2
  clear hS
  go_upto_region 3 with fail
  have hYl : Y < l.length := by omega
  have hXc : X < cols := by omega
  have HPA : Hid (∀ w', RwsAt w' (some ⟨b, off, none⟩) l → Calls Tryd.prog 8 #[.slice (some ⟨b, off, none⟩) l.length ca] w' (PartedPost l w')) := Lib.hid (fun w' h => parted_any _ l ca w' h k1 hz4)
  have HBY : Hid (∀ A2 c2 w', RwsAt w' (some ⟨b, off, none⟩) l → RwsAt w' A2 (l.map unCont) → TabP w' → Calls Tryd.prog 7 #[.slice (some ⟨b, off, none⟩) l.length ca, .slice A2 l.length c2, .agg #[.int .i64 Y, .int .i64 X]] w' fun e w2 => e = .returned (.tuple #[.string (curS (digS (Y + 1)) (digS (X + 1))), .int .i64 0]) ∧ Below w'.heap.size w' w2) := Lib.hid (fun A2 c2 w' h1 h2 h3 => bytes_same _ A2 l ca c2 Y X cols w' h1 h2 HOK.out hYl hXc h3)
  have HT5 := Lib.hid (HT.out.below (HB0.out.trans (HB5.out.mono HB0.out.size)))
  refine wp_region_n 9 (fun w' => LawS w5 (some ⟨b, off, none⟩) l N Y X w') (by kernel_rfl) (by kernel_rfl) LawS.pers ?_ ?_
  · exact ⟨h0, h1, (Below.refl _ _).drew, HL5.out.below (Below.refl _ _).drew⟩
  refine AtN.go 0 ?_
  iterate 2 (refine AtC.take (o := ⟨_, _, _, _, _, _⟩) (v := ?_) (by kernel_rfl) rfl (by simp) (by kernel_rfl) (by kernel_rfl) ?_ ?_; rotate_left; (focus (first | exact StabN.skip (by rfl) | (refine StabN.val (by rfl) ?_; intro w' hS; obtain ⟨_, _, _⟩ := hS; go_simp; first | done | with_reducible rfl))); simp only [Act.put, List.setIfInBounds_toArray, List.set_cons_zero, List.set_cons_succ])
  refine AtC.back ?_
  refine AtN.take 3 (o := ⟨_, _, _, _, _, _⟩) (v := ?_) (by kernel_rfl) rfl (by simp) (by kernel_rfl) (by kernel_rfl) ?_ ?_; rotate_left
  · first | exact StabN.skip (by rfl) | (refine StabN.val (by rfl) ?_; intro w' hS; obtain ⟨_, _, _⟩ := hS; go_simp; first | done | with_reducible rfl)
  simp only [Act.put, List.setIfInBounds_toArray, List.set_cons_zero, List.set_cons_succ]
  refine AtN.one 2 (o := ⟨_, _, _, _, _, _⟩) (fun v => ∃ A2 c, v = .slice A2 l.length c) (PartV l) (by simp) (by kernel_rfl) rfl (PartV.pers l) (StabN.call 8 #[.slice (some ⟨b, off, none⟩) l.length ca] _ _ (by rfl) (by intro w'; go_simp; done) (fun w' hS => (HPA.out w' hS.2.2.2).mono (fun e w2 h => parted_val h))) ?_
  rintro _ ⟨A2, c2, rfl⟩
  simp only [Act.put, List.setIfInBounds_toArray, List.set_cons_zero, List.set_cons_succ]
  refine AtN.take 4 (o := ⟨_, _, _, _, _, _⟩) (v := .tuple #[.string (curS (digS (Y + 1)) (digS (X + 1))), .int .i64 0]) (by kernel_rfl) rfl (by simp) (by kernel_rfl) (by kernel_rfl) (StabN.call1 7 #[.slice (some ⟨b, off, none⟩) l.length ca, .slice A2 l.length c2, .agg #[.int .i64 Y, .int .i64 X]] (.tuple #[.string (curS (digS (Y + 1)) (digS (X + 1))), .int .i64 0]) (by rfl) (by intro w'; go_simp; done) (fun w' hS => HBY.out A2 c2 w' hS.1.2.2.2 hS.2.out (HT5.out.below hS.1.2.2.1))) ?_
  simp only [Act.put, List.setIfInBounds_toArray, List.set_cons_zero, List.set_cons_succ]
  refine AtN.go 5 ?_
  iterate 4 (refine AtC.take (o := ⟨_, _, _, _, _, _⟩) (v := ?_) (by kernel_rfl) rfl (by simp) (by kernel_rfl) (by kernel_rfl) ?_ ?_; rotate_left; (focus (first | exact StabN.skip (by rfl) | (refine StabN.val (by rfl) ?_; intro w' hS; obtain ⟨_, _⟩ := hS; go_simp; first | done | with_reducible rfl))); simp only [Act.put, List.setIfInBounds_toArray, List.set_cons_zero, List.set_cons_succ])
  refine AtC.back ?_
  refine AtN.done (by kernel_rfl) (fun w6 hS => ?_)
  have h0 := hS.1.1
  have h1 := hS.1.2.1
  have HB6 := Lib.hid (HB5.out.trans (hS.1.2.2.1.mono HB5.out.size))
  clear hS HL5 HPA HBY
  have HY : Hid (∀ w', Calls Tryd.prog 9 #[.int .i64 Y] w' fun e w2 => e = .returned (.int .i64 Y) ∧ w' = w2) := Lib.hid (fun w' => near_any Y (by omega) w')
  have HX : Hid (∀ w', Calls Tryd.prog 9 #[.int .i64 X] w' fun e w2 => e = .returned (.int .i64 X) ∧ w' = w2) := Lib.hid (fun w' => near_any X (by omega) w')
  go_upto_region 4 with fail
  refine wp_region_n 5 (fun w' => w'.cell? ⟨N, 0, none⟩ = some (.int .i64 Y) ∧ w'.cell? ⟨N, 1, none⟩ = some (.int .i64 X) ∧ Below w6.heap.size w6 w') (by kernel_rfl) (by kernel_rfl) (fun _ _ h hb => ⟨holda hb h.1, holda hb h.2.1, below_tail h.2.2 hb⟩) ?_ ?_
  · exact ⟨h0, h1, (Below.refl _ _).drew⟩
  refine AtN.go 0 ?_
  iterate 2 (refine AtC.take (o := ⟨_, _, _, _, _, _⟩) (v := ?_) (by kernel_rfl) rfl (by simp) (by kernel_rfl) (by kernel_rfl) ?_ ?_; rotate_left; (focus (first | exact StabN.skip (by rfl) | (refine StabN.val (by rfl) ?_; intro w' hS; obtain ⟨_, _, _⟩ := hS; go_simp; first | done | with_reducible rfl))); simp only [Act.put, List.setIfInBounds_toArray, List.set_cons_zero, List.set_cons_succ])
  refine AtC.back ?_
  refine AtN.go 3 ?_
  iterate 2 (refine AtC.take (o := ⟨_, _, _, _, _, _⟩) (v := ?_) (by kernel_rfl) rfl (by simp) (by kernel_rfl) (by kernel_rfl) ?_ ?_; rotate_left; (focus (first | exact StabN.skip (by rfl) | (refine StabN.val (by rfl) ?_; intro w' hS; obtain ⟨_, _, _⟩ := hS; go_simp; first | done | with_reducible rfl))); simp only [Act.put, List.setIfInBounds_toArray, List.set_cons_zero, List.set_cons_succ])
  refine AtC.back ?_
  refine AtN.take 2 (o := ⟨_, _, _, _, _, _⟩) (v := .int .i64 Y) (by kernel_rfl) rfl (by simp) (by kernel_rfl) (by kernel_rfl) (StabN.call1 9 #[.int .i64 Y] (.int .i64 Y) (by rfl) (by intro w'; go_simp; done) (fun w' hS => (HY.out w').mono (fun e w2 ⟨he, hb⟩ => ⟨he, hb ▸ Below.refl _ _⟩))) ?_
  simp only [Act.put, List.setIfInBounds_toArray, List.set_cons_zero, List.set_cons_succ]
  have HD1 : Hid (∀ w', Calls Tryd.prog 10 #[.int .i64 ((Y : Int) + 1)] w' fun e w2 => e = .returned (.string (digS (Y + 1))) ∧ Below w'.heap.size w' w2) := Lib.hid (fun w' => digits_any (Y + 1) (by omega) w')
  have HD2 : Hid (∀ w', Calls Tryd.prog 10 #[.int .i64 ((X : Int) + 1)] w' fun e w2 => e = .returned (.string (digS (X + 1))) ∧ Below w'.heap.size w' w2) := Lib.hid (fun w' => digits_any (X + 1) (by omega) w')
  obtain ⟨s1, s1'⟩ := digS_size (Y + 1) (by omega)
  obtain ⟨s2, s2'⟩ := digS_size (X + 1) (by omega)
  refine AtN.done (by kernel_rfl) (fun w7 hS => ?_)
  have HB7 := Lib.hid (HB6.out.trans (hS.2.2.mono HB6.out.size))
  clear hS h0 h1
  unfold curS
  generalize digS (Y + 1) = d1 at HD1 s1 s1' ⊢
  generalize digS (X + 1) = d2 at HD2 s2 s2' ⊢
  have z1 : IntKind.i64.wrap ((Y : Int) + 1) = (Y : Int) + 1 := IntWalk.i64_in _ (by omega)
  have z2 : IntKind.i64.wrap ((X : Int) + 1) = (X : Int) + 1 := IntWalk.i64_in _ (by omega)
  have m0 : ¬ 9223372036854775807 < 2 + d1.size := by omega
  have m1 : ¬ 9223372036854775807 < 2 + d1.size + 1 := by omega
  have m2 : ¬ 9223372036854775806 < 2 + d1.size := by omega
  have m3 : ¬ 9223372036854775807 < 2 + d1.size + 1 + d2.size := by omega
  have m4 : ¬ 9223372036854775807 < 2 + d1.size + 1 + d2.size + 1 := by omega
  have m5 : ¬ 9223372036854775806 < 2 + d1.size + 1 + d2.size := by omega
  go_upto_region 5 with (go_at_call 9; (with_reducible refine (HX.out _).mono ?_); rintro e w8 ⟨rfl, rfl⟩)
  go_wp2_with (first | (go_at_call 10; (with_reducible refine (HD1.out _).mono ?_); rintro e w8 ⟨rfl, hb8⟩; have HB8 := Lib.hid (HB7.out.trans (hb8.mono HB7.out.size)); clear hb8) | (go_at_call 10; (with_reducible refine (HD2.out _).mono ?_); rintro e w9 ⟨rfl, hb9⟩; have HB9 := Lib.hid (HB8.out.trans (hb9.mono HB8.out.size)); clear hb9) | (go_at_call 6; (with_reducible refine (awake29 _).mono ?_); rintro e w10 ⟨rfl, hb10⟩; have HB10 := Lib.hid (HB9.out.trans (hb10.mono HB9.out.size)); clear hb10))
  go_ret
  exact ⟨rfl, HB0.out.trans (HB10.out.mono HB0.out.size)⟩
end Go.Proofs.YtbllhchcccflkaaDoor

namespace Go.Proofs.YtbllhchcccflkaaDoor
open Go.RowKit Go.ChangeShapes Go.WideShapes Go.Deep
section
variable {H : Type} {enc : TypeId × Value → H} {P : Program} {w : World} {base : Nat} {spare : Nat → Bool} {held : Bool}
theorem bulk_part {d : DataW H} {l : List (DataW H)} (h : d ∈ l) : Rows.uptoBulk d ≤ Rows.uptoBulkAll l := by
  induction l with
  | nil => cases h
  | cons x r ih =>
    simp only [Rows.uptoBulkAll]
    rcases List.mem_cons.1 h with e | e
    · subst e; omega
    · have := ih e; omega
theorem bulk_slice {n : Nat} {D : Nat → DataW H} {rest : List (DataW H)} {i : Nat} (hi : i < n) : Rows.uptoBulk (D i) ≤ Rows.uptoBulk (.slice ((List.range n).map D) rest) := by
  have h1 := bulk_part (List.mem_map.2 ⟨i, List.mem_range.2 hi, rfl⟩ : D i ∈ (List.range n).map D)
  simp only [Rows.uptoBulk]
  omega
theorem open_elemsB {b0 : Nat} {r : Reach} {t e : TypeId} {v : Value} {d : DataW H} {p : List MemPlace} (ht : P.underlying t = some (.slice e)) (hpos : 0 < P.cellsOf e)
    (hv : Value.okWide P w r b0 t v) (h : DataW.Trod enc P w base spare held t v d p) :
    ∃ (A : Option Addr) (len cap : Nat), v = .slice A len cap ∧ len ≤ cap ∧ cap ≤ maxLen ∧
      (0 < len → ∃ b off, A = some ⟨b, off, none⟩ ∧ ∀ i, i < len → ∃ (cs : List Value) (y : DataW H × List MemPlace) (n : Nat), cs.length = P.cellsOf e ∧ (∀ j, j < P.cellsOf e → w.cell? ⟨b, off + i * P.cellsOf e + j, none⟩ = cs[j]?) ∧ DataW.trod enc P w base spare held n e cs = some y ∧ Rows.uptoBulk y.1 ≤ Rows.uptoBulk d) := by
  obtain ⟨a0, len, cap, rfl⟩ := okWide_slice ht hv
  obtain ⟨fuel, hf⟩ := h
  rcases open_slice ht hf with ⟨hcs, hx⟩ | ⟨a, len', cap', m, n, D, Pl, hcs, _, hl, hm, hmm, hx, hi⟩
  · simp only [Value.cells, List.cons.injEq, and_true, Value.slice.injEq] at hcs
    obtain ⟨rfl, rfl, rfl⟩ := hcs
    exact ⟨none, 0, 0, rfl, Nat.le_refl _, Nat.zero_le _, fun h => absurd h (by omega)⟩
  · simp only [Value.cells, List.cons.injEq, and_true, Value.slice.injEq] at hcs
    obtain ⟨rfl, rfl, rfl⟩ := hcs
    refine ⟨some a, len, cap, rfl, hl, hm, fun h0 => ?_⟩
    have hlm : len ≤ m := by rw [hmm]; split <;> omega
    have hspot : a.spot = none := by
      obtain ⟨cs', hc, _⟩ := hi 0 (by omega)
      obtain ⟨_, hcl, hat⟩ := World.cells?_some hc
      have h1 := hat 0 hpos
      have h2 : cs'[0]? = some (cs'[0]'(by omega)) := List.getElem?_eq_getElem (by omega)
      rw [h2] at h1
      have h3 := World.cell?_spot h1
      simpa [Addr.add] using h3
    obtain ⟨b, off, spot⟩ := a
    simp only at hspot
    subst hspot
    refine ⟨b, off, rfl, fun i hil => ?_⟩
    obtain ⟨cs', hc, htr⟩ := hi i (by omega)
    obtain ⟨_, hcl, hat⟩ := World.cells?_some hc
    refine ⟨cs', _, n, hcl, fun j hj => ?_, htr, ?_⟩
    · rw [← hat j hj, Go.Deep.add_add]
      congr 1
      unfold Addr.add
      by_cases hz : i * P.cellsOf e + j = 0
      · rw [if_pos hz]
        have h1 : i * P.cellsOf e = 0 := by omega
        have h2 : j = 0 := by omega
        simp
      · rw [if_neg hz]
        simp [Nat.add_assoc]
    · rw [(Prod.mk.inj hx).1]
      exact bulk_slice hil
set_option maxRecDepth 100000 in
theorem cell_of_trodB {n : Nat} {cs : List Value} {x : DataW H × List MemPlace} (h : DataW.trod enc Tryd.prog w base spare held n 44 cs = some x) : ∃ c : Cl, cs = clList c ∧ c.more.size ≤ Rows.uptoBulk x.1 := by
  obtain ⟨c, hc⟩ := cell_of_trod h
  refine ⟨c, hc, ?_⟩
  obtain ⟨xs, m, _, hx, hl, hlen, hf⟩ := DataW.trod_struct Tryd.underlying44 h
  subst hc
  match xs, hlen with
  | [y0, y1, y2, y3], _ =>
    have h1 := hf 1 _ rfl
    simp [co_string, clList] at h1
    obtain ⟨s, e1, e2, -⟩ := DataW.trod_string Tryd.underlying9 h1
    simp at e1
    subst e1
    subst e2
    subst hx
    simp only [List.map_cons, List.map_nil, Rows.uptoBulk, Rows.uptoBulkAll]
    have : c.more.data.toList.length = c.more.size := by rw [Array.length_toList]; rfl
    omega
set_option maxRecDepth 100000 in
theorem cells_of_trodB {n : Nat} {v : Value} {x : DataW H × List MemPlace} (h : DataW.trod enc Tryd.prog w base spare held n 26 [v] = some x) :
    ∃ (A : Option Addr) (l : List Cl) (cap : Nat), v = .slice A l.length cap ∧ l.length ≤ 9223372036854775807 ∧ ClsAt w A l ∧ ∀ c ∈ l, c.more.size ≤ Rows.uptoBulk x.1 := by
  rcases open_slice Tryd.underlying26 h with ⟨hcs, hx⟩ | ⟨a, len, cap, m, n', D, Pl, hcs, _, hl, hm, hmm, hx, hi⟩
  · simp only [List.cons.injEq, and_true] at hcs
    exact ⟨none, [], 0, hcs, Nat.zero_le _, fun h => absurd h (by simp), fun c hc => by cases hc⟩
  · simp only [List.cons.injEq, and_true] at hcs
    subst hcs
    rw [co_cell] at hi
    unfold maxLen at hm
    have hlm : len ≤ m := by rw [hmm]; split <;> omega
    rcases Nat.eq_zero_or_pos len with h0 | h0
    · subst h0
      exact ⟨some a, [], cap, rfl, Nat.zero_le _, fun h => absurd h (by simp), fun c hc => by cases hc⟩
    · have hspot : a.spot = none := by
        obtain ⟨cs', hc, _⟩ := hi 0 (by omega)
        obtain ⟨_, hcl, hat⟩ := World.cells?_some hc
        have h1 := hat 0 (by omega)
        have h2 : cs'[0]? = some (cs'[0]'(by omega)) := List.getElem?_eq_getElem (by omega)
        rw [h2] at h1
        have h3 := World.cell?_spot h1
        simpa [Addr.add] using h3
      obtain ⟨b, off, spot⟩ := a
      simp only at hspot
      subst hspot
      have hadd : ∀ i j : Nat, ((⟨b, off, none⟩ : Addr).add (i * 8)).add j = ⟨b, off + i * 8 + j, none⟩ := by
        intro i j
        rw [Go.Deep.add_add]
        unfold Addr.add
        by_cases hz : i * 8 + j = 0
        · rw [if_pos hz]; simp
        · rw [if_neg hz]; simp [Nat.add_assoc]
      obtain ⟨l, hll, hq⟩ := list_of_forall (Q := fun i (c : Cl) => ClAt w b (off + i * 8) c ∧ c.more.size ≤ Rows.uptoBulk x.1) len (fun i hi2 => by
        obtain ⟨cs', hc, htr⟩ := hi i (by omega)
        obtain ⟨_, hcl, hat⟩ := World.cells?_some hc
        obtain ⟨c, rfl, hcb⟩ := cell_of_trodB htr
        have hat' : ∀ j, j < 8 → w.cell? ⟨b, off + i * 8 + j, none⟩ = (clList c)[j]? := fun j hj => by rw [← hadd]; exact hat j hj
        refine ⟨c, ⟨hat' 0 (by omega), hat' 1 (by omega), hat' 2 (by omega), hat' 3 (by omega), hat' 4 (by omega), hat' 5 (by omega), hat' 6 (by omega), hat' 7 (by omega)⟩, ?_⟩
        rw [hx]
        exact Nat.le_trans hcb (bulk_slice hi2))
      subst hll
      refine ⟨_, l, cap, rfl, by omega, fun _ => ⟨b, off, rfl, fun i c hc => (hq i c hc).1⟩, fun c hc => ?_⟩
      obtain ⟨i, hi⟩ := List.mem_iff_getElem?.1 hc
      exact (hq i c hi).2
set_option maxRecDepth 100000 in
theorem row_of_trodB {n : Nat} {cs : List Value} {x : DataW H × List MemPlace} (h : DataW.trod enc Tryd.prog w base spare held n 28 cs = some x) :
    ∃ r : Rw, cs = [.slice r.A r.cs.length r.cap, .bool r.cont] ∧ ClsAt w r.A r.cs ∧ r.cs.length ≤ 9223372036854775807 ∧ ∀ c ∈ r.cs, c.more.size ≤ Rows.uptoBulk x.1 := by
  obtain ⟨xs, m, _, hx, hl, hlen, hf⟩ := DataW.trod_struct Tryd.underlying28 h
  rw [co_row] at hl
  match cs, hl with
  | [v0, v1], _ =>
    match xs, hlen with
    | [y0, y1], _ =>
      have h0 := hf 0 _ rfl
      have h1 := hf 1 _ rfl
      simp [co_cells, co_bool] at h0 h1
      obtain ⟨A, l, cap, rfl, hz, hc, hb⟩ := cells_of_trodB h0
      obtain ⟨b, e1, -, -⟩ := DataW.trod_bool Tryd.underlying4 h1
      simp at e1
      subst e1
      refine ⟨⟨A, l, cap, b⟩, rfl, hc, hz, fun c hcm => ?_⟩
      have := hb c hcm
      subst hx
      simp only [List.map_cons, List.map_nil, Rows.uptoBulk, Rows.uptoBulkAll]
      omega
set_option maxRecDepth 100000 in
theorem open_rwsB {b0 : Nat} {r : Reach} {v : Value} {d : DataW H} {p : List MemPlace} (hv : Value.okWide Tryd.prog w r b0 22 v) (h : DataW.Trod enc Tryd.prog w base spare held 22 v d p) :
    ∃ (A : Option Addr) (l : List Rw) (cap : Nat), v = .slice A l.length cap ∧ l.length ≤ 9223372036854775807 ∧ RwsAt w A l ∧ ∀ r ∈ l, ∀ c ∈ r.cs, c.more.size ≤ Rows.uptoBulk d := by
  obtain ⟨A, len, cap, rfl, hl, hm, hc⟩ := open_elemsB Tryd.underlying22 (by rw [co_row]; decide) hv h
  unfold maxLen at hm
  rw [co_row] at hc
  rcases Nat.eq_zero_or_pos len with h0 | h0
  · subst h0
    exact ⟨A, [], cap, rfl, Nat.zero_le _, fun h => absurd h (by simp), fun c hc => by cases hc⟩
  · obtain ⟨b, off, rfl, hc2⟩ := hc h0
    obtain ⟨l, hll, hq⟩ := list_of_forall (Q := fun i (c : Rw) => RwAt w b (off + i * 2) c ∧ ∀ x ∈ c.cs, x.more.size ≤ Rows.uptoBulk d) len (fun i hi => by
      obtain ⟨cs, y, n, hcl, hat, htr, hby⟩ := hc2 i hi
      obtain ⟨c, rfl, hcc, hz, hcb⟩ := row_of_trodB htr
      exact ⟨c, ⟨⟨hat 0 (by omega), hat 1 (by omega)⟩, hcc, hz⟩, fun x hx => Nat.le_trans (hcb x hx) hby⟩)
    subst hll
    refine ⟨_, l, cap, rfl, by omega, fun _ => ⟨b, off, rfl, fun i c hc => (hq i c hc).1⟩, fun r hr => ?_⟩
    obtain ⟨i, hi⟩ := List.mem_iff_getElem?.1 hr
    exact (hq i r hi).2
end
end Go.Proofs.YtbllhchcccflkaaDoor

namespace Go.Proofs.YtbllhchcccflkaaDoor
open Go.ChangeShapes Go.WideShapes Go.ChangeAt Go.RowKit Go.Joins
theorem own : ownKnob Tryd.prog.godebug = none := by kernel_rfl
theorem cellsPos : Tryd.prog.cellsOf 24 = 2 := by kernel_rfl
theorem laidOut : laidOutB Tryd.prog = true := by kernel_rfl
section
variable {H : Type} {enc : TypeId × Value → H} {P : Program}
/-- The row's last step where the call has made memory and changed none. -/
theorem post_of_below {f : Func} {s : ChangeSpec} {apart fresh handsOn again : Bool} {W W' : World} {args : Array Value} {v : Value} {ds gs : List (DataW H)} {before pa pv : List MemPlace}
    (hW : DataW.Whole enc P f.params.toList s.vars apart W args.toList ds gs before)
    (hres : ∀ (b : Nat) (sp : Nat → Bool) (hd : Bool), DataW.TrodAll enc P W' b sp hd f.resultTypes.toList (v.resultList f.resultTypes.size) (s.fn H (ds ++ gs)).results [])
    (hargs : ∀ sp : Nat → Bool, (∀ p ∈ before, sp p.block = true) → DataW.TrodAll enc P W' 0 sp true f.params.toList args.toList (s.fn H (ds ++ gs)).args pa)
    (hvars : ∀ sp : Nat → Bool, (∀ p ∈ before, sp p.block = true) → DataW.TrodVars enc P W' sp s.vars (s.fn H (ds ++ gs)).vars pv)
    (hps : before = pa ++ pv) (hb : Below W.heap.size W W')
    (hok : ∀ (j : Nat) (t : TypeId) (r : Value), f.resultTypes[j]? = some t → (v.resultList f.resultTypes.size)[j]? = some r → Value.okWide P W' .any 0 t r) :
    s.post enc P f apart fresh handsOn again W args v W' := by
  have hlt : ∀ p ∈ before, p.block < W.heap.size := fun p hp => hW.lt p hp
  have hold : ∀ p ∈ before, (fun b => decide (b < W.heap.size)) p.block = true := fun p hp => by simpa using hlt p hp
  refine ⟨ds, gs, before, [], pa, pv, hW, hres _ _ _, hargs _ hold, hvars _ hold, World.keptBut_mono (fun p hp => ⟨hp, ?_⟩) (hb.frame (· ∈ before)), fun _ => ?_⟩
  · rw [hps, List.mem_append] at hp
    exact Or.inr hp
  · obtain ⟨_, _, _, _, _, hz, hn⟩ := hW
    refine ⟨hok, _, _, ([] ++ pa) ++ pv, ⟨[] ++ pa, pv, trodAll_append (hargs _ (fun _ _ => rfl)) (hres _ _ _), hvars _ (fun _ _ => rfl), rfl, ?_, ?_⟩, ?_⟩
    · intro b off hp
      have hin : MemPlace.cell b off ∈ before := by rw [hps]; simpa using hp
      rw [hb.frozen (hlt _ hin)]
      exact hz b off hin
    · intro ha
      have := hn ha
      rw [hps] at this
      simpa using this
    · intro p hp _
      rw [hps]
      simpa using hp
/-- An argument reads behind the call as it did. -/
theorem stays {t : TypeId} (hl : laidOutB P = true) (hr : P.readableRec t = true) (hrow : t < P.types.size) {W W' : World} {v : Value} {d : DataW H} {ps before : List MemPlace} {sp : Nat → Bool}
    (h : DataW.Trod enc P W 0 (fun _ => true) true t v d ps) (hb : Below W.heap.size W W') (hlt : ∀ x ∈ before, x.block < W.heap.size) (hin : ∀ x ∈ ps, x ∈ before) (hsp : ∀ x ∈ before, sp x.block = true) :
    DataW.Trod enc P W' 0 sp true t v d ps :=
  WideElems.Trod_stays hl hr hrow h (fun x hx => hb.same (hlt x (hin x hx))) (fun x hx => hsp x (hin x hx))
end
end Go.Proofs.YtbllhchcccflkaaDoor

namespace Go.Proofs.YtbllhchcccflkaaDoor
open Go.ChangeShapes Go.WideShapes Go.ChangeAt Go.RowKit Go.Joins
theorem gP : Tryd.prog.globalNamed "internal/strconv.uint64pow10" = some 0 := by kernel_rfl
theorem tP : (Tryd.prog.globals[0]?).map (·.type) = some 119 := by kernel_rfl
theorem cP : Tryd.prog.cellsOf 119 = 20 := by kernel_rfl
theorem cU64 : Tryd.prog.cellsOf 105 = 1 := by kernel_rfl
theorem tabP_of {W : World} (h : laidMetH Tryd.prog Rows.deltaSameUptoRow.laid W) : TabP W := by
  rw [MakeChecks.laidMetH_plain _ _ _ (by kernel_rfl)] at h
  exact Lib.tabIs_of_head gP tP Tryd.underlying119 Tryd.underlying105 cU64 cP h.tail.tail
theorem door_met (os : Os) (args : Array Value) : laidMetH Tryd.prog Rows.deltaSameUptoRow.laid ((World.doorLaid Tryd.prog 14 os).forCall (fun _ _ => 0) ⟨#[], args, []⟩).memory :=
  laidMetH_of_parts3 (fuel := 8) (laidMet_of_run' 8 (by kernel_rfl) (by kernel_rfl)) (by kernel_rfl) (by kernel_rfl)
theorem reads_none (os : Os) {H : Type} (enc : TypeId × Value → H) : ∃ places, DataW.whole enc Tryd.prog ((World.doorLaid Tryd.prog 14 os).forCall (fun _ _ => 0) ⟨#[], #[.slice none 0 0, .agg #[.int .i64 0, .int .i64 0]], []⟩).memory Tryd.f3.params.toList Rows.deltaSameSpec.vars false #[Value.slice none 0 0, Value.agg #[.int .i64 0, .int .i64 0]].toList 8 = some ([.nil, .agg [.lit (.int .i64 0), .lit (.int .i64 0)]], [], places) :=
  ⟨[], by kernel_rfl⟩
set_option maxRecDepth 100000 in
theorem deltaSame_lifted (os : Os) (started : os.Started) (H : Type) (enc : TypeId × Value → H) (F : Stop.Interp) :
    ReturnsInHanded {} Tryd.checked os 3 .any ((Rows.OpenSpec.upto Rows.deltaSameSpec).preRow enc Tryd.prog Tryd.f3 Rows.deltaSameUptoRow.domain false Rows.deltaSameUptoRow.laid) (((Rows.OpenSpec.upto Rows.deltaSameSpec).at F).post enc Tryd.prog Tryd.f3 false true false false) := by
  obtain ⟨places, hx⟩ := reads_none os enc
  refine returnsInHanded_of_row (C := Tryd.checked) (s := Rows.OpenSpec.upto Rows.deltaSameSpec) own started (by kernel_rfl) Tryd.func3
    (witness_row_at (enc := enc) (C := Tryd.checked) false (World.doorLaid Tryd.prog 14 os) #[.slice none 0 0, .agg #[.int .i64 0, .int .i64 0]] rfl (by kernel_rfl) (by kernel_rfl) (by kernel_rfl)
      (OpenSpec.preRow_of_cond 8 hx (by kernel_rfl) (fun k hk => by cases hk; kernel_rfl) (by kernel_rfl) (door_met os _))) ?_
  intro W base args ds gs before hval0 hW _ hcond _ hL _ _
  have hval : ∀ (j : Nat) t v, Tryd.f3.params[j]? = some t → args[j]? = some v → Value.okWide Tryd.prog W .any base t v := hval0
  have hk := hcond _ rfl
  have hTab := tabP_of hL
  have hW' := hW
  obtain ⟨p, q, hA0, hV, rfl, hfz, hnd⟩ := hW
  have hA : DataW.TrodAll enc Tryd.prog W 0 (fun _ => true) true Tryd.f3.params.toList args.toList ds p := hA0
  rw [Tryd.params3] at hA hval
  obtain ⟨v0, v1, d0, d1, p0, p1, rfl, rfl, rfl, h0, h1⟩ := trodAll_two hA
  obtain ⟨rfl, rfl⟩ := trodVars_none hV
  have h0k := h0
  obtain ⟨A, l, ca, rfl, hz, hl, hb⟩ := open_rwsB (hval 0 22 v0 rfl rfl) h0
  have h1k := h1
  obtain ⟨c1_0, c1_1, y1_0, y1_1, m1, rfl, -, -, hy1_0, hy1_1⟩ := open_agg2 Tryd.underlying24 (by kernel_rfl) cellsPos (hval 1 24 v1 rfl rfl) h1
  obtain ⟨y, e1_0, -, hw1_0⟩ := DataW.trod_int Tryd.underlying3 hy1_0
  simp only [List.cons.injEq, and_true] at e1_0
  subst e1_0
  obtain ⟨x, e1_1, -, hw1_1⟩ := DataW.trod_int Tryd.underlying3 hy1_1
  simp only [List.cons.injEq, and_true] at e1_1
  subst e1_1
  have hbulk : Rows.uptoBulk d0 ≤ 1048576 := by
    have h : Rows.uptoBulkAll ([d0, d1] ++ []) ≤ 1048576 := of_decide_eq_true hk
    simp only [List.append_nil, Rows.uptoBulkAll] at h
    omega
  clear hA0 hval0 hA hval h0 h1 hy1_0 hy1_1 hk hcond
  refine (DeltaSame_walk A l ca y x W hl hz (fun r hr c hc => Nat.le_trans (hb r hr c hc) hbulk) hTab).mono fun e W' ⟨he, hb2⟩ => ?_
  subst he
  exact ⟨_, rfl, post_of_below hW' (fun _ _ _ => trodAll_mk1 (shut_bool Tryd.underlying4 true))
    (fun sp hsp => trodAll_mk2 (stays laidOut (by kernel_rfl) (of_decide_eq_true (by kernel_rfl)) h0k hb2 (fun x hx => hW'.lt x hx) (by simp; try (intros; simp [*])) hsp) (stays laidOut (by kernel_rfl) (of_decide_eq_true (by kernel_rfl)) h1k hb2 (fun x hx => hW'.lt x hx) (by simp; try (intros; simp [*])) hsp))
    (fun _ _ => rfl) (by simp) hb2 (ok_one (by kernel_rfl) rfl (okWide_bool_mk Tryd.underlying4 true))⟩
theorem deltaSame_holds : Rows.DeltaSameUptoSaid :=
  OpenClaim.holds_of_cond 3 Tryd.f3 rfl rfl rfl rfl rfl rfl rfl ⟨rfl, rfl, rfl, rfl, rfl⟩ rfl rfl rfl rfl rfl (by kernel_rfl) Tryd.func3 (by kernel_rfl)
    (of_decide_eq_true (by kernel_rfl)) (by unfold Func.isWrapper; first | (rw [if_pos (by decide +kernel)]; kernel_rfl) | (rw [if_neg (by decide +kernel)]; exact ⟨rfl, rfl⟩))
    (fun os started H enc _ F => by rw [OpenClaim.pre_eq_preRow]; exact deltaSame_lifted os started H enc F)
theorem deltaSame_card : Rows.DeltaSameUptoCardSaid :=
  Claim7.holds_tied_plain_at .later [] _ _ _ _ deltaSame_holds (fun _ h => by cases h) (by kernel_rfl) (fun _ h => by cases h) deltaSameUpto_row_tie rfl ⟨rfl, rfl⟩ (by kernel_rfl) rfl
    (fun f fn hf hfn => by
      obtain rfl : f = 3 := Option.some.inj ((show Tryd.prog.funcNamed "marquee/marqueelaw29.DeltaSame" = some 3 by kernel_rfl).symm.trans hf) |>.symm
      obtain rfl : fn = Tryd.f3 := (Option.some.inj (Tryd.func3.symm.trans hfn)).symm
      exact ⟨by kernel_rfl, fun j t ht => by
        rw [Tryd.params3] at ht
        have hm : t ∈ [22, 24] := by simpa using Array.mem_of_getElem? ht
        have hall : ([22, 24].all fun u => !Tryd.prog.wantsStandIn u) = true := by kernel_rfl
        exact (show Tryd.prog.wantsStandIn t = false by simpa using List.all_eq_true.1 hall t hm)⟩)
    (by kernel_rfl)
#print axioms deltaSame_card
end Go.Proofs.YtbllhchcccflkaaDoor
