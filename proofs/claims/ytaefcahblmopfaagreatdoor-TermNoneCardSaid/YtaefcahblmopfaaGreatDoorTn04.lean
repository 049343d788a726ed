/- Joined by a tool of this claim out of smaller texts. Conditions: as stated. -/
import Derived.Test.YtaefcahblmopfaaGreatDoorTn03
import Derived.OwnWalk
set_option linter.unusedVariables false
set_option linter.unusedSimpArgs false
namespace Go.Proofs.YtaefcahblmopfaaGreatDoor
open Go.RowKit
end Go.Proofs.YtaefcahblmopfaaGreatDoor
namespace Go.Proofs.YtaefcahblmopfaaGreatDoor
open Go.RowKit
theorem made_flat (z : Cl) (n : Nat) : (madeCells (encCl z).toArray (n * 8)).toList = flat encCl (List.replicate n z) := by
  refine List.ext_getElem? fun m => ?_
  by_cases hm : m < n * 8
  · have h1 : (List.replicate n z)[m / 8]? = some z := by rw [List.getElem?_replicate]; rw [if_pos (by omega)]
    have h2 := flat_at2 encCl_len (List.replicate n z) (m / 8) z (m % 8) h1 (Nat.mod_lt _ (by decide))
    rw [show m / 8 * 8 + m % 8 = m by omega] at h2
    rw [h2]
    have hj : m % 8 < (encCl z).length := by rw [encCl_len]; exact Nat.mod_lt _ (by decide)
    unfold madeCells
    simp only [Array.toList_map, Array.toList_range, List.getElem?_map, List.getElem?_range hm, Option.map_some]
    rw [List.getElem?_eq_getElem hj]
    congr 1
    have hs : (encCl z).toArray.size = 8 := by rw [List.size_toArray, encCl_len]
    rw [hs, getElem!_pos _ _ (by rw [hs]; exact Nat.mod_lt _ (by decide))]
    simp
  · rw [List.getElem?_eq_none (by simp [size_madeCells]; omega), List.getElem?_eq_none (by rw [flat_len encCl_len, List.length_replicate]; omega)]
end Go.Proofs.YtaefcahblmopfaaGreatDoor
namespace Go.Proofs.YtaefcahblmopfaaGreatDoor
open Go.RowKit
theorem replicate_set {n i : Nat} {c d : Cl} (h : i < n) : (List.replicate i c ++ List.replicate (n - i) d).set i c = List.replicate (i + 1) c ++ List.replicate (n - (i + 1)) d := by
  rw [List.set_append_right _ _ (by simp), List.length_replicate, Nat.sub_self, show n - i = (n - (i + 1)) + 1 by omega, List.replicate_succ, List.set_cons_zero, List.replicate_succ', List.append_assoc]; rfl
def zeroC : Cl := emptyA ⟨0, 0, 0, 0, 0⟩
set_option maxRecDepth 100000 in
set_option maxHeartbeats 3200000 in
theorem cBlanks_any (n : Nat) (b : Col) (w : World) (hn0 : 0 < n) (hn : n ≤ 1000) :
    Calls Tryz.prog 267 #[.int .i64 n, .agg #[.int .i64 b.k, .int .i64 b.n]] w (WithPost (List.replicate n (blankC b)) w) := by
  obtain ⟨j0, hj, gz0, gz1, gz2⟩ := info_parts info_cellz
  have hmin : min (n : Int) 1000 = (n : Int) := by omega
  have hmax : max 0 (n : Int) = (n : Int) := by omega
  have hpos : (0 : Int) < (n : Int) := by omega
  have hnle : ¬ (n : Int) ≤ 0 := by omega
  have hn1k : ¬ (1000 : Int) < (n : Int) := by omega
  have HBL := Lib.hid (fun w => cblank_any b w)
  have HB0 := Lib.hid (below_allocs (Below.refl w.heap.size w) (.cells #[.int .i64 b.k, .int .i64 b.n] 61))
  have HK : Hid (HoldAt (w.alloc (.cells #[.int .i64 b.k, .int .i64 b.n] 61)) w.heap.size 0 (.int .i64 b.k) ∧ HoldAt (w.alloc (.cells #[.int .i64 b.k, .int .i64 b.n] 61)) w.heap.size 1 (.int .i64 b.n)) := Lib.hid ⟨at_ (hp_new rfl) 0 _ rfl, at_ (hp_new rfl) 1 _ rfl⟩
  go_enter Tryz.func267, Tryz.ntmps267
  go_wp2_with (refine wpList_make_full _ rfl (.tmp 9) (.tmp 9) _ rfl w.heap.size 65 j0 _ 8 Tryz.underlying50 hj gz0 gz1 .i64 .i64 _ _ n rfl rfl ?_ ?_ ?_ ?_ ?_ ?_)
  all_goals first
    | rfl
    | omega
    | (simp only [maxLen]; omega)
    | (rw [gz2]; omega)
    | (simp; done)
    | skip
  intro w1 hown hg
  have HO := Lib.hid hown
  have HG := Lib.hid hg
  clear hown hg
  go_wp2_with fail
  have hC : CrO w1 w.heap.size (w.heap.size + 1) n (List.replicate n zeroC) := by
    have h := HO.out
    have e := made_flat zeroC n
    unfold CrO
    rw [List.length_replicate, ← e]
    exact h
  have HC := Lib.hid hC
  have HB1 := Lib.hid (show Below w.heap.size w w1 from HB0.out.grown HG.out (by simp) (fun k hk => by cases hk))
  have HK1 := Lib.hid (show HoldAt w1 w.heap.size 0 (.int .i64 b.k) ∧ HoldAt w1 w.heap.size 1 (.int .i64 b.n) from ⟨⟨HG.out.cell HK.out.1.1 (fun e => by cases e), keep_none_f HG.out HK.out.1.1 HK.out.1.2⟩, ⟨HG.out.cell HK.out.2.1 (fun e => by cases e), keep_none_f HG.out HK.out.2.1 HK.out.2.2⟩⟩)
  have hsz := hC.lt.2
  clear hC HO HG
  go_loopw [13] (fun s13 wr => ∃ i : Nat, s13 = .int .i64 i ∧ i ≤ n ∧ CrO wr w.heap.size (w.heap.size + 1) n (List.replicate i (blankC b) ++ List.replicate (n - i) zeroC) ∧ Mod [w.heap.size + 1] w1 wr) (fun s13 _ => n - (intOf s13).toNat)
  case atStart => exact ⟨0, rfl, Nat.zero_le _, by simpa using HC.out, Mod.refl _ _⟩
  case round =>
    obtain ⟨i, rfl, hi, hO, hM⟩ := hrel
    have HO := Lib.hid hO
    have HM := Lib.hid hM
    have k0 := (hM.hold (by simp) HK1.out.1).1
    have k1 := (hM.hold (by simp) HK1.out.2).1
    clear hO hM
    by_cases hlt : i < n
    rotate_left
    · obtain rfl : i = n := by omega
      go_wp2
      go_ret
      refine ⟨w.heap.size + 1, i, by simp, ?_, HB1.out.trans (HM.out.below (fun x hx => by rw [List.mem_singleton.1 hx]; omega) HB1.out.size)⟩
      simpa using HO.out
    · have hltI : (i : Int) < (n : Int) := by omega
      go_wp2_with (first
        | (go_at_call 335; refine (HBL.out _).mono ?_; rintro e w3 ⟨rfl, hb⟩; have HB3 := Lib.hid hb; clear hb; have HTH := Lib.hid ((HO.out.below HB3.out).there (i := i) (by simp; omega)))
        | (refine wpList_store_mid (op := ⟨none, .store 65 (.tmp 20) (.tmp 19), _, _, _, _⟩) rfl 65 (.tmp 20) (.tmp 19) rfl (w.heap.size + 1) (i * 8) (encCl (blankC b)).toArray rfl rfl HTH.out info_cell (cl_one (blankC b)) ?_))
      obtain ⟨q1, q2⟩ := (HO.out.below HB3.out).set (i := i) (by simp; omega) (blankC b)
      rw [replicate_set hlt] at q1
      have Q1 := Lib.hid q1
      have Q2 := Lib.hid q2
      clear q1 q2
      go_roundw
      case rel => exact ⟨i + 1, by go_num, by omega, Q1.out, (HM.out.then_below HB3.out).trans Q2.out (fun k hk => .inl hk)⟩
      case measure => simp [intOf]; omega
end Go.Proofs.YtaefcahblmopfaaGreatDoor
namespace Go.Proofs.YtaefcahblmopfaaGreatDoor
open Go.RowKit
def putO (o : List Cl) (x r : Int) (a : Atr) : List Cl :=
  if widOf r = 1 ∧ 0 ≤ x ∧ x < o.length then o.set x.toNat (mkCl r ByteArray.empty 0 a)
  else if widOf r = 2 ∧ 0 ≤ x ∧ x + 1 < o.length then (o.set x.toNat (mkCl r ByteArray.empty 1 a)).set (x.toNat + 1) (mkCl r ByteArray.empty 2 a)
  else o
theorem putO_len (o : List Cl) (x r : Int) (a : Atr) : (putO o x r a).length = o.length := by
  unfold putO
  split
  · simp
  split
  · simp
  · rfl
theorem putL_O (l : List Cl) (x r : Int) (a : Atr) : mendL (putO (mendL l) x r a) = putL l x r a := by
  unfold putO putL
  simp only []
  split
  · rfl
  split
  · rfl
  · exact mendL_idem l
theorem wid_range (r : Int) : widOf r = -1 ∨ widOf r = 0 ∨ widOf r = 2 ∨ widOf r = 1 := by
  unfold widOf
  split
  · exact .inl rfl
  split
  · exact .inr (.inl rfl)
  split
  · exact .inr (.inr (.inl rfl))
  · exact .inr (.inr (.inr rfl))
def encAt (a : Atr) : List Value := [.int .i64 a.fk, .int .i64 a.fn, .int .i64 a.bk, .int .i64 a.bn, .int .i64 a.fl]
theorem CrO.mend_post {w : World} {base g cap : Nat} {l : List Cl} (h : CrO w base g cap l) : MendPost base g cap l w (.returned (.tuple #[])) w := ⟨rfl, h, Mod.refl _ _⟩
set_option maxRecDepth 100000 in
set_option maxHeartbeats 3200000 in
theorem close1_any (base g cap : Nat) (o : List Cl) (w : World) (h : CrO w base g cap o) (h0 : 0 < o.length) (hz : o.length ≤ 10000) :
    Calls Tryz.prog 402 #[.slice (some ⟨g, 0, none⟩) o.length cap] w (MendPost base g cap (o.set (o.length - 1) padC) w) := by
  obtain ⟨n, hn⟩ : ∃ n, o.length = n + 1 := ⟨o.length - 1, by omega⟩
  have hpos : (0 : Int) < (o.length : Int) := by omega
  have hw : IntKind.i64.wrap ((o.length : Int) - 1) = (n : Int) := by rw [IntWalk.i64_in _ (by omega)]; omega
  have HTH := Lib.hid (h.there (i := n) (by omega))
  have HS := Lib.hid (h.set (i := n) (by omega) padC)
  have hnl : (n : Int) < (o.length : Int) := by omega
  have HN := Lib.hid hn
  clear h hn
  go_enter Tryz.func402, Tryz.ntmps402
  go_wp2_with (refine wpList_store_mid (op := ⟨none, .store 65 (.tmp 10) (.tmp 9), _, _, _, _⟩) rfl 65 (.tmp 10) (.tmp 9) rfl g (n * 8) (encCl padC).toArray rfl rfl HTH.out info_cell (cl_one padC) ?_)
  go_end0
  refine ⟨rfl, ?_, HS.out.2⟩
  have := HS.out.1
  rw [show o.length - 1 = n by have := HN.out; omega]
  exact this
end Go.Proofs.YtaefcahblmopfaaGreatDoor
namespace Go.Proofs.YtaefcahblmopfaaGreatDoor
open Go.RowKit
set_option maxRecDepth 100000 in
set_option maxHeartbeats 3200000 in
theorem put1_any (base g cap : Nat) (o : List Cl) (br bx ba : Nat) (x r : Int) (a : Atr) (w : World) (h : CrO w base g cap o) (hz : o.length ≤ 10000) (hr : w.cell? ⟨br, 0, none⟩ = some (.int .i32 r)) (hx : w.cell? ⟨bx, 0, none⟩ = some (.int .i64 x)) (ha : w.rangeAt ba 0 (encAt a))
    (hb1 : br < base) (hb2 : bx < base) (hb3 : ba < base) :
    Calls Tryz.prog 352 #[.slice (some ⟨g, 0, none⟩) o.length cap, .pointer (some ⟨br, 0, none⟩), .pointer (some ⟨bx, 0, none⟩), .pointer (some ⟨ba, 0, none⟩)] w (MendPost base g cap (putO o x r a) w) := by
  have HW := Lib.hid (fun w => widOf_any r w)
  have H := Lib.hid h
  have hgb := h.lt
  have HX := Lib.hid hx
  have HA := Lib.hid ha
  have HR := Lib.hid hr
  clear h ha
  have HV := Lib.hid (show putO o x r a = if widOf r = 1 ∧ 0 ≤ x ∧ x < o.length then o.set x.toNat (mkCl r ByteArray.empty 0 a) else if widOf r = 2 ∧ 0 ≤ x ∧ x + 1 < o.length then (o.set x.toNat (mkCl r ByteArray.empty 1 a)).set (x.toNat + 1) (mkCl r ByteArray.empty 2 a) else o from rfl)
  generalize putO o x r a = RES at HV
  have HWR := Lib.hid (wid_range r)
  generalize widOf r = wd at HW HV HWR
  by_cases hx0 : x < 0
  · go_enter Tryz.func352, Tryz.ntmps352
    go_wp2_with (go_at_call 162; refine (HW.out _).mono ?_; rintro e w1 ⟨rfl, hb⟩; have HB := Lib.hid hb; have hx' := holda hb HX.out; clear hx hr hb)
    go_end0
    rw [HV.out, if_neg (by omega), if_neg (by omega)]
    exact ⟨rfl, H.out.below HB.out, Mod.of_below HB.out⟩
  by_cases hw1 : wd < 1
  · go_enter Tryz.func352, Tryz.ntmps352
    go_wp2_with (go_at_call 162; refine (HW.out _).mono ?_; rintro e w1 ⟨rfl, hb⟩; have HB := Lib.hid hb; have hx' := holda hb HX.out; clear hx hr hb)
    go_end0
    rw [HV.out, if_neg (by omega), if_neg (by omega)]
    exact ⟨rfl, H.out.below HB.out, Mod.of_below HB.out⟩
  have hwI : IntKind.i64.wrap ((o.length : Int) - wd) = (o.length : Int) - wd := IntWalk.i64_in _ (by have := HWR.out; omega)
  by_cases hbig : (o.length : Int) - wd < x
  · go_enter Tryz.func352, Tryz.ntmps352
    go_wp2_with (go_at_call 162; refine (HW.out _).mono ?_; rintro e w1 ⟨rfl, hb⟩; have HB := Lib.hid hb; have hx' := holda hb HX.out; clear hx hr hb)
    go_end0
    rw [HV.out, if_neg (by omega), if_neg (by omega)]
    exact ⟨rfl, H.out.below HB.out, Mod.of_below HB.out⟩
  obtain ⟨k, hk⟩ : ∃ k : Nat, x = (k : Int) := ⟨x.toNat, by omega⟩
  subst hk
  obtain ⟨fk, fn, bk, bn, fl⟩ := a
  clear hwI
  have hxl : (k : Int) + wd ≤ (o.length : Int) := by omega
  rcases HWR.out with hw | hw | hw | hw
  · omega
  · omega
  · subst hw
    obtain ⟨j, hj⟩ : ∃ j : Nat, j = k + 1 := ⟨_, rfl⟩
    have hkk : (k : Int) + 1 = (j : Int) := by omega
    have hwj : IntKind.i64.wrap (j : Int) = (j : Int) := IntWalk.i64_in _ (by omega)
    have hkl : (j : Int) < (o.length : Int) := by omega
    have hkl2 : (k : Int) < (o.length : Int) := by omega
    have hkl3 : j < o.length := by omega
    have hkl4 : k < o.length := by omega
    have HJ := Lib.hid hj
    clear hj
    have HK := Lib.hid (show 0 ≤ (k : Int) ∧ (k : Int) + 1 < (o.length : Int) from by omega)
    have hw2 : IntKind.i64.wrap ((o.length : Int) - 2) = (o.length : Int) - 2 := IntWalk.i64_in _ (by omega)
    have htn : ((k : Int)).toNat = k := by omega
    have HTN := Lib.hid htn
    clear htn
    clear HWR
    go_enter Tryz.func352, Tryz.ntmps352
    go_upto_region 4 with (first
      | (go_at_call 162; refine (HW.out _).mono ?_; rintro e w1 ⟨rfl, hb⟩; have HB := Lib.hid hb; have hx' := holda hb HX.out; have hr' := holda hb HR.out; have HA1 := range_below HA.out hb
         have a0 := HA1 0 _ rfl; have a1 := HA1 1 _ rfl; have a2 := HA1 2 _ rfl; have a3 := HA1 3 _ rfl; have a4 := HA1 4 _ rfl; have l1 := lt_of_cell hx'; have l2 := lt_of_cell hr'; have l3 := lt_of_cell a0; clear HA1 hx hr hb)
      | fail)
    generalize hW2 : World.alloc _ _ = W2
    have hb2 : Below w1.heap.size w1 W2 := by rw [← hW2]; exact below_allocs (Below.refl _ _) _
    have hc2 : W2.heap[w1.heap.size]? = some (.cells (encCl (mkCl r ByteArray.empty 0 ⟨fk, fn, bk, bn, fl⟩)).toArray 65 (0, 0)) := by rw [← hW2]; exact hp_new rfl
    have x2 := holda hb2 hx'
    obtain ⟨y2, y2f⟩ := whole_at hc2 2 _ rfl
    have HB2 := Lib.hid (below_tail HB.out (below_set hb2 (Nat.le_refl _) (o := 2) (.int .i64 2)))
    have HC2 := Lib.hid (whole_set hc2 2 (.int .i64 2) (cs' := encCl (mkCl r ByteArray.empty 2 ⟨fk, fn, bk, bn, fl⟩)) rfl)
    have X2 := Lib.hid (show (W2.setCell ⟨w1.heap.size, 2, none⟩ (.int .i64 2)).cell? ⟨bx, 0, none⟩ = some (.int .i64 k) from (World.cell?_setCell_other _ _ _ _ (fun e => by injection e with e1 e2; omega)).trans x2)
    clear hW2 hb2 hc2 hx' hr' a0 a1 a2 a3 a4 l2 l3 l1
    go_upto_region 5 with fail
    generalize World.setCell _ _ _ = W3 at HB2 HC2 X2 ⊢
    have x3 := X2.out
    have HTH := Lib.hid ((H.out.below HB2.out).there (i := j) (by omega))
    have HS := Lib.hid ((H.out.below HB2.out).set (i := j) (by omega) (mkCl r ByteArray.empty 2 ⟨fk, fn, bk, bn, fl⟩))
    clear X2 x2 y2 y2f
    refine wp_region_lit ?_
    refine wpList_valG (.slice (some ⟨g, 0, none⟩) o.length cap) (by rfl) (by rfl) ?_
    simp only [Act.put, List.setIfInBounds_toArray, List.set_cons_zero, List.set_cons_succ]
    refine wpList_valG (.int .i64 (k : Int)) (by rfl) (by go_simp) ?_
    simp only [Act.put, List.setIfInBounds_toArray, List.set_cons_zero, List.set_cons_succ]
    refine wpList_valG (.int .i64 (j : Int)) (by rfl) (by go_simp) ?_
    simp only [Act.put, List.setIfInBounds_toArray, List.set_cons_zero, List.set_cons_succ]
    refine load_mid_g (by rfl) 65 (.tmp 6) rfl (w1.heap.size) (0) rfl (encCl (mkCl r ByteArray.empty 2 ⟨fk, fn, bk, bn, fl⟩)) _ (range_new HC2.out) Tryz.underlying65 rfl info_cell ?_
    simp only [Act.put, List.setIfInBounds_toArray, List.set_cons_zero, List.set_cons_succ]
    refine wpList_valG (.pointer (some ⟨g, j * 8, none⟩)) (by rfl) (by go_simp) ?_
    simp only [Act.put, List.setIfInBounds_toArray, List.set_cons_zero, List.set_cons_succ]
    refine wpList_store_mid rfl 65 (.tmp 33) (.tmp 32) rfl (g) (j * 8) ((encCl (mkCl r ByteArray.empty 2 ⟨fk, fn, bk, bn, fl⟩)).toArray) rfl rfl (HTH.out) info_cell (cl_one _) ?_
    simp only [Act.put]
    have hne : g ≠ w1.heap.size := by have := HB.out.size; omega
    have HC3 : Hid ((W3.setCells g (j * 8) (encCl (mkCl r ByteArray.empty 2 ⟨fk, fn, bk, bn, fl⟩))).heap[w1.heap.size]? = some (.cells (encCl (mkCl r ByteArray.empty 2 ⟨fk, fn, bk, bn, fl⟩)).toArray 65 (0, 0))) := Lib.hid ((HS.out.2.block _ (Array.getElem?_eq_some_iff.1 HC2.out).1 (by simp; omega)).trans HC2.out)
    have x4 : (W3.setCells g (j * 8) (encCl (mkCl r ByteArray.empty 2 ⟨fk, fn, bk, bn, fl⟩))).cell? ⟨bx, 0, none⟩ = some (.int .i64 k) := HS.out.2.cell (by simp; omega) x3
    change wpList _ _ _ _ _ (W3.setCells g (j * 8) (encCl (mkCl r ByteArray.empty 2 ⟨fk, fn, bk, bn, fl⟩)))
    generalize W3.setCells g (j * 8) (encCl (mkCl r ByteArray.empty 2 ⟨fk, fn, bk, bn, fl⟩)) = W4 at HS HC3 x4 ⊢
    obtain ⟨y4, y4f⟩ := whole_at HC3.out 2 _ rfl
    clear x3
    go_upto_region 7 with fail
    have l1 := lt_of_cell x4
    have HC5 := Lib.hid (whole_set HC3.out 2 (.int .i64 1) (cs' := encCl (mkCl r ByteArray.empty 1 ⟨fk, fn, bk, bn, fl⟩)) rfl)
    have HM5 : Hid (Mod [g] w (W4.setCell ⟨w1.heap.size, 2, none⟩ (.int .i64 1))) := Lib.hid (((Mod.of_below HB2.out).trans HS.out.2 (fun b hb => .inl hb)).setCell (a := ⟨w1.heap.size, 2, none⟩) (.inr HB.out.size) _)
    have HO5 : Hid (CrO (W4.setCell ⟨w1.heap.size, 2, none⟩ (.int .i64 1)) base g cap (o.set j (mkCl r ByteArray.empty 2 ⟨fk, fn, bk, bn, fl⟩))) := Lib.hid (HS.out.1.mod ((Mod.refl [w1.heap.size] W4).setCell (a := ⟨w1.heap.size, 2, none⟩) (.inl (by simp)) _) (by simp; omega))
    have X5 : Hid ((W4.setCell ⟨w1.heap.size, 2, none⟩ (.int .i64 1)).cell? ⟨bx, 0, none⟩ = some (.int .i64 k)) := Lib.hid ((World.cell?_setCell_other _ _ _ _ (fun e => by injection e with e1 e2; have := HB.out.size; omega)).trans x4)
    generalize World.setCell _ _ _ = W5 at HC5 HM5 HO5 X5 ⊢
    have x5 := X5.out
    have HTH5 := Lib.hid (HO5.out.there (i := k) (by simp; omega))
    have HS5 := Lib.hid (HO5.out.set (i := k) (by simp; omega) (mkCl r ByteArray.empty 1 ⟨fk, fn, bk, bn, fl⟩))
    clear X5 x4 y4 y4f HTH
    refine wp_region_lit ?_
    refine wpList_valG (.slice (some ⟨g, 0, none⟩) o.length cap) (by rfl) (by rfl) ?_
    simp only [Act.put, List.setIfInBounds_toArray, List.set_cons_zero, List.set_cons_succ]
    refine wpList_valG (.int .i64 (k : Int)) (by rfl) (by go_simp) ?_
    simp only [Act.put, List.setIfInBounds_toArray, List.set_cons_zero, List.set_cons_succ]
    refine load_mid_g (by rfl) 65 (.tmp 6) rfl (w1.heap.size) (0) rfl (encCl (mkCl r ByteArray.empty 1 ⟨fk, fn, bk, bn, fl⟩)) _ (range_new HC5.out) Tryz.underlying65 rfl info_cell ?_
    simp only [Act.put, List.setIfInBounds_toArray, List.set_cons_zero, List.set_cons_succ]
    refine wpList_valG (.pointer (some ⟨g, k * 8, none⟩)) (by rfl) (by go_simp) ?_
    simp only [Act.put, List.setIfInBounds_toArray, List.set_cons_zero, List.set_cons_succ]
    refine wpList_store_mid rfl 65 (.tmp 38) (.tmp 37) rfl (g) (k * 8) ((encCl (mkCl r ByteArray.empty 1 ⟨fk, fn, bk, bn, fl⟩)).toArray) rfl rfl (HTH5.out) info_cell (cl_one _) ?_
    go_wp2
    go_end0
    rw [HV.out, if_neg (by simp), if_pos (by first | exact ⟨rfl, HK.out⟩ | exact ⟨trivial, HK.out⟩), HTN.out, List.set_comm _ _ (by omega), ← HJ.out]
    refine ⟨rfl, ?_, HM5.out.trans HS5.out.2 (fun b hb => .inl hb)⟩
    have := HS5.out.1
    unfold CrO at this ⊢
    simpa using this
  · subst hw
    have hkl : (k : Int) < (o.length : Int) := by omega
    have HK := Lib.hid (show 0 ≤ (k : Int) ∧ (k : Int) < (o.length : Int) from by omega)
    have hw2 : IntKind.i64.wrap ((o.length : Int) - 1) = (o.length : Int) - 1 := IntWalk.i64_in _ (by omega)
    clear HWR
    go_enter Tryz.func352, Tryz.ntmps352
    go_upto_region 7 with (first
      | (go_at_call 162; refine (HW.out _).mono ?_; rintro e w1 ⟨rfl, hb⟩; have HB := Lib.hid hb; have hx' := holda hb HX.out; have hr' := holda hb HR.out; have HA1 := range_below HA.out hb
         have a0 := HA1 0 _ rfl; have a1 := HA1 1 _ rfl; have a2 := HA1 2 _ rfl; have a3 := HA1 3 _ rfl; have a4 := HA1 4 _ rfl; have l1 := lt_of_cell hx'; have l2 := lt_of_cell hr'; have l3 := lt_of_cell a0; clear HA1 hx hr hb)
      | fail)
    generalize hW2 : World.alloc _ _ = W2
    have hb2 : Below w1.heap.size w1 W2 := by rw [← hW2]; exact below_allocs (Below.refl _ _) _
    have hc2 : W2.heap[w1.heap.size]? = some (.cells (encCl (mkCl r ByteArray.empty 0 ⟨fk, fn, bk, bn, fl⟩)).toArray 65 (0, 0)) := by rw [← hW2]; exact hp_new rfl
    have HB2 := Lib.hid (below_tail HB.out hb2)
    have HC2 := Lib.hid hc2
    have x2 := holda hb2 hx'
    have HTH := Lib.hid ((H.out.below HB2.out).there (i := k) (by omega))
    have HS := Lib.hid ((H.out.below HB2.out).set (i := k) (by omega) (mkCl r ByteArray.empty 0 ⟨fk, fn, bk, bn, fl⟩))
    clear hW2 hb2 hc2 hx' hr' a0 a1 a2 a3 a4 l1 l2 l3
    refine wp_region_lit ?_
    refine wpList_valG (.slice (some ⟨g, 0, none⟩) o.length cap) (by rfl) (by rfl) ?_
    simp only [Act.put, List.setIfInBounds_toArray, List.set_cons_zero, List.set_cons_succ]
    refine wpList_valG (.int .i64 (k : Int)) (by rfl) (by go_simp) ?_
    simp only [Act.put, List.setIfInBounds_toArray, List.set_cons_zero, List.set_cons_succ]
    refine load_mid_g (by rfl) 65 (.tmp 6) rfl w1.heap.size 0 rfl (encCl (mkCl r ByteArray.empty 0 ⟨fk, fn, bk, bn, fl⟩)) _ (range_new HC2.out) Tryz.underlying65 rfl info_cell ?_
    simp only [Act.put, List.setIfInBounds_toArray, List.set_cons_zero, List.set_cons_succ]
    refine wpList_valG (.pointer (some ⟨g, k * 8, none⟩)) (by rfl) (by go_simp) ?_
    simp only [Act.put, List.setIfInBounds_toArray, List.set_cons_zero, List.set_cons_succ]
    refine wpList_store_mid rfl 65 (.tmp 38) (.tmp 37) rfl g (k * 8) (encCl (mkCl r ByteArray.empty 0 ⟨fk, fn, bk, bn, fl⟩)).toArray rfl rfl HTH.out info_cell (cl_one _) ?_
    go_wp2
    go_end0
    rw [HV.out, if_pos (by first | exact ⟨rfl, HK.out⟩ | exact ⟨trivial, HK.out⟩)]
    exact ⟨rfl, HS.out.1, (Mod.of_below HB2.out).trans HS.out.2 (fun b hb => .inl hb)⟩
end Go.Proofs.YtaefcahblmopfaaGreatDoor

namespace Go.Proofs.YtaefcahblmopfaaGreatDoor
open Go.RowKit
theorem flat_take {α : Type} {enc : α → List Value} {K : Nat} (hl : ∀ x, (enc x).length = K) : ∀ (l : List α) (k : Nat), (flat enc l).take (k * K) = flat enc (l.take k)
  | [], k => by simp [flat]
  | x :: l, 0 => by simp [flat]
  | x :: l, k + 1 => by
    have e : flat enc (x :: l) = enc x ++ flat enc l := rfl
    have e2 : flat enc ((x :: l).take (k + 1)) = enc x ++ flat enc (l.take k) := rfl
    rw [e, e2, ← flat_take hl l k, List.take_append, List.take_of_length_le (by rw [hl, Nat.add_mul]; omega), hl, show (k + 1) * K - K = k * K by rw [Nat.add_mul]; omega]
theorem flat_drop {α : Type} {enc : α → List Value} {K : Nat} (hl : ∀ x, (enc x).length = K) : ∀ (l : List α) (k : Nat), (flat enc l).drop (k * K) = flat enc (l.drop k)
  | [], k => by simp [flat]
  | x :: l, 0 => by simp
  | x :: l, k + 1 => by
    have e : flat enc (x :: l) = enc x ++ flat enc l := rfl
    have e2 : flat enc ((x :: l).drop (k + 1)) = flat enc (l.drop k) := rfl
    rw [e, e2, ← flat_drop hl l k, List.drop_append, List.drop_eq_nil_of_le (by rw [hl, Nat.add_mul]; omega), hl, show (k + 1) * K - K = k * K by rw [Nat.add_mul]; omega, List.nil_append]
theorem CrO.setMany {w : World} {base g cap : Nat} {l : List Cl} (h : CrO w base g cap l) (off : Nat) (cs : List Cl) (hi : off + cs.length ≤ l.length) :
    CrO (w.setCells g (off * 8) (flat encCl cs)) base g cap (l.take off ++ cs ++ l.drop (off + cs.length)) ∧ Mod [g] w (w.setCells g (off * 8) (flat encCl cs)) := by
  refine ⟨?_, mod_setCellsN (.inl (by simp)) _ _ _ (Mod.refl _ _)⟩
  have h1 := owns_setCells (flat encCl cs) (off * 8) (flat encCl l) w h (by rw [flat_len encCl_len, flat_len encCl_len]; omega)
  have hlen : (l.take off ++ cs ++ l.drop (off + cs.length)).length = l.length := by simp; omega
  unfold CrO
  rw [hlen]
  rw [flat_take encCl_len, flat_len encCl_len, show off * 8 + cs.length * 8 = (off + cs.length) * 8 by omega, flat_drop encCl_len, ← flat_append, ← flat_append, ← List.append_assoc] at h1
  exact h1
def wipeO (o : List Cl) (off n : Nat) (b : Col) : List Cl := o.take off ++ List.replicate n (blankC b) ++ o.drop (off + n)
theorem wipeO_len {o : List Cl} {off n : Nat} (b : Col) (h : off + n ≤ o.length) : (wipeO o off n b).length = o.length := by unfold wipeO; simp; omega
theorem wipeO_succ {o : List Cl} {off i : Nat} {b : Col} (h : off + i < o.length) : (wipeO o off i b).set (off + i) (blankC b) = wipeO o off (i + 1) b := by
  unfold wipeO
  rw [List.set_append_right _ _ (by simp; omega), List.length_append, List.length_take, List.length_replicate, show off + i - (min off o.length + i) = 0 by omega]
  rw [List.drop_eq_getElem_cons h, List.set_cons_zero, List.replicate_succ', List.append_assoc, List.append_assoc, List.append_assoc]
  simp [Nat.add_assoc]
set_option maxRecDepth 100000 in
set_option maxHeartbeats 3200000 in
theorem cwipe_any (base g cap off n c : Nat) (o : List Cl) (b : Col) (w : World) (h : CrO w base g cap o) (hn : off + n ≤ o.length) (hz : o.length ≤ 10000) :
    Calls Tryz.prog 351 #[.slice (some ⟨g, off * 8, none⟩) n c, .agg #[.int .i64 b.k, .int .i64 b.n]] w (MendPost base g cap (wipeO o off n b) w) := by
  have hnle : off + n ≤ o.length := hn
  have HL := Lib.hid hn
  have HZ := Lib.hid hz
  have HBL := Lib.hid (fun w => cblank_any b w)
  have HB0 := Lib.hid (below_allocs (Below.refl w.heap.size w) (.cells #[.int .i64 b.k, .int .i64 b.n] 61))
  have HK : Hid (HoldAt (w.alloc (.cells #[.int .i64 b.k, .int .i64 b.n] 61)) w.heap.size 0 (.int .i64 b.k) ∧ HoldAt (w.alloc (.cells #[.int .i64 b.k, .int .i64 b.n] 61)) w.heap.size 1 (.int .i64 b.n)) := Lib.hid ⟨at_ (hp_new rfl) 0 _ rfl, at_ (hp_new rfl) 1 _ rfl⟩
  have HO := Lib.hid (h.below HB0.out)
  have hg := h.lt.2
  clear h hn hnle hz
  go_enter Tryz.func351, Tryz.ntmps351
  go_wp2_with fail
  generalize World.alloc _ _ = W at HB0 HK HO ⊢
  go_loopw [7] (fun s7 wr => ∃ i : Nat, s7 = .int .i64 i ∧ i ≤ n ∧ CrO wr base g cap (wipeO o off i b) ∧ Mod [g] W wr) (fun s7 _ => n - (intOf s7).toNat)
  case atStart => exact ⟨0, rfl, Nat.zero_le _, by have := HO.out; unfold wipeO; simpa using this, Mod.refl _ _⟩
  case round =>
    obtain ⟨i, rfl, hi, hO, hM⟩ := hrel
    have HOi := Lib.hid hO
    have HM := Lib.hid hM
    obtain ⟨k0, -⟩ := hM.hold (by simp; omega) HK.out.1
    obtain ⟨k1, -⟩ := hM.hold (by simp; omega) HK.out.2
    clear hO hM
    by_cases hlt : i < n
    rotate_left
    · obtain rfl : i = n := by omega
      go_wp2
      go_end0
      exact ⟨rfl, HOi.out, (Mod.of_below HB0.out).trans HM.out (fun b hb => .inl hb)⟩
    · have hltI : (i : Int) < (n : Int) := by omega
      have hw : IntKind.i64.wrap ((i : Int) + 1) = (i : Int) + 1 := IntWalk.i64_in _ (by have := HL.out; have := HZ.out; omega)
      go_wp2_with (first
        | (go_at_call 335; refine (HBL.out _).mono ?_; rintro e w3 ⟨rfl, hb⟩; have HB3 := Lib.hid hb; clear hb; have HTH := Lib.hid ((HOi.out.below HB3.out).there (i := off + i) (by rw [wipeO_len b (by have := HL.out; omega)]; have := HL.out; omega)))
        | (refine wpList_store_mid (op := ⟨none, .store 65 (.tmp 14) (.tmp 13), _, _, _, _⟩) rfl 65 (.tmp 14) (.tmp 13) rfl g ((off + i) * 8) (encCl (blankC b)).toArray (by rw [Nat.add_mul]; rfl) rfl HTH.out info_cell (cl_one (blankC b)) ?_))
      obtain ⟨q1, q2⟩ := (HOi.out.below HB3.out).set (i := off + i) (by rw [wipeO_len b (by have := HL.out; omega)]; have := HL.out; omega) (blankC b)
      rw [wipeO_succ (by have := HL.out; omega)] at q1
      have Q1 := Lib.hid q1
      have Q2 := Lib.hid q2
      clear q1 q2
      go_roundw
      case rel => exact ⟨i + 1, by go_num, by omega, Q1.out, (HM.out.then_below HB3.out).trans Q2.out (fun k hk => .inl hk)⟩
      case measure => simp [intOf]; omega
end Go.Proofs.YtaefcahblmopfaaGreatDoor
namespace Go.Proofs.YtaefcahblmopfaaGreatDoor
open Go.RowKit
def insertO (o : List Cl) (x n : Int) (b : Col) : List Cl :=
  if x < 0 ∨ (o.length : Int) ≤ x ∨ n < 1 then o
  else wipeO (o.take (x.toNat + (min n (o.length - x)).toNat) ++ (o.drop x.toNat).take (o.length - (x.toNat + (min n (o.length - x)).toNat))) x.toNat (min n (o.length - x)).toNat b
theorem insertL_O (l : List Cl) (x n : Int) (b : Col) : mendL (insertO (mendL l) x n b) = insertL l x n b := by
  unfold insertO insertL
  simp only []
  generalize hm : mendL l = o
  split
  · rw [← hm]; exact mendL_idem l
  · next h =>
    congr 1
    refine List.ext_getElem? fun i => ?_
    unfold wipeO
    obtain ⟨k, rfl⟩ : ∃ k : Nat, x = k := ⟨x.toNat, by omega⟩
    obtain ⟨m, rfl⟩ : ∃ m : Nat, n = m := ⟨n.toNat, by omega⟩
    obtain ⟨q, hq⟩ : ∃ q : Nat, q = min m (o.length - k) := ⟨_, rfl⟩
    have e1 : (min (m : Int) ((o.length : Int) - k)).toNat = q := by omega
    rw [e1]
    simp only [Int.toNat_natCast]
    simp only [List.getElem?_take, List.append_assoc, List.getElem?_append, List.length_append, List.length_take, List.length_replicate, List.getElem?_replicate, List.getElem?_drop, List.length_drop]
    repeat' split
    all_goals first
      | rfl
      | (congr 1; omega)
      | (exfalso; omega)
      | (rw [List.getElem?_eq_none (by omega)])
      | skip
    all_goals first
      | omega
      | (symm; rw [List.getElem?_eq_none (by omega)])
      | skip
theorem insertO_len (o : List Cl) (x n : Int) (b : Col) : (insertO o x n b).length = o.length := by
  unfold insertO
  split
  · rfl
  · have e : (o.take (x.toNat + (min n (o.length - x)).toNat) ++ (o.drop x.toNat).take (o.length - (x.toNat + (min n (o.length - x)).toNat))).length = o.length := by simp; omega
    rw [wipeO_len b (by rw [e]; omega), e]
end Go.Proofs.YtaefcahblmopfaaGreatDoor
namespace Go.Proofs.YtaefcahblmopfaaGreatDoor
open Go.RowKit
end Go.Proofs.YtaefcahblmopfaaGreatDoor
namespace Go.Proofs.YtaefcahblmopfaaGreatDoor
open Go.RowKit
theorem CrO.cap {w : World} {base g cap : Nat} {o : List Cl} (h : CrO w base g cap o) : o.length ≤ cap := by
  rcases h.2 with ⟨e, -⟩ | ⟨g', c', cur, e, _, _, hc, _⟩
  · cases e
  · simp only [Value.slice.injEq] at e; omega
theorem CrO.copy {w : World} {base g cap : Nat} {o : List Cl} (h : CrO w base g cap o) (i k n oi ok dl sl dc sc : Nat) (hi : i + n ≤ o.length) (hk : k + n ≤ o.length) (hmin : Nat.min sl dl = n) (hoi : 0 < n → oi = i * 8) (hok : 0 < n → ok = k * 8) :
    ∃ w', (Builtin.copy_ #[50, 50] 3 #[.slice (some ⟨g, oi, none⟩) dl dc, .slice (some ⟨g, ok, none⟩) sl sc]).run Tryz.prog w = .ok (goInt n) w' ∧ CrO w' base g cap (o.take i ++ (o.drop k).take n ++ o.drop (i + n)) ∧ Mod [g] w w' := by
  have hlen : ((o.drop k).take n).length = n := by simp; omega
  have key : ∀ (o1 o2 : Nat), (0 < n → o1 = i * 8) → (0 < n → o2 = k * 8) → (Builtin.copy_ #[50, 50] 3 #[.slice (some ⟨g, o1, none⟩) dl dc, .slice (some ⟨g, o2, none⟩) sl sc]).run Tryz.prog w = .ok (goInt n) (w.setCells g o1 (flat encCl ((o.drop k).take n))) := fun o1 o2 h1 h2 => by
    have hcl : (flat encCl ((o.drop k).take n)).length = n * 8 := by rw [flat_len encCl_len, hlen]
    have := run_copy_k (P := Tryz.prog) w 50 50 3 65 g o1 dl dc ⟨g, o2, none⟩ sl sc 8 (flat encCl ((o.drop k).take n)) Tryz.underlying50 info_cell (by rw [hmin, hcl]) (fun j v hj => ?_) (fun j hj => ?_) (fun j hj => ?_) (flat_one encCl_one _)
    · rw [hmin] at this; exact this
    · have hj' := (List.getElem?_eq_some_iff.1 hj).1
      rw [hcl] at hj'
      rw [add_lit', h2 (by omega)]
      rw [← flat_take encCl_len, List.getElem?_take, if_pos (by omega), ← flat_drop encCl_len, List.getElem?_drop] at hj
      exact (owns_hold h hj).1
    · rw [hcl] at hj
      obtain ⟨v, hv⟩ : ∃ v, (flat encCl o)[o1 + j]? = some v := ⟨_, List.getElem?_eq_getElem (by rw [flat_len encCl_len, h1 (by omega)]; omega)⟩
      rw [(owns_hold h hv).1]; rfl
    · rw [hcl] at hj
      obtain ⟨v, hv⟩ : ∃ v, (flat encCl o)[o1 + j]? = some v := ⟨_, List.getElem?_eq_getElem (by rw [flat_len encCl_len, h1 (by omega)]; omega)⟩
      exact (owns_hold h hv).2
  refine ⟨_, key oi ok hoi hok, ?_⟩
  rcases Nat.eq_zero_or_pos n with rfl | hn
  · simp only [List.take_zero, List.append_nil, Nat.add_zero, List.take_append_drop]
    exact ⟨h, Mod.refl _ _⟩
  · rw [hoi hn]
    have := h.setMany i ((o.drop k).take n) (by rw [hlen]; omega)
    rwa [hlen] at this
set_option maxRecDepth 100000 in
set_option maxHeartbeats 3200000 in
theorem insert1_any (base g cap : Nat) (o : List Cl) (bx bn bb : Nat) (x n : Int) (b : Col) (w : World) (h : CrO w base g cap o) (hz : o.length ≤ 10000) (hx : w.cell? ⟨bx, 0, none⟩ = some (.int .i64 x)) (hn : w.cell? ⟨bn, 0, none⟩ = some (.int .i64 n))
    (hk0 : w.cell? ⟨bb, 0, none⟩ = some (.int .i64 b.k)) (hn0 : w.cell? ⟨bb, 1, none⟩ = some (.int .i64 b.n)) (hb1 : bx < base) (hb2 : bn < base) (hb3 : bb < base) :
    Calls Tryz.prog 380 #[.slice (some ⟨g, 0, none⟩) o.length cap, .pointer (some ⟨bx, 0, none⟩), .pointer (some ⟨bn, 0, none⟩), .pointer (some ⟨bb, 0, none⟩)] w (MendPost base g cap (insertO o x n b) w) := by
  have H := Lib.hid h
  have hgb := h.lt
  have hcap := h.cap
  clear h
  have HV := Lib.hid (show insertO o x n b = if x < 0 ∨ (o.length : Int) ≤ x ∨ n < 1 then o else wipeO (o.take (x.toNat + (min n (o.length - x)).toNat) ++ (o.drop x.toNat).take (o.length - (x.toNat + (min n (o.length - x)).toNat))) x.toNat (min n (o.length - x)).toNat b from rfl)
  have HVL := Lib.hid (insertO_len o x n b)
  generalize insertO o x n b = RES at HV HVL
  by_cases hx0 : x < 0
  · go_enter Tryz.func380, Tryz.ntmps380
    go_wp2
    go_end0
    rw [HV.out, if_pos (by omega)]
    exact H.out.mend_post
  by_cases hxl : (o.length : Int) ≤ x
  · go_enter Tryz.func380, Tryz.ntmps380
    go_wp2
    go_end0
    rw [HV.out, if_pos (by omega)]
    exact H.out.mend_post
  by_cases hn1 : n < 1
  · go_enter Tryz.func380, Tryz.ntmps380
    go_wp2
    go_end0
    rw [HV.out, if_pos (by omega)]
    exact H.out.mend_post
  obtain ⟨k, rfl⟩ : ∃ k : Nat, x = (k : Int) := ⟨x.toNat, by omega⟩
  have hw1 : IntKind.i64.wrap ((o.length : Int) - (k : Int)) = (o.length : Int) - (k : Int) := IntWalk.i64_in _ (by omega)
  obtain ⟨q, hq⟩ : ∃ q : Nat, (if (o.length : Int) - (k : Int) < n then (o.length : Int) - (k : Int) else n) = (q : Int) := ⟨(min n ((o.length : Int) - (k : Int))).toNat, by omega⟩
  have hq2 : (min n ((o.length : Int) - (k : Int))).toNat = q := by omega
  obtain ⟨j, hj⟩ : ∃ j : Nat, j = k + q := ⟨_, rfl⟩
  have hjl : j ≤ o.length := by omega
  have hq0 : 0 < q := by omega
  have hkj : (k : Int) + (q : Int) = (j : Int) := by omega
  have hwj : IntKind.i64.wrap (j : Int) = (j : Int) := IntWalk.i64_in _ (by omega)
  have hkl : k < o.length := by omega
  rw [if_neg (by omega), hq2, Int.toNat_natCast, ← hj] at HV
  have HQ := Lib.hid (And.intro hj hq0)
  obtain ⟨off, hoff⟩ : ∃ off, (if cap = j then (some ⟨g, 0, none⟩ : Option Addr) else some ⟨g, j * 8, none⟩) = some ⟨g, off, none⟩ := by
    by_cases h : cap = j
    · exact ⟨0, if_pos h⟩
    · exact ⟨j * 8, if_neg h⟩
  have HOFF : Hid (0 < o.length - j → off = j * 8) := Lib.hid (fun h => by rw [if_neg (by omega)] at hoff; simp at hoff; omega)
  have hc3 : ¬ cap = k := by omega
  have HBX := Lib.hid hx
  have HBN := Lib.hid hn
  have HBK := Lib.hid hk0
  have HBM := Lib.hid hn0
  clear hq2 hj
  go_enter Tryz.func380, Tryz.ntmps380
  go_upto_region 2 with fail
  clear hq hw1 hk0 hn0 hn
  have hc4 : o.length ≤ cap := hcap
  have hc5 : k ≤ o.length := by omega
  refine wp_region_u 8 (fun w' => Below w.heap.size w w' ∧ w'.cell? ⟨bx, 0, none⟩ = some (.int .i64 k)) (by kernel_rfl) (by kernel_rfl) ?_ ?_
  · exact ⟨(Below.refl _ _).drew, hx⟩
  simp only [List.take_succ_cons, List.take_zero, List.drop_succ_cons, List.drop_zero]
  repeat (
    (first
     | refine seqU_skip (by rfl) ?_
     | (refine seqU_val ?_ (by rfl) ?_ ?_; rotate_left; (focus (intro w' hS; obtain ⟨_, _⟩ := hS; go_simp; first | done | with_reducible rfl))))
    simp only [Act.put, List.setIfInBounds_toArray, List.set_cons_zero, List.set_cons_succ])
  refine seqU_nil (fun w' hS => ?_)
  have HB1 := Lib.hid hS.1
  obtain ⟨w2, hcp, hO2, hM2⟩ := (H.out.below HB1.out).copy j k (o.length - j) off (k * 8) (o.length - j) (o.length - k) (cap - j) (cap - k) (by omega) (by have := HQ.out; omega) (Nat.min_eq_right (by have := HQ.out; omega)) HOFF.out (fun _ => rfl)
  have hdn : List.drop (j + (o.length - j)) o = [] := List.drop_eq_nil_of_le (by omega)
  rw [hdn, List.append_nil] at hO2
  clear hdn
  have HO2 := Lib.hid hO2
  have HM2 := Lib.hid ((Mod.of_below (X := [g]) HB1.out).trans hM2 (fun b hb => .inl hb))
  have hlen : (List.take j o ++ List.take (o.length - j) (List.drop k o)).length = o.length := by
    have := HQ.out
    simp; omega
  have HWP := Lib.hid (fun w3 (h : CrO w3 base g cap (List.take j o ++ List.take (o.length - j) (List.drop k o))) => cwipe_any base g cap k q (cap - k) _ b w3 h (by rw [hlen]; have := HQ.out; omega) (by rw [hlen]; exact hz))
  have x2 := HM2.out.cell (by simp; omega) HBX.out
  have b0 := HM2.out.cell (by simp; omega) HBK.out
  have b1 := HM2.out.cell (by simp; omega) HBM.out
  have HLEN := Lib.hid hlen
  clear hS hO2 hM2 hlen hx
  go_upto_region 3 with fail
  clear hcp hoff
  have hc6 : j ≤ cap := by omega
  have hc7 : k ≤ j := by have := HQ.out; omega
  have hjk : j - k = q := by have := HQ.out; omega
  refine wp_region_u 7 (fun w' => Below w2.heap.size w2 w' ∧ w'.cell? ⟨bx, 0, none⟩ = some (.int .i64 k) ∧ w'.cell? ⟨bb, 0, none⟩ = some (.int .i64 b.k) ∧ w'.cell? ⟨bb, 1, none⟩ = some (.int .i64 b.n)) (by kernel_rfl) (by kernel_rfl) ?_ ?_
  · exact ⟨(Below.refl _ _).drew, x2, b0, b1⟩
  simp only [List.take_succ_cons, List.take_zero, List.drop_succ_cons, List.drop_zero]
  repeat (
    (first
     | refine seqU_skip (by rfl) ?_
     | (refine seqU_val ?_ (by rfl) ?_ ?_; rotate_left; (focus (intro w' hS; obtain ⟨_, _, _, _⟩ := hS; go_simp; first | done | with_reducible rfl))))
    simp only [Act.put, List.setIfInBounds_toArray, List.set_cons_zero, List.set_cons_succ])
  refine seqU_nil (fun w' hS => ?_)
  have HB3 := Lib.hid hS.1
  clear hS x2 b0 b1
  go_wp2_with (go_at_call 351; refine (HWP.out _ (HO2.out.below HB3.out)).mono ?_; rintro e w4 ⟨rfl, hc, hm⟩)
  go_end0
  rw [HV.out]
  exact ⟨rfl, hc, (HM2.out.then_below HB3.out).trans hm (fun b hb => .inl hb)⟩
end Go.Proofs.YtaefcahblmopfaaGreatDoor
namespace Go.Proofs.YtaefcahblmopfaaGreatDoor
open Go.RowKit
theorem WithPost.rebase {l : List Cl} {w W w' : World} {e : Ending} (hb : Below w.heap.size w W) (h : WithPost l W e w') : WithPost l w e w' := by
  obtain ⟨g, cap, he, hc, hb2⟩ := h
  exact ⟨g, cap, he, owns_weaken hc hb.size, below_tail hb hb2⟩
theorem range_box {w : World} {b : Nat} {t : TypeId} {cs : List Value} (h : w.heap[b]? = some (.cells cs.toArray t (0, 0))) (j : Nat) (v : Value) (hv : cs[j]? = some v) : w.cell? ⟨b, j, none⟩ = some v := (whole_at h j v hv).1
set_option maxRecDepth 100000 in
set_option maxHeartbeats 3200000 in
theorem cClose_any (A : Option Addr) (l : List Cl) (ca : Nat) (w : World) (hl : GrAt encCl 8 w A l) (h0 : 0 < l.length) (hz : l.length ≤ 10000) :
    Calls Tryz.prog 379 #[.slice A l.length ca] w (WithPost (closeL l) w) := by
  have HW := Lib.hid (cwith_any A l ca 402 #[] (fun o => o.set (o.length - 1) padC) w hl h0 hz (by simp [mendL_len]) (fun args w => by kernel_rfl) (fun g cap w' hc _ => by
    have := close1_any w.heap.size g cap (mendL l) w' hc (by rw [mendL_len]; exact h0) (by rw [mendL_len]; exact hz)
    rw [mendL_len] at this
    simp only [mendL_len]
    exact this))
  rw [mendL_len, show mendL ((mendL l).set (l.length - 1) padC) = closeL l from rfl] at HW
  clear hl
  go_enter Tryz.func379, Tryz.ntmps379
  go_wp2_with (go_at_call 104; refine HW.out.mono ?_; rintro e w1 ⟨g, cap, rfl, hc, hb⟩; have HC := Lib.hid hc; clear hc)
  go_ret
  exact ⟨g, cap, rfl, HC.out, hb⟩
set_option maxRecDepth 100000 in
set_option maxHeartbeats 3200000 in
theorem cInsert_any (A : Option Addr) (l : List Cl) (ca : Nat) (x n : Int) (b : Col) (w : World) (hl : GrAt encCl 8 w A l) (h0 : 0 < l.length) (hz : l.length ≤ 10000) :
    Calls Tryz.prog 344 #[.slice A l.length ca, .int .i64 x, .int .i64 n, .agg #[.int .i64 b.k, .int .i64 b.n]] w (WithPost (insertL l x n b) w) := by
  have hb0 : Below w.heap.size w (((w.alloc (.cells #[.int .i64 x] 3)).alloc (.cells #[.int .i64 n] 3)).alloc (.cells #[.int .i64 b.k, .int .i64 b.n] 61)) := below_allocs (below_allocs (below_allocs (Below.refl w.heap.size w) _) _) _
  have hp0 : ((((w.alloc (.cells #[.int .i64 x] 3)).alloc (.cells #[.int .i64 n] 3)).alloc (.cells #[.int .i64 b.k, .int .i64 b.n] 61)) : World).heap[w.heap.size + 0]? = some (.cells #[.int .i64 x] 3 (0, 0)) := by first | exact hp_old (hp_old (hp_new (by simp))) | (refine hp_old ?_; refine hp_old ?_; exact hp_new rfl)
  have hp1 : ((((w.alloc (.cells #[.int .i64 x] 3)).alloc (.cells #[.int .i64 n] 3)).alloc (.cells #[.int .i64 b.k, .int .i64 b.n] 61)) : World).heap[w.heap.size + 1]? = some (.cells #[.int .i64 n] 3 (0, 0)) := by first | exact hp_old (hp_new (by simp)) | (refine hp_old ?_; refine hp_old ?_; exact hp_new rfl)
  have hp2 : ((((w.alloc (.cells #[.int .i64 x] 3)).alloc (.cells #[.int .i64 n] 3)).alloc (.cells #[.int .i64 b.k, .int .i64 b.n] 61)) : World).heap[w.heap.size + 2]? = some (.cells #[.int .i64 b.k, .int .i64 b.n] 61 (0, 0)) := by first | exact hp_new (by simp) | (refine hp_old ?_; refine hp_old ?_; exact hp_new rfl)
  have HB0 := Lib.hid hb0
  have HW := Lib.hid (cwith_any A l ca 380 #[.pointer (some ⟨w.heap.size, 0, none⟩), .pointer (some ⟨w.heap.size + 1, 0, none⟩), .pointer (some ⟨w.heap.size + 2, 0, none⟩)] (fun o => insertO o x n b) (((w.alloc (.cells #[.int .i64 x] 3)).alloc (.cells #[.int .i64 n] 3)).alloc (.cells #[.int .i64 b.k, .int .i64 b.n] 61)) (hl.below hb0) h0 hz (by rw [insertO_len, mendL_len]) (fun args w => by kernel_rfl) (fun g cap w' hc hb => by
    have := insert1_any _ g cap (mendL l) _ _ _ x n b w' hc (by rw [mendL_len]; exact hz) (holda hb (range_box hp0 0 _ rfl)) (holda hb (range_box hp1 0 _ rfl)) (holda hb (range_box hp2 0 _ rfl)) (holda hb (range_box hp2 1 _ rfl)) (by simp <;> omega) (by simp <;> omega) (by simp <;> omega)
    rwa [mendL_len] at this))
  have HL := Lib.hid (show mendL ((fun o => insertO o x n b) (mendL l)) = insertL l x n b from insertL_O l x n b)
  rw [HL.out] at HW
  clear hl hb0 hp0 hp1 hp2
  go_enter Tryz.func344, Tryz.ntmps344
  go_wp2_with (go_at_call 104; refine HW.out.mono ?_; intro e w1 hp; obtain ⟨g, cap, rfl, hc, hb⟩ := WithPost.rebase HB0.out hp; have HC := Lib.hid hc; clear hc hp)
  go_ret
  exact ⟨g, cap, rfl, HC.out, hb⟩
set_option maxRecDepth 100000 in
set_option maxHeartbeats 3200000 in
theorem cPut_any (A : Option Addr) (l : List Cl) (ca : Nat) (x r : Int) (a : Atr) (w : World) (hl : GrAt encCl 8 w A l) (h0 : 0 < l.length) (hz : l.length ≤ 10000) :
    Calls Tryz.prog 295 #[.slice A l.length ca, .int .i64 x, .int .i32 r, .agg #[.int .i64 a.fk, .int .i64 a.fn, .int .i64 a.bk, .int .i64 a.bn, .int .i64 a.fl]] w (WithPost (putL l x r a) w) := by
  have hb0 : Below w.heap.size w (((w.alloc (.cells #[.int .i64 x] 3)).alloc (.cells #[.int .i32 r] 21)).alloc (.cells #[.int .i64 a.fk, .int .i64 a.fn, .int .i64 a.bk, .int .i64 a.bn, .int .i64 a.fl] 63)) := below_allocs (below_allocs (below_allocs (Below.refl w.heap.size w) _) _) _
  have hp0 : ((((w.alloc (.cells #[.int .i64 x] 3)).alloc (.cells #[.int .i32 r] 21)).alloc (.cells #[.int .i64 a.fk, .int .i64 a.fn, .int .i64 a.bk, .int .i64 a.bn, .int .i64 a.fl] 63)) : World).heap[w.heap.size + 0]? = some (.cells #[.int .i64 x] 3 (0, 0)) := by first | exact hp_old (hp_old (hp_new (by simp))) | (refine hp_old ?_; refine hp_old ?_; exact hp_new rfl)
  have hp1 : ((((w.alloc (.cells #[.int .i64 x] 3)).alloc (.cells #[.int .i32 r] 21)).alloc (.cells #[.int .i64 a.fk, .int .i64 a.fn, .int .i64 a.bk, .int .i64 a.bn, .int .i64 a.fl] 63)) : World).heap[w.heap.size + 1]? = some (.cells #[.int .i32 r] 21 (0, 0)) := by first | exact hp_old (hp_new (by simp)) | (refine hp_old ?_; refine hp_old ?_; exact hp_new rfl)
  have hp2 : ((((w.alloc (.cells #[.int .i64 x] 3)).alloc (.cells #[.int .i32 r] 21)).alloc (.cells #[.int .i64 a.fk, .int .i64 a.fn, .int .i64 a.bk, .int .i64 a.bn, .int .i64 a.fl] 63)) : World).heap[w.heap.size + 2]? = some (.cells #[.int .i64 a.fk, .int .i64 a.fn, .int .i64 a.bk, .int .i64 a.bn, .int .i64 a.fl] 63 (0, 0)) := by first | exact hp_new (by simp) | (refine hp_old ?_; refine hp_old ?_; exact hp_new rfl)
  have HB0 := Lib.hid hb0
  have HW := Lib.hid (cwith_any A l ca 352 #[.pointer (some ⟨w.heap.size + 1, 0, none⟩), .pointer (some ⟨w.heap.size, 0, none⟩), .pointer (some ⟨w.heap.size + 2, 0, none⟩)] (fun o => putO o x r a) (((w.alloc (.cells #[.int .i64 x] 3)).alloc (.cells #[.int .i32 r] 21)).alloc (.cells #[.int .i64 a.fk, .int .i64 a.fn, .int .i64 a.bk, .int .i64 a.bn, .int .i64 a.fl] 63)) (hl.below hb0) h0 hz (by rw [putO_len, mendL_len]) (fun args w => by kernel_rfl) (fun g cap w' hc hb => by
    have := put1_any _ g cap (mendL l) _ _ _ x r a w' hc (by rw [mendL_len]; exact hz) (holda hb (range_box hp1 0 _ rfl)) (holda hb (range_box hp0 0 _ rfl)) (fun j v hv => by rw [Nat.zero_add]; exact holda hb (range_box (cs := encAt a) hp2 j v hv)) (by simp <;> omega) (by simp <;> omega) (by simp <;> omega)
    rwa [mendL_len] at this))
  have HL := Lib.hid (show mendL ((fun o => putO o x r a) (mendL l)) = putL l x r a from putL_O l x r a)
  rw [HL.out] at HW
  clear hl hb0 hp0 hp1 hp2
  go_enter Tryz.func295, Tryz.ntmps295
  go_wp2_with (go_at_call 104; refine HW.out.mono ?_; intro e w1 hp; obtain ⟨g, cap, rfl, hc, hb⟩ := WithPost.rebase HB0.out hp; have HC := Lib.hid hc; clear hc hp)
  go_ret
  exact ⟨g, cap, rfl, HC.out, hb⟩
end Go.Proofs.YtaefcahblmopfaaGreatDoor
