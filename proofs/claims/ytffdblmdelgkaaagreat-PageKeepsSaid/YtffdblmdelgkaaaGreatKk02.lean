/- Joined by a tool of this claim out of smaller texts. Conditions: as stated. -/
import Derived.Test.YtffdblmdelgkaaaGreatKk01
import Derived.Lib.SmallJoins
import Derived.OwnWalk
namespace Go.Proofs.YtffdblmdelgkaaaGreat
open Go.RowKit
theorem info_cellz : (Tryz.prog.info? 109).map (fun i => (i.zero, i.size, i.bytes)) = some (some (.agg #[.int .i32 0, .string ByteArray.empty, .int .i64 0, .int .i64 0, .int .i64 0, .int .i64 0, .int .i64 0, .int .i64 0]), 8, 72) := by kernel_rfl
def WithPost (l : List Cl) (w : World) (e : Ending) (w' : World) : Prop := ∃ g cap, e = .returned (.slice (some ⟨g, 0, none⟩) l.length cap) ∧ CrO w' w.heap.size g cap l ∧ Below w.heap.size w w'
set_option maxRecDepth 100000 in
set_option maxHeartbeats 3200000 in
theorem cwith_any (A : Option Addr) (l : List Cl) (ca : Nat) (f : FuncId) (capt : Array Value) (F : List Cl → List Cl) (w : World) (hl : GrAt encCl 8 w A l) (h0 : 0 < l.length) (hz : l.length ≤ 10000) (hF : (F (mendL l)).length = l.length) (hf : ∀ (args : Array Value) (w : World), (callFunc f args).run Tryz.prog w = .ok (.enter f args) w)
    (hdo : ∀ g cap w', CrO w' w.heap.size g cap (mendL l) → Below w.heap.size w w' → Calls Tryz.prog f (#[.slice (some ⟨g, 0, none⟩) l.length cap] ++ capt) w' (MendPost w.heap.size g cap (F (mendL l)) w')) :
    Calls Tryz.prog 114 #[.slice A l.length ca, .func (.func f) #[] capt] w (WithPost (mendL (F (mendL l))) w) := by
  obtain ⟨j0, hj, gz0, gz1, gz2⟩ := info_parts info_cellz
  obtain ⟨b, off, rfl, -⟩ := hl h0
  have HN := Lib.hid (hl.news encCl_len)
  have HFL := Lib.hid (flat_len encCl_len l)
  have HDO := Lib.hid hdo
  clear hl hdo
  go_enter Tryz.func114, Tryz.ntmps114
  go_upto_region 1 with fail
  refine wp_region_lit ?_
  refine wpList_valG (.slice (some ⟨b, off, none⟩) l.length ca) (by rfl) (by rfl) ?_
  simp only [Act.put, List.setIfInBounds_toArray, List.set_cons_zero, List.set_cons_succ]
  refine wpList_append_own _ rfl (.const (.slice none 0 0)) (.tmp 6) _ rfl w.heap.size 109 j0 (.agg #[.int .i32 0, .string ByteArray.empty, .int .i64 0, .int .i64 0, .int .i64 0, .int .i64 0, .int .i64 0, .int .i64 0]) 8 72 Tryz.underlying48 hj gz0 gz1 gz2 rfl (by decide) _ _ _ rfl (World.ownsRow_nil _ _ _ _) ⟨b, off, none⟩ l.length ca (flat encCl l) rfl HFL.out HN.out (flat_one encCl_one l) (by simp only [maxLen]; omega) (by omega) (by simp <;> omega) ?_
  intro v1 w1 hown1 hg1 _
  rw [Nat.zero_add] at hown1
  obtain ⟨g, cap, hv⟩ := Go.Joins.ownsRow_form hown1 (by omega)
  subst hv
  have hB1 : Below w.heap.size w w1 := (Below.refl _ _).grown hg1 (Nat.le_refl _) (fun k hk => by cases hk)
  have C1 : CrO w1 w.heap.size g cap l := by unfold CrO; simpa using hown1
  have HB1 := Lib.hid hB1
  have HM1 := Lib.hid (cmend_any w.heap.size g cap l w1 C1 hz)
  have HM2 : Hid (∀ w', CrO w' w.heap.size g cap (F (mendL l)) → Calls Tryz.prog 142 #[.slice (some ⟨g, 0, none⟩) l.length cap] w' (MendPost w.heap.size g cap (mendL (F (mendL l))) w')) := Lib.hid (fun w' h => by
    have := cmend_any w.heap.size g cap (F (mendL l)) w' h (by rw [hF]; exact hz)
    rwa [hF] at this)
  have hgb := C1.lt
  clear hown1 hg1 hB1 C1
  go_wp2_with (first
    | (go_at_call 142; first
        | (have hpv := HC3.out; clear hpv; refine (HM2.out _ HC3.out).mono ?_; rintro e w4 ⟨rfl, hc4, hm4⟩; have HC4 := Lib.hid hc4; have HB4 := Lib.hid (HB3.out.trans (hm4.below (B := w.heap.size) (fun x hx => by rw [List.mem_singleton.1 hx]; exact hgb.1) HB3.out.size)); clear hc4 hm4)
        | (refine HM1.out.mono ?_; rintro e w2 ⟨rfl, hc2, hm2⟩; have HC2 := Lib.hid hc2; have HB2 := Lib.hid (HB1.out.trans (hm2.below (B := w.heap.size) (fun x hx => by rw [List.mem_singleton.1 hx]; exact hgb.1) HB1.out.size)); clear hc2 hm2))
    | (refine (HDO.out g cap _ HC2.out HB2.out).mono ?_; rintro e w3 ⟨rfl, hc3, hm3⟩; have HC3 := Lib.hid hc3; have HB3 := Lib.hid (HB2.out.trans (hm3.below (B := w.heap.size) (fun x hx => by rw [List.mem_singleton.1 hx]; exact hgb.1) HB2.out.size)); clear hc3 hm3))
  go_ret
  exact ⟨g, cap, by rw [mendL_len, hF]; rfl, HC4.out, HB4.out⟩
end Go.Proofs.YtffdblmdelgkaaaGreat

namespace Go.Proofs.YtffdblmdelgkaaaGreat
open Go.RowKit
theorem mend1_any (v : Value) (w : World) : Calls Tryz.prog 150 #[v] w fun e w' => e = .returned (.tuple #[]) ∧ w = w' := by
  go_enter Tryz.func150, Tryz.ntmps150
  go_wp2
  go_end0
  exact ⟨rfl, rfl⟩
theorem call_mend1 (args : Array Value) (w : World) : (callFunc 150 args).run Tryz.prog w = .ok (.enter 150 args) w := by kernel_rfl
theorem cMend_any (A : Option Addr) (l : List Cl) (ca : Nat) (w : World) (hl : GrAt encCl 8 w A l) (h0 : 0 < l.length) (hz : l.length ≤ 10000) :
    Calls Tryz.prog 133 #[.slice A l.length ca] w (WithPost (mendL l) w) := by
  have HW := Lib.hid (cwith_any A l ca 150 #[] id w hl h0 hz (mendL_len l) call_mend1 (fun g cap w' hc _ => (mend1_any _ w').mono fun e w'' ⟨he, hw⟩ => ⟨he, hw ▸ hc, hw ▸ Mod.refl _ _⟩))
  rw [show mendL (id (mendL l)) = mendL l from mendL_idem l] at HW
  clear hl
  go_enter Tryz.func133, Tryz.ntmps133
  go_wp2_with (go_at_call 114; refine HW.out.mono ?_; rintro e w1 ⟨g, cap, rfl, hc, hb⟩; have HC := Lib.hid hc; clear hc)
  go_ret
  exact ⟨g, cap, rfl, HC.out, hb⟩
end Go.Proofs.YtffdblmdelgkaaaGreat
namespace Go.Proofs.YtffdblmdelgkaaaGreat
open Go.RowKit
theorem made_flat (z : Cl) (n : Nat) : (madeCells (encCl z).toArray (n * 8)).toList = flat encCl (List.replicate n z) := by
  refine List.ext_getElem? fun m => ?_
  by_cases hm : m < n * 8
  · have h1 : (List.replicate n z)[m / 8]? = some z := by rw [List.getElem?_replicate]; rw [if_pos (by omega)]
    have h2 := flat_at2 encCl_len (List.replicate n z) (m / 8) z (m % 8) h1 (Nat.mod_lt _ (by decide))
    rw [show m / 8 * 8 + m % 8 = m by omega] at h2
    rw [h2]
    have hj : m % 8 < (encCl z).length := by rw [encCl_len]; exact Nat.mod_lt _ (by decide)
    unfold madeCells
    simp only [Array.toList_map, Array.toList_range, List.getElem?_map, List.getElem?_range hm, Option.map_some]
    rw [List.getElem?_eq_getElem hj]
    congr 1
    have hs : (encCl z).toArray.size = 8 := by rw [List.size_toArray, encCl_len]
    rw [hs, getElem!_pos _ _ (by rw [hs]; exact Nat.mod_lt _ (by decide))]
    simp
  · rw [List.getElem?_eq_none (by simp [size_madeCells]; omega), List.getElem?_eq_none (by rw [flat_len encCl_len, List.length_replicate]; omega)]
end Go.Proofs.YtffdblmdelgkaaaGreat
namespace Go.Proofs.YtffdblmdelgkaaaGreat
open Go.RowKit
theorem replicate_set {n i : Nat} {c d : Cl} (h : i < n) : (List.replicate i c ++ List.replicate (n - i) d).set i c = List.replicate (i + 1) c ++ List.replicate (n - (i + 1)) d := by
  rw [List.set_append_right _ _ (by simp), List.length_replicate, Nat.sub_self, show n - i = (n - (i + 1)) + 1 by omega, List.replicate_succ, List.set_cons_zero, List.replicate_succ', List.append_assoc]; rfl
def zeroC : Cl := emptyA ⟨0, 0, 0, 0, 0⟩
set_option maxRecDepth 100000 in
set_option maxHeartbeats 3200000 in
theorem cBlanks_any (n : Nat) (b : Col) (w : World) (hn0 : 0 < n) (hn : n ≤ 1000) :
    Calls Tryz.prog 138 #[.int .i64 n, .agg #[.int .i64 b.k, .int .i64 b.n]] w (WithPost (List.replicate n (blankC b)) w) := by
  obtain ⟨j0, hj, gz0, gz1, gz2⟩ := info_parts info_cellz
  have hmin : min (n : Int) 1000 = (n : Int) := by omega
  have hmax : max 0 (n : Int) = (n : Int) := by omega
  have hpos : (0 : Int) < (n : Int) := by omega
  have hnle : ¬ (n : Int) ≤ 0 := by omega
  have hn1k : ¬ (1000 : Int) < (n : Int) := by omega
  have HBL := Lib.hid (fun w => cblank_any b w)
  have HB0 := Lib.hid (below_allocs (Below.refl w.heap.size w) (.cells #[.int .i64 b.k, .int .i64 b.n] 32))
  have HK : Hid (HoldAt (w.alloc (.cells #[.int .i64 b.k, .int .i64 b.n] 32)) w.heap.size 0 (.int .i64 b.k) ∧ HoldAt (w.alloc (.cells #[.int .i64 b.k, .int .i64 b.n] 32)) w.heap.size 1 (.int .i64 b.n)) := Lib.hid ⟨at_ (hp_new rfl) 0 _ rfl, at_ (hp_new rfl) 1 _ rfl⟩
  go_enter Tryz.func138, Tryz.ntmps138
  go_wp2_with (refine wpList_make_full _ rfl (.tmp 9) (.tmp 9) _ rfl w.heap.size 109 j0 _ 8 Tryz.underlying48 hj gz0 gz1 .i64 .i64 _ _ n rfl rfl ?_ ?_ ?_ ?_ ?_ ?_)
  all_goals first
    | rfl
    | omega
    | (simp only [maxLen]; omega)
    | (rw [gz2]; omega)
    | (simp; done)
    | skip
  intro w1 hown hg
  have HO := Lib.hid hown
  have HG := Lib.hid hg
  clear hown hg
  go_wp2_with fail
  have hC : CrO w1 w.heap.size (w.heap.size + 1) n (List.replicate n zeroC) := by
    have h := HO.out
    have e := made_flat zeroC n
    unfold CrO
    rw [List.length_replicate, ← e]
    exact h
  have HC := Lib.hid hC
  have HB1 := Lib.hid (show Below w.heap.size w w1 from HB0.out.grown HG.out (by simp) (fun k hk => by cases hk))
  have HK1 := Lib.hid (show HoldAt w1 w.heap.size 0 (.int .i64 b.k) ∧ HoldAt w1 w.heap.size 1 (.int .i64 b.n) from ⟨⟨HG.out.cell HK.out.1.1 (fun e => by cases e), keep_none_f HG.out HK.out.1.1 HK.out.1.2⟩, ⟨HG.out.cell HK.out.2.1 (fun e => by cases e), keep_none_f HG.out HK.out.2.1 HK.out.2.2⟩⟩)
  have hsz := hC.lt.2
  clear hC HO HG
  go_loopw [13] (fun s13 wr => ∃ i : Nat, s13 = .int .i64 i ∧ i ≤ n ∧ CrO wr w.heap.size (w.heap.size + 1) n (List.replicate i (blankC b) ++ List.replicate (n - i) zeroC) ∧ Mod [w.heap.size + 1] w1 wr) (fun s13 _ => n - (intOf s13).toNat)
  case atStart => exact ⟨0, rfl, Nat.zero_le _, by simpa using HC.out, Mod.refl _ _⟩
  case round =>
    obtain ⟨i, rfl, hi, hO, hM⟩ := hrel
    have HO := Lib.hid hO
    have HM := Lib.hid hM
    have k0 := (hM.hold (by simp) HK1.out.1).1
    have k1 := (hM.hold (by simp) HK1.out.2).1
    clear hO hM
    by_cases hlt : i < n
    rotate_left
    · obtain rfl : i = n := by omega
      go_wp2
      go_ret
      refine ⟨w.heap.size + 1, i, by simp, ?_, HB1.out.trans (HM.out.below (fun x hx => by rw [List.mem_singleton.1 hx]; omega) HB1.out.size)⟩
      simpa using HO.out
    · have hltI : (i : Int) < (n : Int) := by omega
      go_wp2_with (first
        | (go_at_call 149; refine (HBL.out _).mono ?_; rintro e w3 ⟨rfl, hb⟩; have HB3 := Lib.hid hb; clear hb; have HTH := Lib.hid ((HO.out.below HB3.out).there (i := i) (by simp; omega)))
        | (refine wpList_store_mid (op := ⟨none, .store 109 (.tmp 20) (.tmp 19), _, _, _, _⟩) rfl 109 (.tmp 20) (.tmp 19) rfl (w.heap.size + 1) (i * 8) (encCl (blankC b)).toArray rfl rfl HTH.out info_cell (cl_one (blankC b)) ?_))
      obtain ⟨q1, q2⟩ := (HO.out.below HB3.out).set (i := i) (by simp; omega) (blankC b)
      rw [replicate_set hlt] at q1
      have Q1 := Lib.hid q1
      have Q2 := Lib.hid q2
      clear q1 q2
      go_roundw
      case rel => exact ⟨i + 1, by go_num, by omega, Q1.out, (HM.out.then_below HB3.out).trans Q2.out (fun k hk => .inl hk)⟩
      case measure => simp [intOf]; omega
end Go.Proofs.YtffdblmdelgkaaaGreat
namespace Go.Proofs.YtffdblmdelgkaaaGreat
open Go.RowKit
def putO (o : List Cl) (x r : Int) (a : Atr) : List Cl :=
  if widOf r = 1 ∧ 0 ≤ x ∧ x < o.length then o.set x.toNat (mkCl r ByteArray.empty 0 a)
  else if widOf r = 2 ∧ 0 ≤ x ∧ x + 1 < o.length then (o.set x.toNat (mkCl r ByteArray.empty 1 a)).set (x.toNat + 1) (mkCl r ByteArray.empty 2 a)
  else o
theorem putO_len (o : List Cl) (x r : Int) (a : Atr) : (putO o x r a).length = o.length := by
  unfold putO
  split
  · simp
  split
  · simp
  · rfl
theorem putL_O (l : List Cl) (x r : Int) (a : Atr) : mendL (putO (mendL l) x r a) = putL l x r a := by
  unfold putO putL
  simp only []
  split
  · rfl
  split
  · rfl
  · exact mendL_idem l
theorem wid_range (r : Int) : widOf r = -1 ∨ widOf r = 0 ∨ widOf r = 2 ∨ widOf r = 1 := by
  unfold widOf
  split
  · exact .inl rfl
  split
  · exact .inr (.inl rfl)
  split
  · exact .inr (.inr (.inl rfl))
  · exact .inr (.inr (.inr rfl))
def encAt (a : Atr) : List Value := [.int .i64 a.fk, .int .i64 a.fn, .int .i64 a.bk, .int .i64 a.bn, .int .i64 a.fl]
theorem info_attr : (Tryz.prog.info? 34).map (·.size) = some 5 := by kernel_rfl
theorem CrO.mend_post {w : World} {base g cap : Nat} {l : List Cl} (h : CrO w base g cap l) : MendPost base g cap l w (.returned (.tuple #[])) w := ⟨rfl, h, Mod.refl _ _⟩
set_option maxRecDepth 100000 in
set_option maxHeartbeats 3200000 in
theorem close1_any (base g cap : Nat) (o : List Cl) (w : World) (h : CrO w base g cap o) (h0 : 0 < o.length) (hz : o.length ≤ 10000) :
    Calls Tryz.prog 130 #[.slice (some ⟨g, 0, none⟩) o.length cap] w (MendPost base g cap (o.set (o.length - 1) padC) w) := by
  obtain ⟨n, hn⟩ : ∃ n, o.length = n + 1 := ⟨o.length - 1, by omega⟩
  have hpos : (0 : Int) < (o.length : Int) := by omega
  have hw : IntKind.i64.wrap ((o.length : Int) - 1) = (n : Int) := by rw [IntWalk.i64_in _ (by omega)]; omega
  have HTH := Lib.hid (h.there (i := n) (by omega))
  have HS := Lib.hid (h.set (i := n) (by omega) padC)
  have hnl : (n : Int) < (o.length : Int) := by omega
  have HN := Lib.hid hn
  clear h hn
  go_enter Tryz.func130, Tryz.ntmps130
  go_wp2_with (refine wpList_store_mid (op := ⟨none, .store 109 (.tmp 10) (.tmp 9), _, _, _, _⟩) rfl 109 (.tmp 10) (.tmp 9) rfl g (n * 8) (encCl padC).toArray rfl rfl HTH.out info_cell (cl_one padC) ?_)
  go_end0
  refine ⟨rfl, ?_, HS.out.2⟩
  have := HS.out.1
  rw [show o.length - 1 = n by have := HN.out; omega]
  exact this
end Go.Proofs.YtffdblmdelgkaaaGreat
namespace Go.Proofs.YtffdblmdelgkaaaGreat
open Go.RowKit
set_option maxRecDepth 100000 in
set_option maxHeartbeats 3200000 in
theorem put1_any (base g cap : Nat) (o : List Cl) (br bx ba : Nat) (x r : Int) (a : Atr) (w : World) (h : CrO w base g cap o) (hz : o.length ≤ 10000) (hr : w.cell? ⟨br, 0, none⟩ = some (.int .i32 r)) (hx : w.cell? ⟨bx, 0, none⟩ = some (.int .i64 x)) (ha : w.rangeAt ba 0 (encAt a))
    (hb1 : br < base) (hb2 : bx < base) (hb3 : ba < base) :
    Calls Tryz.prog 115 #[.slice (some ⟨g, 0, none⟩) o.length cap, .pointer (some ⟨br, 0, none⟩), .pointer (some ⟨bx, 0, none⟩), .pointer (some ⟨ba, 0, none⟩)] w (MendPost base g cap (putO o x r a) w) := by
  have HW := Lib.hid (fun w => widOf_any r w)
  have H := Lib.hid h
  have hgb := h.lt
  have HX := Lib.hid hx
  have HA := Lib.hid ha
  have HR := Lib.hid hr
  clear h ha
  have HV := Lib.hid (show putO o x r a = if widOf r = 1 ∧ 0 ≤ x ∧ x < o.length then o.set x.toNat (mkCl r ByteArray.empty 0 a) else if widOf r = 2 ∧ 0 ≤ x ∧ x + 1 < o.length then (o.set x.toNat (mkCl r ByteArray.empty 1 a)).set (x.toNat + 1) (mkCl r ByteArray.empty 2 a) else o from rfl)
  generalize putO o x r a = RES at HV
  have HWR := Lib.hid (wid_range r)
  generalize widOf r = wd at HW HV HWR
  by_cases hx0 : x < 0
  · go_enter Tryz.func115, Tryz.ntmps115
    go_wp2_with (go_at_call 116; refine (HW.out _).mono ?_; rintro e w1 ⟨rfl, hb⟩; have HB := Lib.hid hb; have hx' := holda hb HX.out; clear hx hr hb)
    go_end0
    rw [HV.out, if_neg (by omega), if_neg (by omega)]
    exact ⟨rfl, H.out.below HB.out, Mod.of_below HB.out⟩
  by_cases hw1 : wd < 1
  · go_enter Tryz.func115, Tryz.ntmps115
    go_wp2_with (go_at_call 116; refine (HW.out _).mono ?_; rintro e w1 ⟨rfl, hb⟩; have HB := Lib.hid hb; have hx' := holda hb HX.out; clear hx hr hb)
    go_end0
    rw [HV.out, if_neg (by omega), if_neg (by omega)]
    exact ⟨rfl, H.out.below HB.out, Mod.of_below HB.out⟩
  have hwI : IntKind.i64.wrap ((o.length : Int) - wd) = (o.length : Int) - wd := IntWalk.i64_in _ (by have := HWR.out; omega)
  by_cases hbig : (o.length : Int) - wd < x
  · go_enter Tryz.func115, Tryz.ntmps115
    go_wp2_with (go_at_call 116; refine (HW.out _).mono ?_; rintro e w1 ⟨rfl, hb⟩; have HB := Lib.hid hb; have hx' := holda hb HX.out; clear hx hr hb)
    go_end0
    rw [HV.out, if_neg (by omega), if_neg (by omega)]
    exact ⟨rfl, H.out.below HB.out, Mod.of_below HB.out⟩
  obtain ⟨k, hk⟩ : ∃ k : Nat, x = (k : Int) := ⟨x.toNat, by omega⟩
  subst hk
  obtain ⟨fk, fn, bk, bn, fl⟩ := a
  clear hwI
  have hxl : (k : Int) + wd ≤ (o.length : Int) := by omega
  rcases HWR.out with hw | hw | hw | hw
  · omega
  · omega
  · subst hw
    obtain ⟨j, hj⟩ : ∃ j : Nat, j = k + 1 := ⟨_, rfl⟩
    have hkk : (k : Int) + 1 = (j : Int) := by omega
    have hwj : IntKind.i64.wrap (j : Int) = (j : Int) := IntWalk.i64_in _ (by omega)
    have hkl : (j : Int) < (o.length : Int) := by omega
    have hkl2 : (k : Int) < (o.length : Int) := by omega
    have hkl3 : j < o.length := by omega
    have hkl4 : k < o.length := by omega
    have HJ := Lib.hid hj
    clear hj
    have HK := Lib.hid (show 0 ≤ (k : Int) ∧ (k : Int) + 1 < (o.length : Int) from by omega)
    have hw2 : IntKind.i64.wrap ((o.length : Int) - 2) = (o.length : Int) - 2 := IntWalk.i64_in _ (by omega)
    have htn : ((k : Int)).toNat = k := by omega
    have HTN := Lib.hid htn
    clear htn
    clear HWR
    go_enter Tryz.func115, Tryz.ntmps115
    go_upto_region 4 with (first
      | (go_at_call 116; refine (HW.out _).mono ?_; rintro e w1 ⟨rfl, hb⟩; have HB := Lib.hid hb; have hx' := holda hb HX.out; have hr' := holda hb HR.out; have HA1 := range_below HA.out hb
         have a0 := HA1 0 _ rfl; have a1 := HA1 1 _ rfl; have a2 := HA1 2 _ rfl; have a3 := HA1 3 _ rfl; have a4 := HA1 4 _ rfl; have l1 := lt_of_cell hx'; have l2 := lt_of_cell hr'; have l3 := lt_of_cell a0; clear HA1 hx hr hb)
      | fail)
    generalize hW2 : World.alloc _ _ = W2
    have hb2 : Below w1.heap.size w1 W2 := by rw [← hW2]; exact below_allocs (Below.refl _ _) _
    have hc2 : W2.heap[w1.heap.size]? = some (.cells (encCl (mkCl r ByteArray.empty 0 ⟨fk, fn, bk, bn, fl⟩)).toArray 109 (0, 0)) := by rw [← hW2]; exact hp_new rfl
    have x2 := holda hb2 hx'
    obtain ⟨y2, y2f⟩ := whole_at hc2 2 _ rfl
    have HB2 := Lib.hid (below_tail HB.out (below_set hb2 (Nat.le_refl _) (o := 2) (.int .i64 2)))
    have HC2 := Lib.hid (whole_set hc2 2 (.int .i64 2) (cs' := encCl (mkCl r ByteArray.empty 2 ⟨fk, fn, bk, bn, fl⟩)) rfl)
    have X2 := Lib.hid (show (W2.setCell ⟨w1.heap.size, 2, none⟩ (.int .i64 2)).cell? ⟨bx, 0, none⟩ = some (.int .i64 k) from (World.cell?_setCell_other _ _ _ _ (fun e => by injection e with e1 e2; omega)).trans x2)
    clear hW2 hb2 hc2 hx' hr' a0 a1 a2 a3 a4 l2 l3 l1
    go_upto_region 5 with fail
    generalize World.setCell _ _ _ = W3 at HB2 HC2 X2 ⊢
    have x3 := X2.out
    have HTH := Lib.hid ((H.out.below HB2.out).there (i := j) (by omega))
    have HS := Lib.hid ((H.out.below HB2.out).set (i := j) (by omega) (mkCl r ByteArray.empty 2 ⟨fk, fn, bk, bn, fl⟩))
    clear X2 x2 y2 y2f
    refine wp_region_lit ?_
    refine wpList_valG (.slice (some ⟨g, 0, none⟩) o.length cap) (by rfl) (by rfl) ?_
    simp only [Act.put, List.setIfInBounds_toArray, List.set_cons_zero, List.set_cons_succ]
    refine wpList_valG (.int .i64 (k : Int)) (by rfl) (by go_simp) ?_
    simp only [Act.put, List.setIfInBounds_toArray, List.set_cons_zero, List.set_cons_succ]
    refine wpList_valG (.int .i64 (j : Int)) (by rfl) (by go_simp) ?_
    simp only [Act.put, List.setIfInBounds_toArray, List.set_cons_zero, List.set_cons_succ]
    refine load_mid_g (by rfl) 109 (.tmp 6) rfl (w1.heap.size) (0) rfl (encCl (mkCl r ByteArray.empty 2 ⟨fk, fn, bk, bn, fl⟩)) _ (range_new HC2.out) Tryz.underlying109 rfl info_cell ?_
    simp only [Act.put, List.setIfInBounds_toArray, List.set_cons_zero, List.set_cons_succ]
    refine wpList_valG (.pointer (some ⟨g, j * 8, none⟩)) (by rfl) (by go_simp) ?_
    simp only [Act.put, List.setIfInBounds_toArray, List.set_cons_zero, List.set_cons_succ]
    refine wpList_store_mid rfl 109 (.tmp 33) (.tmp 32) rfl (g) (j * 8) ((encCl (mkCl r ByteArray.empty 2 ⟨fk, fn, bk, bn, fl⟩)).toArray) rfl rfl (HTH.out) info_cell (cl_one _) ?_
    simp only [Act.put]
    have hne : g ≠ w1.heap.size := by have := HB.out.size; omega
    have HC3 : Hid ((W3.setCells g (j * 8) (encCl (mkCl r ByteArray.empty 2 ⟨fk, fn, bk, bn, fl⟩))).heap[w1.heap.size]? = some (.cells (encCl (mkCl r ByteArray.empty 2 ⟨fk, fn, bk, bn, fl⟩)).toArray 109 (0, 0))) := Lib.hid ((HS.out.2.block _ (Array.getElem?_eq_some_iff.1 HC2.out).1 (by simp; omega)).trans HC2.out)
    have x4 : (W3.setCells g (j * 8) (encCl (mkCl r ByteArray.empty 2 ⟨fk, fn, bk, bn, fl⟩))).cell? ⟨bx, 0, none⟩ = some (.int .i64 k) := HS.out.2.cell (by simp; omega) x3
    change wpList _ _ _ _ _ (W3.setCells g (j * 8) (encCl (mkCl r ByteArray.empty 2 ⟨fk, fn, bk, bn, fl⟩)))
    generalize W3.setCells g (j * 8) (encCl (mkCl r ByteArray.empty 2 ⟨fk, fn, bk, bn, fl⟩)) = W4 at HS HC3 x4 ⊢
    obtain ⟨y4, y4f⟩ := whole_at HC3.out 2 _ rfl
    clear x3
    go_upto_region 7 with fail
    have l1 := lt_of_cell x4
    have HC5 := Lib.hid (whole_set HC3.out 2 (.int .i64 1) (cs' := encCl (mkCl r ByteArray.empty 1 ⟨fk, fn, bk, bn, fl⟩)) rfl)
    have HM5 : Hid (Mod [g] w (W4.setCell ⟨w1.heap.size, 2, none⟩ (.int .i64 1))) := Lib.hid (((Mod.of_below HB2.out).trans HS.out.2 (fun b hb => .inl hb)).setCell (a := ⟨w1.heap.size, 2, none⟩) (.inr HB.out.size) _)
    have HO5 : Hid (CrO (W4.setCell ⟨w1.heap.size, 2, none⟩ (.int .i64 1)) base g cap (o.set j (mkCl r ByteArray.empty 2 ⟨fk, fn, bk, bn, fl⟩))) := Lib.hid (HS.out.1.mod ((Mod.refl [w1.heap.size] W4).setCell (a := ⟨w1.heap.size, 2, none⟩) (.inl (by simp)) _) (by simp; omega))
    have X5 : Hid ((W4.setCell ⟨w1.heap.size, 2, none⟩ (.int .i64 1)).cell? ⟨bx, 0, none⟩ = some (.int .i64 k)) := Lib.hid ((World.cell?_setCell_other _ _ _ _ (fun e => by injection e with e1 e2; have := HB.out.size; omega)).trans x4)
    generalize World.setCell _ _ _ = W5 at HC5 HM5 HO5 X5 ⊢
    have x5 := X5.out
    have HTH5 := Lib.hid (HO5.out.there (i := k) (by simp; omega))
    have HS5 := Lib.hid (HO5.out.set (i := k) (by simp; omega) (mkCl r ByteArray.empty 1 ⟨fk, fn, bk, bn, fl⟩))
    clear X5 x4 y4 y4f HTH
    refine wp_region_lit ?_
    refine wpList_valG (.slice (some ⟨g, 0, none⟩) o.length cap) (by rfl) (by rfl) ?_
    simp only [Act.put, List.setIfInBounds_toArray, List.set_cons_zero, List.set_cons_succ]
    refine wpList_valG (.int .i64 (k : Int)) (by rfl) (by go_simp) ?_
    simp only [Act.put, List.setIfInBounds_toArray, List.set_cons_zero, List.set_cons_succ]
    refine load_mid_g (by rfl) 109 (.tmp 6) rfl (w1.heap.size) (0) rfl (encCl (mkCl r ByteArray.empty 1 ⟨fk, fn, bk, bn, fl⟩)) _ (range_new HC5.out) Tryz.underlying109 rfl info_cell ?_
    simp only [Act.put, List.setIfInBounds_toArray, List.set_cons_zero, List.set_cons_succ]
    refine wpList_valG (.pointer (some ⟨g, k * 8, none⟩)) (by rfl) (by go_simp) ?_
    simp only [Act.put, List.setIfInBounds_toArray, List.set_cons_zero, List.set_cons_succ]
    refine wpList_store_mid rfl 109 (.tmp 38) (.tmp 37) rfl (g) (k * 8) ((encCl (mkCl r ByteArray.empty 1 ⟨fk, fn, bk, bn, fl⟩)).toArray) rfl rfl (HTH5.out) info_cell (cl_one _) ?_
    go_wp2
    go_end0
    rw [HV.out, if_neg (by simp), if_pos (by first | exact ⟨rfl, HK.out⟩ | exact ⟨trivial, HK.out⟩), HTN.out, List.set_comm _ _ (by omega), ← HJ.out]
    refine ⟨rfl, ?_, HM5.out.trans HS5.out.2 (fun b hb => .inl hb)⟩
    have := HS5.out.1
    unfold CrO at this ⊢
    simpa using this
  · subst hw
    have hkl : (k : Int) < (o.length : Int) := by omega
    have HK := Lib.hid (show 0 ≤ (k : Int) ∧ (k : Int) < (o.length : Int) from by omega)
    have hw2 : IntKind.i64.wrap ((o.length : Int) - 1) = (o.length : Int) - 1 := IntWalk.i64_in _ (by omega)
    clear HWR
    go_enter Tryz.func115, Tryz.ntmps115
    go_upto_region 7 with (first
      | (go_at_call 116; refine (HW.out _).mono ?_; rintro e w1 ⟨rfl, hb⟩; have HB := Lib.hid hb; have hx' := holda hb HX.out; have hr' := holda hb HR.out; have HA1 := range_below HA.out hb
         have a0 := HA1 0 _ rfl; have a1 := HA1 1 _ rfl; have a2 := HA1 2 _ rfl; have a3 := HA1 3 _ rfl; have a4 := HA1 4 _ rfl; have l1 := lt_of_cell hx'; have l2 := lt_of_cell hr'; have l3 := lt_of_cell a0; clear HA1 hx hr hb)
      | fail)
    generalize hW2 : World.alloc _ _ = W2
    have hb2 : Below w1.heap.size w1 W2 := by rw [← hW2]; exact below_allocs (Below.refl _ _) _
    have hc2 : W2.heap[w1.heap.size]? = some (.cells (encCl (mkCl r ByteArray.empty 0 ⟨fk, fn, bk, bn, fl⟩)).toArray 109 (0, 0)) := by rw [← hW2]; exact hp_new rfl
    have HB2 := Lib.hid (below_tail HB.out hb2)
    have HC2 := Lib.hid hc2
    have x2 := holda hb2 hx'
    have HTH := Lib.hid ((H.out.below HB2.out).there (i := k) (by omega))
    have HS := Lib.hid ((H.out.below HB2.out).set (i := k) (by omega) (mkCl r ByteArray.empty 0 ⟨fk, fn, bk, bn, fl⟩))
    clear hW2 hb2 hc2 hx' hr' a0 a1 a2 a3 a4 l1 l2 l3
    refine wp_region_lit ?_
    refine wpList_valG (.slice (some ⟨g, 0, none⟩) o.length cap) (by rfl) (by rfl) ?_
    simp only [Act.put, List.setIfInBounds_toArray, List.set_cons_zero, List.set_cons_succ]
    refine wpList_valG (.int .i64 (k : Int)) (by rfl) (by go_simp) ?_
    simp only [Act.put, List.setIfInBounds_toArray, List.set_cons_zero, List.set_cons_succ]
    refine load_mid_g (by rfl) 109 (.tmp 6) rfl w1.heap.size 0 rfl (encCl (mkCl r ByteArray.empty 0 ⟨fk, fn, bk, bn, fl⟩)) _ (range_new HC2.out) Tryz.underlying109 rfl info_cell ?_
    simp only [Act.put, List.setIfInBounds_toArray, List.set_cons_zero, List.set_cons_succ]
    refine wpList_valG (.pointer (some ⟨g, k * 8, none⟩)) (by rfl) (by go_simp) ?_
    simp only [Act.put, List.setIfInBounds_toArray, List.set_cons_zero, List.set_cons_succ]
    refine wpList_store_mid rfl 109 (.tmp 38) (.tmp 37) rfl g (k * 8) (encCl (mkCl r ByteArray.empty 0 ⟨fk, fn, bk, bn, fl⟩)).toArray rfl rfl HTH.out info_cell (cl_one _) ?_
    go_wp2
    go_end0
    rw [HV.out, if_pos (by first | exact ⟨rfl, HK.out⟩ | exact ⟨trivial, HK.out⟩)]
    exact ⟨rfl, HS.out.1, (Mod.of_below HB2.out).trans HS.out.2 (fun b hb => .inl hb)⟩
end Go.Proofs.YtffdblmdelgkaaaGreat

namespace Go.Proofs.YtffdblmdelgkaaaGreat
open Go.RowKit
theorem flat_take {α : Type} {enc : α → List Value} {K : Nat} (hl : ∀ x, (enc x).length = K) : ∀ (l : List α) (k : Nat), (flat enc l).take (k * K) = flat enc (l.take k)
  | [], k => by simp [flat]
  | x :: l, 0 => by simp [flat]
  | x :: l, k + 1 => by
    have e : flat enc (x :: l) = enc x ++ flat enc l := rfl
    have e2 : flat enc ((x :: l).take (k + 1)) = enc x ++ flat enc (l.take k) := rfl
    rw [e, e2, ← flat_take hl l k, List.take_append, List.take_of_length_le (by rw [hl, Nat.add_mul]; omega), hl, show (k + 1) * K - K = k * K by rw [Nat.add_mul]; omega]
theorem flat_drop {α : Type} {enc : α → List Value} {K : Nat} (hl : ∀ x, (enc x).length = K) : ∀ (l : List α) (k : Nat), (flat enc l).drop (k * K) = flat enc (l.drop k)
  | [], k => by simp [flat]
  | x :: l, 0 => by simp
  | x :: l, k + 1 => by
    have e : flat enc (x :: l) = enc x ++ flat enc l := rfl
    have e2 : flat enc ((x :: l).drop (k + 1)) = flat enc (l.drop k) := rfl
    rw [e, e2, ← flat_drop hl l k, List.drop_append, List.drop_eq_nil_of_le (by rw [hl, Nat.add_mul]; omega), hl, show (k + 1) * K - K = k * K by rw [Nat.add_mul]; omega, List.nil_append]
theorem CrO.setMany {w : World} {base g cap : Nat} {l : List Cl} (h : CrO w base g cap l) (off : Nat) (cs : List Cl) (hi : off + cs.length ≤ l.length) :
    CrO (w.setCells g (off * 8) (flat encCl cs)) base g cap (l.take off ++ cs ++ l.drop (off + cs.length)) ∧ Mod [g] w (w.setCells g (off * 8) (flat encCl cs)) := by
  refine ⟨?_, mod_setCellsN (.inl (by simp)) _ _ _ (Mod.refl _ _)⟩
  have h1 := owns_setCells (flat encCl cs) (off * 8) (flat encCl l) w h (by rw [flat_len encCl_len, flat_len encCl_len]; omega)
  have hlen : (l.take off ++ cs ++ l.drop (off + cs.length)).length = l.length := by simp; omega
  unfold CrO
  rw [hlen]
  rw [flat_take encCl_len, flat_len encCl_len, show off * 8 + cs.length * 8 = (off + cs.length) * 8 by omega, flat_drop encCl_len, ← flat_append, ← flat_append, ← List.append_assoc] at h1
  exact h1
def wipeO (o : List Cl) (off n : Nat) (b : Col) : List Cl := o.take off ++ List.replicate n (blankC b) ++ o.drop (off + n)
theorem wipeO_len {o : List Cl} {off n : Nat} (b : Col) (h : off + n ≤ o.length) : (wipeO o off n b).length = o.length := by unfold wipeO; simp; omega
theorem wipeO_succ {o : List Cl} {off i : Nat} {b : Col} (h : off + i < o.length) : (wipeO o off i b).set (off + i) (blankC b) = wipeO o off (i + 1) b := by
  unfold wipeO
  rw [List.set_append_right _ _ (by simp; omega), List.length_append, List.length_take, List.length_replicate, show off + i - (min off o.length + i) = 0 by omega]
  rw [List.drop_eq_getElem_cons h, List.set_cons_zero, List.replicate_succ', List.append_assoc, List.append_assoc, List.append_assoc]
  simp [Nat.add_assoc]
set_option maxRecDepth 100000 in
set_option maxHeartbeats 3200000 in
theorem cwipe_any (base g cap off n c : Nat) (o : List Cl) (b : Col) (w : World) (h : CrO w base g cap o) (hn : off + n ≤ o.length) (hz : o.length ≤ 10000) :
    Calls Tryz.prog 125 #[.slice (some ⟨g, off * 8, none⟩) n c, .agg #[.int .i64 b.k, .int .i64 b.n]] w (MendPost base g cap (wipeO o off n b) w) := by
  have hnle : off + n ≤ o.length := hn
  have HL := Lib.hid hn
  have HZ := Lib.hid hz
  have HBL := Lib.hid (fun w => cblank_any b w)
  have HB0 := Lib.hid (below_allocs (Below.refl w.heap.size w) (.cells #[.int .i64 b.k, .int .i64 b.n] 32))
  have HK : Hid (HoldAt (w.alloc (.cells #[.int .i64 b.k, .int .i64 b.n] 32)) w.heap.size 0 (.int .i64 b.k) ∧ HoldAt (w.alloc (.cells #[.int .i64 b.k, .int .i64 b.n] 32)) w.heap.size 1 (.int .i64 b.n)) := Lib.hid ⟨at_ (hp_new rfl) 0 _ rfl, at_ (hp_new rfl) 1 _ rfl⟩
  have HO := Lib.hid (h.below HB0.out)
  have hg := h.lt.2
  clear h hn hnle hz
  go_enter Tryz.func125, Tryz.ntmps125
  go_wp2_with fail
  generalize World.alloc _ _ = W at HB0 HK HO ⊢
  go_loopw [7] (fun s7 wr => ∃ i : Nat, s7 = .int .i64 i ∧ i ≤ n ∧ CrO wr base g cap (wipeO o off i b) ∧ Mod [g] W wr) (fun s7 _ => n - (intOf s7).toNat)
  case atStart => exact ⟨0, rfl, Nat.zero_le _, by have := HO.out; unfold wipeO; simpa using this, Mod.refl _ _⟩
  case round =>
    obtain ⟨i, rfl, hi, hO, hM⟩ := hrel
    have HOi := Lib.hid hO
    have HM := Lib.hid hM
    obtain ⟨k0, -⟩ := hM.hold (by simp; omega) HK.out.1
    obtain ⟨k1, -⟩ := hM.hold (by simp; omega) HK.out.2
    clear hO hM
    by_cases hlt : i < n
    rotate_left
    · obtain rfl : i = n := by omega
      go_wp2
      go_end0
      exact ⟨rfl, HOi.out, (Mod.of_below HB0.out).trans HM.out (fun b hb => .inl hb)⟩
    · have hltI : (i : Int) < (n : Int) := by omega
      have hw : IntKind.i64.wrap ((i : Int) + 1) = (i : Int) + 1 := IntWalk.i64_in _ (by have := HL.out; have := HZ.out; omega)
      go_wp2_with (first
        | (go_at_call 149; refine (HBL.out _).mono ?_; rintro e w3 ⟨rfl, hb⟩; have HB3 := Lib.hid hb; clear hb; have HTH := Lib.hid ((HOi.out.below HB3.out).there (i := off + i) (by rw [wipeO_len b (by have := HL.out; omega)]; have := HL.out; omega)))
        | (refine wpList_store_mid (op := ⟨none, .store 109 (.tmp 14) (.tmp 13), _, _, _, _⟩) rfl 109 (.tmp 14) (.tmp 13) rfl g ((off + i) * 8) (encCl (blankC b)).toArray (by rw [Nat.add_mul]; rfl) rfl HTH.out info_cell (cl_one (blankC b)) ?_))
      obtain ⟨q1, q2⟩ := (HOi.out.below HB3.out).set (i := off + i) (by rw [wipeO_len b (by have := HL.out; omega)]; have := HL.out; omega) (blankC b)
      rw [wipeO_succ (by have := HL.out; omega)] at q1
      have Q1 := Lib.hid q1
      have Q2 := Lib.hid q2
      clear q1 q2
      go_roundw
      case rel => exact ⟨i + 1, by go_num, by omega, Q1.out, (HM.out.then_below HB3.out).trans Q2.out (fun k hk => .inl hk)⟩
      case measure => simp [intOf]; omega
end Go.Proofs.YtffdblmdelgkaaaGreat
namespace Go.Proofs.YtffdblmdelgkaaaGreat
open Go.RowKit
def eraseO (o : List Cl) (x y : Int) (b : Col) : List Cl := if max 0 x < min y o.length then wipeO o (max 0 x).toNat (min y o.length - max 0 x).toNat b else o
theorem wipeL_O (o : List Cl) (x y : Int) (b : Col) : wipeL b x y o = eraseO o x y b := by
  unfold wipeL eraseO
  split
  · next h =>
    refine List.ext_getElem? fun i => ?_
    rw [List.getElem?_mapIdx]
    unfold wipeO
    rcases Nat.lt_or_ge i o.length with hi | hi
    · rw [List.getElem?_eq_getElem hi]
      simp only [Option.map_some]
      by_cases h1 : (i : Int) < max 0 x
      · rw [if_neg (by omega), List.append_assoc, List.getElem?_append_left (by rw [List.length_take]; omega), List.getElem?_take, if_pos (by omega), List.getElem?_eq_getElem hi]
      · by_cases h2 : (i : Int) < min y o.length
        · rw [if_pos (by omega), List.getElem?_append_left (by rw [List.length_append, List.length_take, List.length_replicate]; omega), List.getElem?_append_right (by rw [List.length_take]; omega), List.getElem?_replicate, if_pos (by rw [List.length_take]; omega)]
        · rw [if_neg (by omega), List.getElem?_append_right (by rw [List.length_append, List.length_take, List.length_replicate]; omega), List.length_append, List.length_take, List.length_replicate, List.getElem?_drop, ← List.getElem?_eq_getElem hi]
          congr 1
          omega
    · rw [List.getElem?_eq_none hi, List.getElem?_eq_none (by simp; omega)]; rfl
  · next h =>
    refine List.ext_getElem? fun i => ?_
    rw [List.getElem?_mapIdx]
    rcases Nat.lt_or_ge i o.length with hi | hi
    · rw [List.getElem?_eq_getElem hi]
      simp only [Option.map_some]
      rw [if_neg (by omega)]
    · rw [List.getElem?_eq_none hi]; rfl
theorem eraseO_len (o : List Cl) (x y : Int) (b : Col) : (eraseO o x y b).length = o.length := by
  rw [← wipeL_O]; unfold wipeL; simp
def insertO (o : List Cl) (x n : Int) (b : Col) : List Cl :=
  if x < 0 ∨ (o.length : Int) ≤ x ∨ n < 1 then o
  else wipeO (o.take (x.toNat + (min n (o.length - x)).toNat) ++ (o.drop x.toNat).take (o.length - (x.toNat + (min n (o.length - x)).toNat))) x.toNat (min n (o.length - x)).toNat b
theorem insertL_O (l : List Cl) (x n : Int) (b : Col) : mendL (insertO (mendL l) x n b) = insertL l x n b := by
  unfold insertO insertL
  simp only []
  generalize hm : mendL l = o
  split
  · rw [← hm]; exact mendL_idem l
  · next h =>
    congr 1
    refine List.ext_getElem? fun i => ?_
    unfold wipeO
    obtain ⟨k, rfl⟩ : ∃ k : Nat, x = k := ⟨x.toNat, by omega⟩
    obtain ⟨m, rfl⟩ : ∃ m : Nat, n = m := ⟨n.toNat, by omega⟩
    obtain ⟨q, hq⟩ : ∃ q : Nat, q = min m (o.length - k) := ⟨_, rfl⟩
    have e1 : (min (m : Int) ((o.length : Int) - k)).toNat = q := by omega
    rw [e1]
    simp only [Int.toNat_natCast]
    simp only [List.getElem?_take, List.append_assoc, List.getElem?_append, List.length_append, List.length_take, List.length_replicate, List.getElem?_replicate, List.getElem?_drop, List.length_drop]
    repeat' split
    all_goals first
      | rfl
      | (congr 1; omega)
      | (exfalso; omega)
      | (rw [List.getElem?_eq_none (by omega)])
      | skip
    all_goals first
      | omega
      | (symm; rw [List.getElem?_eq_none (by omega)])
      | skip
def deleteO (o : List Cl) (x n : Int) (b : Col) : List Cl :=
  if x < 0 ∨ (o.length : Int) ≤ x ∨ n < 1 then o
  else wipeO (o.take x.toNat ++ o.drop (x.toNat + (min n (o.length - x)).toNat) ++ o.drop (o.length - (min n (o.length - x)).toNat)) (o.length - (min n (o.length - x)).toNat) (min n (o.length - x)).toNat b
theorem deleteL_O (l : List Cl) (x n : Int) (b : Col) : mendL (deleteO (mendL l) x n b) = deleteL l x n b := by
  unfold deleteO deleteL
  simp only []
  generalize hm : mendL l = o
  split
  · rw [← hm]; exact mendL_idem l
  · next h =>
    congr 1
    refine List.ext_getElem? fun i => ?_
    unfold wipeO
    obtain ⟨k, rfl⟩ : ∃ k : Nat, x = k := ⟨x.toNat, by omega⟩
    obtain ⟨m, rfl⟩ : ∃ m : Nat, n = m := ⟨n.toNat, by omega⟩
    obtain ⟨q, hq⟩ : ∃ q : Nat, q = min m (o.length - k) := ⟨_, rfl⟩
    have e1 : (min (m : Int) ((o.length : Int) - k)).toNat = q := by omega
    rw [e1]
    simp only [Int.toNat_natCast]
    simp only [List.getElem?_take, List.append_assoc, List.getElem?_append, List.length_append, List.length_take, List.length_replicate, List.getElem?_replicate, List.getElem?_drop, List.length_drop]
    repeat' split
    all_goals first
      | rfl
      | (congr 1; omega)
      | (exfalso; omega)
      | (rw [List.getElem?_eq_none (by omega)])
      | skip
    all_goals first
      | omega
      | (symm; rw [List.getElem?_eq_none (by omega)])
      | skip
theorem insertO_len (o : List Cl) (x n : Int) (b : Col) : (insertO o x n b).length = o.length := by
  unfold insertO
  split
  · rfl
  · have e : (o.take (x.toNat + (min n (o.length - x)).toNat) ++ (o.drop x.toNat).take (o.length - (x.toNat + (min n (o.length - x)).toNat))).length = o.length := by simp; omega
    rw [wipeO_len b (by rw [e]; omega), e]
theorem deleteO_len (o : List Cl) (x n : Int) (b : Col) : (deleteO o x n b).length = o.length := by
  unfold deleteO
  split
  · rfl
  · have e : (o.take x.toNat ++ o.drop (x.toNat + (min n (o.length - x)).toNat) ++ o.drop (o.length - (min n (o.length - x)).toNat)).length = o.length := by simp; omega
    rw [wipeO_len b (by rw [e]; omega), e]
end Go.Proofs.YtffdblmdelgkaaaGreat
namespace Go.Proofs.YtffdblmdelgkaaaGreat
open Go.RowKit
set_option maxRecDepth 100000 in
set_option maxHeartbeats 3200000 in
theorem erase1_any (base g cap : Nat) (o : List Cl) (bx bz bb : Nat) (x y : Int) (b : Col) (w : World) (h : CrO w base g cap o) (hz : o.length ≤ 10000) (hx : w.cell? ⟨bx, 0, none⟩ = some (.int .i64 x)) (hy : w.cell? ⟨bz, 0, none⟩ = some (.int .i64 y))
    (hk : w.cell? ⟨bb, 0, none⟩ = some (.int .i64 b.k)) (hn : w.cell? ⟨bb, 1, none⟩ = some (.int .i64 b.n)) :
    Calls Tryz.prog 124 #[.slice (some ⟨g, 0, none⟩) o.length cap, .pointer (some ⟨bx, 0, none⟩), .pointer (some ⟨bz, 0, none⟩), .pointer (some ⟨bb, 0, none⟩)] w (MendPost base g cap (eraseO o x y b) w) := by
  have H := Lib.hid h
  have hgb := h.lt
  have hcap : o.length ≤ cap := by
    rcases h.2 with ⟨e, -⟩ | ⟨g', c', cur, e, _, _, hc, _⟩
    · cases e
    · simp only [Value.slice.injEq] at e; omega
  clear h
  obtain ⟨X, hX⟩ : ∃ X, (if 0 < x then x else 0) = X := ⟨_, rfl⟩
  obtain ⟨Y, hY⟩ : ∃ Y, (if (o.length : Int) < y then (o.length : Int) else y) = Y := ⟨_, rfl⟩
  have hX2 : max 0 x = X := by rw [← hX]; omega
  have hY2 : min y (o.length : Int) = Y := by rw [← hY]; omega
  have HV := Lib.hid (show eraseO o x y b = if X < Y then wipeO o X.toNat (Y - X).toNat b else o from by rw [← hX2, ← hY2]; rfl)
  generalize eraseO o x y b = RES at HV
  have hX0 : 0 ≤ X := by omega
  have hYl : Y ≤ (o.length : Int) := by omega
  clear hX2 hY2
  by_cases hlt : X < Y
  rotate_left
  · go_enter Tryz.func124, Tryz.ntmps124
    go_upto_region 0 with fail
    refine wp_region_u 7 (fun w' => Below w.heap.size w w' ∧ w'.cell? ⟨bx, 0, none⟩ = some (.int .i64 x) ∧ w'.cell? ⟨bz, 0, none⟩ = some (.int .i64 y)) (by kernel_rfl) (by kernel_rfl) ?_ ?_
    · exact ⟨(Below.refl _ _).drew, hx, hy⟩
    simp only [List.take_succ_cons, List.take_zero, List.drop_succ_cons, List.drop_zero]
    repeat (first
      | (refine seqU_skip (by rfl) ?_; simp only [Act.put, List.setIfInBounds_toArray, List.set_cons_zero, List.set_cons_succ])
      | (refine seqU_val ?_ (by rfl) ?_ ?_; rotate_left; · (intro w' hS; obtain ⟨_, _, _⟩ := hS; go_simp; first | done | with_reducible rfl)
         simp only [Act.put, List.setIfInBounds_toArray, List.set_cons_zero, List.set_cons_succ]))
    refine seqU_nil (fun w' hS => ?_)
    have HB1 := Lib.hid hS.1
    clear hS hx hy
    go_wp2
    go_end0
    rw [HV.out, if_neg (by omega)]
    exact ⟨rfl, H.out.below HB1.out, Mod.of_below HB1.out⟩
  · obtain ⟨k, rfl⟩ : ∃ k : Nat, X = (k : Int) := ⟨X.toNat, by omega⟩
    obtain ⟨m, rfl⟩ : ∃ m : Nat, Y = (m : Int) := ⟨Y.toNat, by omega⟩
    have hml : m ≤ o.length := by omega
    have hkmN : k < m := by omega
    have HL := Lib.hid (And.intro hml hkmN)
    go_enter Tryz.func124, Tryz.ntmps124
    go_upto_region 0 with fail
    refine wp_region_u 7 (fun w' => Below w.heap.size w w' ∧ w'.cell? ⟨bx, 0, none⟩ = some (.int .i64 x) ∧ w'.cell? ⟨bz, 0, none⟩ = some (.int .i64 y)) (by kernel_rfl) (by kernel_rfl) ?_ ?_
    · exact ⟨(Below.refl _ _).drew, hx, hy⟩
    simp only [List.take_succ_cons, List.take_zero, List.drop_succ_cons, List.drop_zero]
    repeat (first
      | (refine seqU_skip (by rfl) ?_; simp only [Act.put, List.setIfInBounds_toArray, List.set_cons_zero, List.set_cons_succ])
      | (refine seqU_val ?_ (by rfl) ?_ ?_; rotate_left; · (intro w' hS; obtain ⟨_, _, _⟩ := hS; go_simp; first | done | with_reducible rfl)
         simp only [Act.put, List.setIfInBounds_toArray, List.set_cons_zero, List.set_cons_succ]))
    refine seqU_nil (fun w' hS => ?_)
    have HB1 := Lib.hid hS.1
    have hk1 := holda hS.1 hk
    have hn1 := holda hS.1 hn
    clear hS hx hy hk hn
    go_upto_region 2 with fail
    clear hX hY
    have hc1 : m ≤ cap := by omega
    have hc2 : k ≤ m := by omega
    have hc3 : ¬ cap = k := by omega
    have hm8 : (m : Int) - (k : Int) = ((m - k : Nat) : Int) := by omega
    refine wp_region_u 5 (fun w2 => Below w'.heap.size w' w2 ∧ w2.cell? ⟨bb, 0, none⟩ = some (.int .i64 b.k) ∧ w2.cell? ⟨bb, 1, none⟩ = some (.int .i64 b.n)) (by kernel_rfl) (by kernel_rfl) ?_ ?_
    · exact ⟨(Below.refl _ _).drew, hk1, hn1⟩
    simp only [List.take_succ_cons, List.take_zero, List.drop_succ_cons, List.drop_zero]
    repeat (first
      | (refine seqU_skip (by rfl) ?_; simp only [Act.put, List.setIfInBounds_toArray, List.set_cons_zero, List.set_cons_succ])
      | (refine seqU_val ?_ (by rfl) ?_ ?_; rotate_left; · (intro w' hS; obtain ⟨_, _, _⟩ := hS; go_simp; first | done | with_reducible rfl)
         simp only [Act.put, List.setIfInBounds_toArray, List.set_cons_zero, List.set_cons_succ]))
    refine seqU_nil (fun w' hS => ?_)
    have HB2 := Lib.hid (below_tail HB1.out hS.1)
    have HWP := Lib.hid (cwipe_any base g cap k (m - k) (cap - k) o b _ (H.out.below HB2.out) (by omega) hz)
    have HM := Lib.hid hm8
    clear hS hk1 hn1 hc1 hc2 hc3 hm8
    go_wp2_with (go_at_call 125; refine HWP.out.mono ?_; rintro e w3 ⟨rfl, hc, hm⟩)
    go_end0
    rw [HV.out, if_pos (by omega), HM.out]
    exact ⟨rfl, hc, (Mod.of_below HB2.out).trans hm (fun b hb => .inl hb)⟩
end Go.Proofs.YtffdblmdelgkaaaGreat
namespace Go.Proofs.YtffdblmdelgkaaaGreat
open Go.RowKit
theorem CrO.cap {w : World} {base g cap : Nat} {o : List Cl} (h : CrO w base g cap o) : o.length ≤ cap := by
  rcases h.2 with ⟨e, -⟩ | ⟨g', c', cur, e, _, _, hc, _⟩
  · cases e
  · simp only [Value.slice.injEq] at e; omega
theorem CrO.copy {w : World} {base g cap : Nat} {o : List Cl} (h : CrO w base g cap o) (i k n oi ok dl sl dc sc : Nat) (hi : i + n ≤ o.length) (hk : k + n ≤ o.length) (hmin : Nat.min sl dl = n) (hoi : 0 < n → oi = i * 8) (hok : 0 < n → ok = k * 8) :
    ∃ w', (Builtin.copy_ #[48, 48] 3 #[.slice (some ⟨g, oi, none⟩) dl dc, .slice (some ⟨g, ok, none⟩) sl sc]).run Tryz.prog w = .ok (goInt n) w' ∧ CrO w' base g cap (o.take i ++ (o.drop k).take n ++ o.drop (i + n)) ∧ Mod [g] w w' := by
  have hlen : ((o.drop k).take n).length = n := by simp; omega
  have key : ∀ (o1 o2 : Nat), (0 < n → o1 = i * 8) → (0 < n → o2 = k * 8) → (Builtin.copy_ #[48, 48] 3 #[.slice (some ⟨g, o1, none⟩) dl dc, .slice (some ⟨g, o2, none⟩) sl sc]).run Tryz.prog w = .ok (goInt n) (w.setCells g o1 (flat encCl ((o.drop k).take n))) := fun o1 o2 h1 h2 => by
    have hcl : (flat encCl ((o.drop k).take n)).length = n * 8 := by rw [flat_len encCl_len, hlen]
    have := run_copy_k (P := Tryz.prog) w 48 48 3 109 g o1 dl dc ⟨g, o2, none⟩ sl sc 8 (flat encCl ((o.drop k).take n)) Tryz.underlying48 info_cell (by rw [hmin, hcl]) (fun j v hj => ?_) (fun j hj => ?_) (fun j hj => ?_) (flat_one encCl_one _)
    · rw [hmin] at this; exact this
    · have hj' := (List.getElem?_eq_some_iff.1 hj).1
      rw [hcl] at hj'
      rw [add_lit', h2 (by omega)]
      rw [← flat_take encCl_len, List.getElem?_take, if_pos (by omega), ← flat_drop encCl_len, List.getElem?_drop] at hj
      exact (owns_hold h hj).1
    · rw [hcl] at hj
      obtain ⟨v, hv⟩ : ∃ v, (flat encCl o)[o1 + j]? = some v := ⟨_, List.getElem?_eq_getElem (by rw [flat_len encCl_len, h1 (by omega)]; omega)⟩
      rw [(owns_hold h hv).1]; rfl
    · rw [hcl] at hj
      obtain ⟨v, hv⟩ : ∃ v, (flat encCl o)[o1 + j]? = some v := ⟨_, List.getElem?_eq_getElem (by rw [flat_len encCl_len, h1 (by omega)]; omega)⟩
      exact (owns_hold h hv).2
  refine ⟨_, key oi ok hoi hok, ?_⟩
  rcases Nat.eq_zero_or_pos n with rfl | hn
  · simp only [List.take_zero, List.append_nil, Nat.add_zero, List.take_append_drop]
    exact ⟨h, Mod.refl _ _⟩
  · rw [hoi hn]
    have := h.setMany i ((o.drop k).take n) (by rw [hlen]; omega)
    rwa [hlen] at this
set_option maxRecDepth 100000 in
set_option maxHeartbeats 3200000 in
theorem insert1_any (base g cap : Nat) (o : List Cl) (bx bn bb : Nat) (x n : Int) (b : Col) (w : World) (h : CrO w base g cap o) (hz : o.length ≤ 10000) (hx : w.cell? ⟨bx, 0, none⟩ = some (.int .i64 x)) (hn : w.cell? ⟨bn, 0, none⟩ = some (.int .i64 n))
    (hk0 : w.cell? ⟨bb, 0, none⟩ = some (.int .i64 b.k)) (hn0 : w.cell? ⟨bb, 1, none⟩ = some (.int .i64 b.n)) (hb1 : bx < base) (hb2 : bn < base) (hb3 : bb < base) :
    Calls Tryz.prog 126 #[.slice (some ⟨g, 0, none⟩) o.length cap, .pointer (some ⟨bx, 0, none⟩), .pointer (some ⟨bn, 0, none⟩), .pointer (some ⟨bb, 0, none⟩)] w (MendPost base g cap (insertO o x n b) w) := by
  have H := Lib.hid h
  have hgb := h.lt
  have hcap := h.cap
  clear h
  have HV := Lib.hid (show insertO o x n b = if x < 0 ∨ (o.length : Int) ≤ x ∨ n < 1 then o else wipeO (o.take (x.toNat + (min n (o.length - x)).toNat) ++ (o.drop x.toNat).take (o.length - (x.toNat + (min n (o.length - x)).toNat))) x.toNat (min n (o.length - x)).toNat b from rfl)
  have HVL := Lib.hid (insertO_len o x n b)
  generalize insertO o x n b = RES at HV HVL
  by_cases hx0 : x < 0
  · go_enter Tryz.func126, Tryz.ntmps126
    go_wp2
    go_end0
    rw [HV.out, if_pos (by omega)]
    exact H.out.mend_post
  by_cases hxl : (o.length : Int) ≤ x
  · go_enter Tryz.func126, Tryz.ntmps126
    go_wp2
    go_end0
    rw [HV.out, if_pos (by omega)]
    exact H.out.mend_post
  by_cases hn1 : n < 1
  · go_enter Tryz.func126, Tryz.ntmps126
    go_wp2
    go_end0
    rw [HV.out, if_pos (by omega)]
    exact H.out.mend_post
  obtain ⟨k, rfl⟩ : ∃ k : Nat, x = (k : Int) := ⟨x.toNat, by omega⟩
  have hw1 : IntKind.i64.wrap ((o.length : Int) - (k : Int)) = (o.length : Int) - (k : Int) := IntWalk.i64_in _ (by omega)
  obtain ⟨q, hq⟩ : ∃ q : Nat, (if (o.length : Int) - (k : Int) < n then (o.length : Int) - (k : Int) else n) = (q : Int) := ⟨(min n ((o.length : Int) - (k : Int))).toNat, by omega⟩
  have hq2 : (min n ((o.length : Int) - (k : Int))).toNat = q := by omega
  obtain ⟨j, hj⟩ : ∃ j : Nat, j = k + q := ⟨_, rfl⟩
  have hjl : j ≤ o.length := by omega
  have hq0 : 0 < q := by omega
  have hkj : (k : Int) + (q : Int) = (j : Int) := by omega
  have hwj : IntKind.i64.wrap (j : Int) = (j : Int) := IntWalk.i64_in _ (by omega)
  have hkl : k < o.length := by omega
  rw [if_neg (by omega), hq2, Int.toNat_natCast, ← hj] at HV
  have HQ := Lib.hid (And.intro hj hq0)
  obtain ⟨off, hoff⟩ : ∃ off, (if cap = j then (some ⟨g, 0, none⟩ : Option Addr) else some ⟨g, j * 8, none⟩) = some ⟨g, off, none⟩ := by
    by_cases h : cap = j
    · exact ⟨0, if_pos h⟩
    · exact ⟨j * 8, if_neg h⟩
  have HOFF : Hid (0 < o.length - j → off = j * 8) := Lib.hid (fun h => by rw [if_neg (by omega)] at hoff; simp at hoff; omega)
  have hc3 : ¬ cap = k := by omega
  have HBX := Lib.hid hx
  have HBN := Lib.hid hn
  have HBK := Lib.hid hk0
  have HBM := Lib.hid hn0
  clear hq2 hj
  go_enter Tryz.func126, Tryz.ntmps126
  go_upto_region 2 with fail
  clear hq hw1 hk0 hn0 hn
  have hc4 : o.length ≤ cap := hcap
  have hc5 : k ≤ o.length := by omega
  refine wp_region_u 8 (fun w' => Below w.heap.size w w' ∧ w'.cell? ⟨bx, 0, none⟩ = some (.int .i64 k)) (by kernel_rfl) (by kernel_rfl) ?_ ?_
  · exact ⟨(Below.refl _ _).drew, hx⟩
  simp only [List.take_succ_cons, List.take_zero, List.drop_succ_cons, List.drop_zero]
  repeat (first
    | (refine seqU_skip (by rfl) ?_; simp only [Act.put, List.setIfInBounds_toArray, List.set_cons_zero, List.set_cons_succ])
    | (refine seqU_val ?_ (by rfl) ?_ ?_; rotate_left; · (intro w' hS; obtain ⟨_, _⟩ := hS; go_simp; first | done | with_reducible rfl)
       simp only [Act.put, List.setIfInBounds_toArray, List.set_cons_zero, List.set_cons_succ]))
  refine seqU_nil (fun w' hS => ?_)
  have HB1 := Lib.hid hS.1
  obtain ⟨w2, hcp, hO2, hM2⟩ := (H.out.below HB1.out).copy j k (o.length - j) off (k * 8) (o.length - j) (o.length - k) (cap - j) (cap - k) (by omega) (by have := HQ.out; omega) (Nat.min_eq_right (by have := HQ.out; omega)) HOFF.out (fun _ => rfl)
  have hdn : List.drop (j + (o.length - j)) o = [] := List.drop_eq_nil_of_le (by omega)
  rw [hdn, List.append_nil] at hO2
  clear hdn
  have HO2 := Lib.hid hO2
  have HM2 := Lib.hid ((Mod.of_below (X := [g]) HB1.out).trans hM2 (fun b hb => .inl hb))
  have hlen : (List.take j o ++ List.take (o.length - j) (List.drop k o)).length = o.length := by
    have := HQ.out
    simp; omega
  have HWP := Lib.hid (fun w3 (h : CrO w3 base g cap (List.take j o ++ List.take (o.length - j) (List.drop k o))) => cwipe_any base g cap k q (cap - k) _ b w3 h (by rw [hlen]; have := HQ.out; omega) (by rw [hlen]; exact hz))
  have x2 := HM2.out.cell (by simp; omega) HBX.out
  have b0 := HM2.out.cell (by simp; omega) HBK.out
  have b1 := HM2.out.cell (by simp; omega) HBM.out
  have HLEN := Lib.hid hlen
  clear hS hO2 hM2 hlen hx
  go_upto_region 3 with fail
  clear hcp hoff
  have hc6 : j ≤ cap := by omega
  have hc7 : k ≤ j := by have := HQ.out; omega
  have hjk : j - k = q := by have := HQ.out; omega
  refine wp_region_u 7 (fun w' => Below w2.heap.size w2 w' ∧ w'.cell? ⟨bx, 0, none⟩ = some (.int .i64 k) ∧ w'.cell? ⟨bb, 0, none⟩ = some (.int .i64 b.k) ∧ w'.cell? ⟨bb, 1, none⟩ = some (.int .i64 b.n)) (by kernel_rfl) (by kernel_rfl) ?_ ?_
  · exact ⟨(Below.refl _ _).drew, x2, b0, b1⟩
  simp only [List.take_succ_cons, List.take_zero, List.drop_succ_cons, List.drop_zero]
  repeat (first
    | (refine seqU_skip (by rfl) ?_; simp only [Act.put, List.setIfInBounds_toArray, List.set_cons_zero, List.set_cons_succ])
    | (refine seqU_val ?_ (by rfl) ?_ ?_; rotate_left; · (intro w' hS; obtain ⟨_, _, _, _⟩ := hS; go_simp; first | done | with_reducible rfl)
       simp only [Act.put, List.setIfInBounds_toArray, List.set_cons_zero, List.set_cons_succ]))
  refine seqU_nil (fun w' hS => ?_)
  have HB3 := Lib.hid hS.1
  clear hS x2 b0 b1
  go_wp2_with (go_at_call 125; refine (HWP.out _ (HO2.out.below HB3.out)).mono ?_; rintro e w4 ⟨rfl, hc, hm⟩)
  go_end0
  rw [HV.out]
  exact ⟨rfl, hc, (HM2.out.then_below HB3.out).trans hm (fun b hb => .inl hb)⟩
set_option maxRecDepth 100000 in
set_option maxHeartbeats 3200000 in
theorem delete1_any (base g cap : Nat) (o : List Cl) (bx bn bb : Nat) (x n : Int) (b : Col) (w : World) (h : CrO w base g cap o) (hz : o.length ≤ 10000) (hx : w.cell? ⟨bx, 0, none⟩ = some (.int .i64 x)) (hn : w.cell? ⟨bn, 0, none⟩ = some (.int .i64 n))
    (hk0 : w.cell? ⟨bb, 0, none⟩ = some (.int .i64 b.k)) (hn0 : w.cell? ⟨bb, 1, none⟩ = some (.int .i64 b.n)) (hb1 : bx < base) (hb2 : bn < base) (hb3 : bb < base) :
    Calls Tryz.prog 127 #[.slice (some ⟨g, 0, none⟩) o.length cap, .pointer (some ⟨bx, 0, none⟩), .pointer (some ⟨bn, 0, none⟩), .pointer (some ⟨bb, 0, none⟩)] w (MendPost base g cap (deleteO o x n b) w) := by
  have H := Lib.hid h
  have hgb := h.lt
  have hcap := h.cap
  clear h
  have HV := Lib.hid (show deleteO o x n b = if x < 0 ∨ (o.length : Int) ≤ x ∨ n < 1 then o else wipeO (o.take x.toNat ++ o.drop (x.toNat + (min n (o.length - x)).toNat) ++ o.drop (o.length - (min n (o.length - x)).toNat)) (o.length - (min n (o.length - x)).toNat) (min n (o.length - x)).toNat b from rfl)
  have HVL := Lib.hid (deleteO_len o x n b)
  generalize deleteO o x n b = RES at HV HVL
  by_cases hx0 : x < 0
  · go_enter Tryz.func127, Tryz.ntmps127
    go_wp2
    go_end0
    rw [HV.out, if_pos (by omega)]
    exact H.out.mend_post
  by_cases hxl : (o.length : Int) ≤ x
  · go_enter Tryz.func127, Tryz.ntmps127
    go_wp2
    go_end0
    rw [HV.out, if_pos (by omega)]
    exact H.out.mend_post
  by_cases hn1 : n < 1
  · go_enter Tryz.func127, Tryz.ntmps127
    go_wp2
    go_end0
    rw [HV.out, if_pos (by omega)]
    exact H.out.mend_post
  obtain ⟨k, rfl⟩ : ∃ k : Nat, x = (k : Int) := ⟨x.toNat, by omega⟩
  have hw1 : IntKind.i64.wrap ((o.length : Int) - (k : Int)) = (o.length : Int) - (k : Int) := IntWalk.i64_in _ (by omega)
  obtain ⟨q, hq⟩ : ∃ q : Nat, (if (o.length : Int) - (k : Int) < n then (o.length : Int) - (k : Int) else n) = (q : Int) := ⟨(min n ((o.length : Int) - (k : Int))).toNat, by omega⟩
  have hq2 : (min n ((o.length : Int) - (k : Int))).toNat = q := by omega
  obtain ⟨j, hj⟩ : ∃ j : Nat, j = k + q := ⟨_, rfl⟩
  have hjl : j ≤ o.length := by omega
  have hq0 : 0 < q := by omega
  have hkj : (k : Int) + (q : Int) = (j : Int) := by omega
  have hwj : IntKind.i64.wrap (j : Int) = (j : Int) := IntWalk.i64_in _ (by omega)
  have hkl : k < o.length := by omega
  obtain ⟨p, hp⟩ : ∃ p : Nat, p = o.length - q := ⟨_, rfl⟩
  rw [if_neg (by omega), hq2, Int.toNat_natCast, ← hj, ← hp] at HV
  have HQ := Lib.hid (And.intro hj hq0)
  obtain ⟨off, hoff⟩ : ∃ off, (if cap = j then (some ⟨g, 0, none⟩ : Option Addr) else some ⟨g, j * 8, none⟩) = some ⟨g, off, none⟩ := by
    by_cases h : cap = j
    · exact ⟨0, if_pos h⟩
    · exact ⟨j * 8, if_neg h⟩
  have HOFF : Hid (0 < o.length - j → off = j * 8) := Lib.hid (fun h => by rw [if_neg (by omega)] at hoff; simp at hoff; omega)
  have hc3 : ¬ cap = k := by omega
  have HBX := Lib.hid hx
  have HBN := Lib.hid hn
  have HBK := Lib.hid hk0
  have HBM := Lib.hid hn0
  clear hq2 hj
  go_enter Tryz.func127, Tryz.ntmps127
  go_upto_region 2 with fail
  clear hq hw1 hk0 hn0 hn
  have hc4 : o.length ≤ cap := hcap
  have hc5 : k ≤ o.length := by omega
  refine wp_region_u 8 (fun w' => Below w.heap.size w w' ∧ w'.cell? ⟨bx, 0, none⟩ = some (.int .i64 k)) (by kernel_rfl) (by kernel_rfl) ?_ ?_
  · exact ⟨(Below.refl _ _).drew, hx⟩
  simp only [List.take_succ_cons, List.take_zero, List.drop_succ_cons, List.drop_zero]
  repeat (first
    | (refine seqU_skip (by rfl) ?_; simp only [Act.put, List.setIfInBounds_toArray, List.set_cons_zero, List.set_cons_succ])
    | (refine seqU_val ?_ (by rfl) ?_ ?_; rotate_left; · (intro w' hS; obtain ⟨_, _⟩ := hS; go_simp; first | done | with_reducible rfl)
       simp only [Act.put, List.setIfInBounds_toArray, List.set_cons_zero, List.set_cons_succ]))
  refine seqU_nil (fun w' hS => ?_)
  have HB1 := Lib.hid hS.1
  obtain ⟨w2, hcp, hO2, hM2⟩ := (H.out.below HB1.out).copy k j (o.length - j) (k * 8) off (o.length - k) (o.length - j) (cap - k) (cap - j) (by have := HQ.out; omega) (by omega) (Nat.min_eq_left (by have := HQ.out; omega)) (fun _ => rfl) HOFF.out
  have hdn : List.drop (k + (o.length - j)) o = List.drop p o := by have := HQ.out; congr 1; omega
  have hdt : List.take (o.length - j) (List.drop j o) = List.drop j o := List.take_of_length_le (by simp)
  rw [hdn, hdt] at hO2
  clear hdn hdt
  have HO2 := Lib.hid hO2
  have HM2 := Lib.hid ((Mod.of_below (X := [g]) HB1.out).trans hM2 (fun b hb => .inl hb))
  have hlen : (List.take k o ++ List.drop j o ++ List.drop p o).length = o.length := by
    have := HQ.out
    simp; omega
  have HWP := Lib.hid (fun w3 (h : CrO w3 base g cap (List.take k o ++ List.drop j o ++ List.drop p o)) => cwipe_any base g cap p q (cap - p) _ b w3 h (by rw [hlen]; have := HQ.out; omega) (by rw [hlen]; exact hz))
  have b0 := HM2.out.cell (by simp; omega) HBK.out
  have b1 := HM2.out.cell (by simp; omega) HBM.out
  have HLEN := Lib.hid hlen
  clear hS hO2 hM2 hlen hx
  go_upto_region 3 with fail
  clear hcp hoff
  have hc6 : p ≤ o.length := by omega
  have hc7 : ¬ cap = p := by have := HQ.out; omega
  have hpN : o.length - q = p := hp.symm
  clear hp
  have hpI : (o.length : Int) - (q : Int) = (p : Int) := by omega
  have hwp : IntKind.i64.wrap (p : Int) = (p : Int) := IntWalk.i64_in _ (by omega)
  have hjk : o.length - p = q := by have := HQ.out; omega
  refine wp_region_u 7 (fun w' => Below w2.heap.size w2 w' ∧ w'.cell? ⟨bb, 0, none⟩ = some (.int .i64 b.k) ∧ w'.cell? ⟨bb, 1, none⟩ = some (.int .i64 b.n)) (by kernel_rfl) (by kernel_rfl) ?_ ?_
  · exact ⟨(Below.refl _ _).drew, b0, b1⟩
  simp only [List.take_succ_cons, List.take_zero, List.drop_succ_cons, List.drop_zero]
  repeat (first
    | (refine seqU_skip (by rfl) ?_; simp only [Act.put, List.setIfInBounds_toArray, List.set_cons_zero, List.set_cons_succ])
    | (refine seqU_val ?_ (by rfl) ?_ ?_; rotate_left; · (intro w' hS; obtain ⟨_, _, _⟩ := hS; go_simp; first | done | with_reducible rfl)
       simp only [Act.put, List.setIfInBounds_toArray, List.set_cons_zero, List.set_cons_succ]))
  refine seqU_nil (fun w' hS => ?_)
  have HB3 := Lib.hid hS.1
  clear hS b0 b1
  go_wp2_with (go_at_call 125; refine (HWP.out _ (HO2.out.below HB3.out)).mono ?_; rintro e w4 ⟨rfl, hc, hm⟩)
  go_end0
  rw [HV.out]
  exact ⟨rfl, hc, (HM2.out.then_below HB3.out).trans hm (fun b hb => .inl hb)⟩
end Go.Proofs.YtffdblmdelgkaaaGreat
namespace Go.Proofs.YtffdblmdelgkaaaGreat
open Go.RowKit
theorem WithPost.rebase {l : List Cl} {w W w' : World} {e : Ending} (hb : Below w.heap.size w W) (h : WithPost l W e w') : WithPost l w e w' := by
  obtain ⟨g, cap, he, hc, hb2⟩ := h
  exact ⟨g, cap, he, owns_weaken hc hb.size, below_tail hb hb2⟩
theorem range_box {w : World} {b : Nat} {t : TypeId} {cs : List Value} (h : w.heap[b]? = some (.cells cs.toArray t (0, 0))) (j : Nat) (v : Value) (hv : cs[j]? = some v) : w.cell? ⟨b, j, none⟩ = some v := (whole_at h j v hv).1
set_option maxRecDepth 100000 in
set_option maxHeartbeats 3200000 in
theorem cClose_any (A : Option Addr) (l : List Cl) (ca : Nat) (w : World) (hl : GrAt encCl 8 w A l) (h0 : 0 < l.length) (hz : l.length ≤ 10000) :
    Calls Tryz.prog 92 #[.slice A l.length ca] w (WithPost (closeL l) w) := by
  have HW := Lib.hid (cwith_any A l ca 130 #[] (fun o => o.set (o.length - 1) padC) w hl h0 hz (by simp [mendL_len]) (fun args w => by kernel_rfl) (fun g cap w' hc _ => by
    have := close1_any w.heap.size g cap (mendL l) w' hc (by rw [mendL_len]; exact h0) (by rw [mendL_len]; exact hz)
    rw [mendL_len] at this
    simp only [mendL_len]
    exact this))
  rw [mendL_len, show mendL ((mendL l).set (l.length - 1) padC) = closeL l from rfl] at HW
  clear hl
  go_enter Tryz.func92, Tryz.ntmps92
  go_wp2_with (go_at_call 114; refine HW.out.mono ?_; rintro e w1 ⟨g, cap, rfl, hc, hb⟩; have HC := Lib.hid hc; clear hc)
  go_ret
  exact ⟨g, cap, rfl, HC.out, hb⟩
set_option maxRecDepth 100000 in
set_option maxHeartbeats 3200000 in
theorem cErase_any (A : Option Addr) (l : List Cl) (ca : Nat) (x y : Int) (b : Col) (w : World) (hl : GrAt encCl 8 w A l) (h0 : 0 < l.length) (hz : l.length ≤ 10000) :
    Calls Tryz.prog 77 #[.slice A l.length ca, .int .i64 x, .int .i64 y, .agg #[.int .i64 b.k, .int .i64 b.n]] w (WithPost (eraseL l x y b) w) := by
  have hb0 : Below w.heap.size w (((w.alloc (.cells #[.int .i64 x] 3)).alloc (.cells #[.int .i64 y] 3)).alloc (.cells #[.int .i64 b.k, .int .i64 b.n] 32)) := below_allocs (below_allocs (below_allocs (Below.refl w.heap.size w) _) _) _
  have hp0 : ((((w.alloc (.cells #[.int .i64 x] 3)).alloc (.cells #[.int .i64 y] 3)).alloc (.cells #[.int .i64 b.k, .int .i64 b.n] 32)) : World).heap[w.heap.size + 0]? = some (.cells #[.int .i64 x] 3 (0, 0)) := by first | exact hp_old (hp_old (hp_new (by simp))) | (refine hp_old ?_; refine hp_old ?_; exact hp_new rfl)
  have hp1 : ((((w.alloc (.cells #[.int .i64 x] 3)).alloc (.cells #[.int .i64 y] 3)).alloc (.cells #[.int .i64 b.k, .int .i64 b.n] 32)) : World).heap[w.heap.size + 1]? = some (.cells #[.int .i64 y] 3 (0, 0)) := by first | exact hp_old (hp_new (by simp)) | (refine hp_old ?_; refine hp_old ?_; exact hp_new rfl)
  have hp2 : ((((w.alloc (.cells #[.int .i64 x] 3)).alloc (.cells #[.int .i64 y] 3)).alloc (.cells #[.int .i64 b.k, .int .i64 b.n] 32)) : World).heap[w.heap.size + 2]? = some (.cells #[.int .i64 b.k, .int .i64 b.n] 32 (0, 0)) := by first | exact hp_new (by simp) | (refine hp_old ?_; refine hp_old ?_; exact hp_new rfl)
  have HB0 := Lib.hid hb0
  have HW := Lib.hid (cwith_any A l ca 124 #[.pointer (some ⟨w.heap.size, 0, none⟩), .pointer (some ⟨w.heap.size + 1, 0, none⟩), .pointer (some ⟨w.heap.size + 2, 0, none⟩)] (fun o => eraseO o x y b) (((w.alloc (.cells #[.int .i64 x] 3)).alloc (.cells #[.int .i64 y] 3)).alloc (.cells #[.int .i64 b.k, .int .i64 b.n] 32)) (hl.below hb0) h0 hz (by rw [eraseO_len, mendL_len]) (fun args w => by kernel_rfl) (fun g cap w' hc hb => by
    have := erase1_any _ g cap (mendL l) _ _ _ x y b w' hc (by rw [mendL_len]; exact hz) (holda hb (range_box hp0 0 _ rfl)) (holda hb (range_box hp1 0 _ rfl)) (holda hb (range_box hp2 0 _ rfl)) (holda hb (range_box hp2 1 _ rfl))
    rwa [mendL_len] at this))
  have HL := Lib.hid (show mendL ((fun o => eraseO o x y b) (mendL l)) = eraseL l x y b from by unfold eraseL; rw [wipeL_O])
  rw [HL.out] at HW
  clear hl hb0 hp0 hp1 hp2
  go_enter Tryz.func77, Tryz.ntmps77
  go_wp2_with (go_at_call 114; refine HW.out.mono ?_; intro e w1 hp; obtain ⟨g, cap, rfl, hc, hb⟩ := WithPost.rebase HB0.out hp; have HC := Lib.hid hc; clear hc hp)
  go_ret
  exact ⟨g, cap, rfl, HC.out, hb⟩
set_option maxRecDepth 100000 in
set_option maxHeartbeats 3200000 in
theorem cInsert_any (A : Option Addr) (l : List Cl) (ca : Nat) (x n : Int) (b : Col) (w : World) (hl : GrAt encCl 8 w A l) (h0 : 0 < l.length) (hz : l.length ≤ 10000) :
    Calls Tryz.prog 82 #[.slice A l.length ca, .int .i64 x, .int .i64 n, .agg #[.int .i64 b.k, .int .i64 b.n]] w (WithPost (insertL l x n b) w) := by
  have hb0 : Below w.heap.size w (((w.alloc (.cells #[.int .i64 x] 3)).alloc (.cells #[.int .i64 n] 3)).alloc (.cells #[.int .i64 b.k, .int .i64 b.n] 32)) := below_allocs (below_allocs (below_allocs (Below.refl w.heap.size w) _) _) _
  have hp0 : ((((w.alloc (.cells #[.int .i64 x] 3)).alloc (.cells #[.int .i64 n] 3)).alloc (.cells #[.int .i64 b.k, .int .i64 b.n] 32)) : World).heap[w.heap.size + 0]? = some (.cells #[.int .i64 x] 3 (0, 0)) := by first | exact hp_old (hp_old (hp_new (by simp))) | (refine hp_old ?_; refine hp_old ?_; exact hp_new rfl)
  have hp1 : ((((w.alloc (.cells #[.int .i64 x] 3)).alloc (.cells #[.int .i64 n] 3)).alloc (.cells #[.int .i64 b.k, .int .i64 b.n] 32)) : World).heap[w.heap.size + 1]? = some (.cells #[.int .i64 n] 3 (0, 0)) := by first | exact hp_old (hp_new (by simp)) | (refine hp_old ?_; refine hp_old ?_; exact hp_new rfl)
  have hp2 : ((((w.alloc (.cells #[.int .i64 x] 3)).alloc (.cells #[.int .i64 n] 3)).alloc (.cells #[.int .i64 b.k, .int .i64 b.n] 32)) : World).heap[w.heap.size + 2]? = some (.cells #[.int .i64 b.k, .int .i64 b.n] 32 (0, 0)) := by first | exact hp_new (by simp) | (refine hp_old ?_; refine hp_old ?_; exact hp_new rfl)
  have HB0 := Lib.hid hb0
  have HW := Lib.hid (cwith_any A l ca 126 #[.pointer (some ⟨w.heap.size, 0, none⟩), .pointer (some ⟨w.heap.size + 1, 0, none⟩), .pointer (some ⟨w.heap.size + 2, 0, none⟩)] (fun o => insertO o x n b) (((w.alloc (.cells #[.int .i64 x] 3)).alloc (.cells #[.int .i64 n] 3)).alloc (.cells #[.int .i64 b.k, .int .i64 b.n] 32)) (hl.below hb0) h0 hz (by rw [insertO_len, mendL_len]) (fun args w => by kernel_rfl) (fun g cap w' hc hb => by
    have := insert1_any _ g cap (mendL l) _ _ _ x n b w' hc (by rw [mendL_len]; exact hz) (holda hb (range_box hp0 0 _ rfl)) (holda hb (range_box hp1 0 _ rfl)) (holda hb (range_box hp2 0 _ rfl)) (holda hb (range_box hp2 1 _ rfl)) (by simp <;> omega) (by simp <;> omega) (by simp <;> omega)
    rwa [mendL_len] at this))
  have HL := Lib.hid (show mendL ((fun o => insertO o x n b) (mendL l)) = insertL l x n b from insertL_O l x n b)
  rw [HL.out] at HW
  clear hl hb0 hp0 hp1 hp2
  go_enter Tryz.func82, Tryz.ntmps82
  go_wp2_with (go_at_call 114; refine HW.out.mono ?_; intro e w1 hp; obtain ⟨g, cap, rfl, hc, hb⟩ := WithPost.rebase HB0.out hp; have HC := Lib.hid hc; clear hc hp)
  go_ret
  exact ⟨g, cap, rfl, HC.out, hb⟩
set_option maxRecDepth 100000 in
set_option maxHeartbeats 3200000 in
theorem cDelete_any (A : Option Addr) (l : List Cl) (ca : Nat) (x n : Int) (b : Col) (w : World) (hl : GrAt encCl 8 w A l) (h0 : 0 < l.length) (hz : l.length ≤ 10000) :
    Calls Tryz.prog 85 #[.slice A l.length ca, .int .i64 x, .int .i64 n, .agg #[.int .i64 b.k, .int .i64 b.n]] w (WithPost (deleteL l x n b) w) := by
  have hb0 : Below w.heap.size w (((w.alloc (.cells #[.int .i64 x] 3)).alloc (.cells #[.int .i64 n] 3)).alloc (.cells #[.int .i64 b.k, .int .i64 b.n] 32)) := below_allocs (below_allocs (below_allocs (Below.refl w.heap.size w) _) _) _
  have hp0 : ((((w.alloc (.cells #[.int .i64 x] 3)).alloc (.cells #[.int .i64 n] 3)).alloc (.cells #[.int .i64 b.k, .int .i64 b.n] 32)) : World).heap[w.heap.size + 0]? = some (.cells #[.int .i64 x] 3 (0, 0)) := by first | exact hp_old (hp_old (hp_new (by simp))) | (refine hp_old ?_; refine hp_old ?_; exact hp_new rfl)
  have hp1 : ((((w.alloc (.cells #[.int .i64 x] 3)).alloc (.cells #[.int .i64 n] 3)).alloc (.cells #[.int .i64 b.k, .int .i64 b.n] 32)) : World).heap[w.heap.size + 1]? = some (.cells #[.int .i64 n] 3 (0, 0)) := by first | exact hp_old (hp_new (by simp)) | (refine hp_old ?_; refine hp_old ?_; exact hp_new rfl)
  have hp2 : ((((w.alloc (.cells #[.int .i64 x] 3)).alloc (.cells #[.int .i64 n] 3)).alloc (.cells #[.int .i64 b.k, .int .i64 b.n] 32)) : World).heap[w.heap.size + 2]? = some (.cells #[.int .i64 b.k, .int .i64 b.n] 32 (0, 0)) := by first | exact hp_new (by simp) | (refine hp_old ?_; refine hp_old ?_; exact hp_new rfl)
  have HB0 := Lib.hid hb0
  have HW := Lib.hid (cwith_any A l ca 127 #[.pointer (some ⟨w.heap.size, 0, none⟩), .pointer (some ⟨w.heap.size + 1, 0, none⟩), .pointer (some ⟨w.heap.size + 2, 0, none⟩)] (fun o => deleteO o x n b) (((w.alloc (.cells #[.int .i64 x] 3)).alloc (.cells #[.int .i64 n] 3)).alloc (.cells #[.int .i64 b.k, .int .i64 b.n] 32)) (hl.below hb0) h0 hz (by rw [deleteO_len, mendL_len]) (fun args w => by kernel_rfl) (fun g cap w' hc hb => by
    have := delete1_any _ g cap (mendL l) _ _ _ x n b w' hc (by rw [mendL_len]; exact hz) (holda hb (range_box hp0 0 _ rfl)) (holda hb (range_box hp1 0 _ rfl)) (holda hb (range_box hp2 0 _ rfl)) (holda hb (range_box hp2 1 _ rfl)) (by simp <;> omega) (by simp <;> omega) (by simp <;> omega)
    rwa [mendL_len] at this))
  have HL := Lib.hid (show mendL ((fun o => deleteO o x n b) (mendL l)) = deleteL l x n b from deleteL_O l x n b)
  rw [HL.out] at HW
  clear hl hb0 hp0 hp1 hp2
  go_enter Tryz.func85, Tryz.ntmps85
  go_wp2_with (go_at_call 114; refine HW.out.mono ?_; intro e w1 hp; obtain ⟨g, cap, rfl, hc, hb⟩ := WithPost.rebase HB0.out hp; have HC := Lib.hid hc; clear hc hp)
  go_ret
  exact ⟨g, cap, rfl, HC.out, hb⟩
set_option maxRecDepth 100000 in
set_option maxHeartbeats 3200000 in
theorem cPut_any (A : Option Addr) (l : List Cl) (ca : Nat) (x r : Int) (a : Atr) (w : World) (hl : GrAt encCl 8 w A l) (h0 : 0 < l.length) (hz : l.length ≤ 10000) :
    Calls Tryz.prog 66 #[.slice A l.length ca, .int .i64 x, .int .i32 r, .agg #[.int .i64 a.fk, .int .i64 a.fn, .int .i64 a.bk, .int .i64 a.bn, .int .i64 a.fl]] w (WithPost (putL l x r a) w) := by
  have hb0 : Below w.heap.size w (((w.alloc (.cells #[.int .i64 x] 3)).alloc (.cells #[.int .i32 r] 21)).alloc (.cells #[.int .i64 a.fk, .int .i64 a.fn, .int .i64 a.bk, .int .i64 a.bn, .int .i64 a.fl] 34)) := below_allocs (below_allocs (below_allocs (Below.refl w.heap.size w) _) _) _
  have hp0 : ((((w.alloc (.cells #[.int .i64 x] 3)).alloc (.cells #[.int .i32 r] 21)).alloc (.cells #[.int .i64 a.fk, .int .i64 a.fn, .int .i64 a.bk, .int .i64 a.bn, .int .i64 a.fl] 34)) : World).heap[w.heap.size + 0]? = some (.cells #[.int .i64 x] 3 (0, 0)) := by first | exact hp_old (hp_old (hp_new (by simp))) | (refine hp_old ?_; refine hp_old ?_; exact hp_new rfl)
  have hp1 : ((((w.alloc (.cells #[.int .i64 x] 3)).alloc (.cells #[.int .i32 r] 21)).alloc (.cells #[.int .i64 a.fk, .int .i64 a.fn, .int .i64 a.bk, .int .i64 a.bn, .int .i64 a.fl] 34)) : World).heap[w.heap.size + 1]? = some (.cells #[.int .i32 r] 21 (0, 0)) := by first | exact hp_old (hp_new (by simp)) | (refine hp_old ?_; refine hp_old ?_; exact hp_new rfl)
  have hp2 : ((((w.alloc (.cells #[.int .i64 x] 3)).alloc (.cells #[.int .i32 r] 21)).alloc (.cells #[.int .i64 a.fk, .int .i64 a.fn, .int .i64 a.bk, .int .i64 a.bn, .int .i64 a.fl] 34)) : World).heap[w.heap.size + 2]? = some (.cells #[.int .i64 a.fk, .int .i64 a.fn, .int .i64 a.bk, .int .i64 a.bn, .int .i64 a.fl] 34 (0, 0)) := by first | exact hp_new (by simp) | (refine hp_old ?_; refine hp_old ?_; exact hp_new rfl)
  have HB0 := Lib.hid hb0
  have HW := Lib.hid (cwith_any A l ca 115 #[.pointer (some ⟨w.heap.size + 1, 0, none⟩), .pointer (some ⟨w.heap.size, 0, none⟩), .pointer (some ⟨w.heap.size + 2, 0, none⟩)] (fun o => putO o x r a) (((w.alloc (.cells #[.int .i64 x] 3)).alloc (.cells #[.int .i32 r] 21)).alloc (.cells #[.int .i64 a.fk, .int .i64 a.fn, .int .i64 a.bk, .int .i64 a.bn, .int .i64 a.fl] 34)) (hl.below hb0) h0 hz (by rw [putO_len, mendL_len]) (fun args w => by kernel_rfl) (fun g cap w' hc hb => by
    have := put1_any _ g cap (mendL l) _ _ _ x r a w' hc (by rw [mendL_len]; exact hz) (holda hb (range_box hp1 0 _ rfl)) (holda hb (range_box hp0 0 _ rfl)) (fun j v hv => by rw [Nat.zero_add]; exact holda hb (range_box (cs := encAt a) hp2 j v hv)) (by simp <;> omega) (by simp <;> omega) (by simp <;> omega)
    rwa [mendL_len] at this))
  have HL := Lib.hid (show mendL ((fun o => putO o x r a) (mendL l)) = putL l x r a from putL_O l x r a)
  rw [HL.out] at HW
  clear hl hb0 hp0 hp1 hp2
  go_enter Tryz.func66, Tryz.ntmps66
  go_wp2_with (go_at_call 114; refine HW.out.mono ?_; intro e w1 hp; obtain ⟨g, cap, rfl, hc, hb⟩ := WithPost.rebase HB0.out hp; have HC := Lib.hid hc; clear hc hp)
  go_ret
  exact ⟨g, cap, rfl, HC.out, hb⟩
end Go.Proofs.YtffdblmdelgkaaaGreat

namespace Go.Proofs.YtffdblmdelgkaaaGreat
/-- A row: its cells, and whether it goes on from the row above. -/
structure Ro where
  cs : List Cl
  cont : Bool
structure Tl where
  k : Int
  a : Int
  n : Int
/-- A page: room, history (eldest first), how many went, the screen, columns, what was told. -/
structure Pg where
  room : Nat
  hist : List Ro
  gone : Int
  scr : List Ro
  cols : Nat
  told : List Tl
def blankR (cols : Nat) (b : Col) : Ro := ⟨List.replicate cols (blankC b), false⟩
def inP (g : Pg) (y : Int) : Bool := decide (0 ≤ y) && decide (y < g.scr.length)
def rowP (g : Pg) (y : Int) (f : List Cl → List Cl) : Pg := if inP g y then { g with scr := g.scr.modify y.toNat (fun r => { r with cs := f r.cs }) } else g
def contP (g : Pg) (y : Int) (b : Bool) : Pg := if inP g y then { g with scr := g.scr.modify y.toNat (fun r => { r with cont := b }) } else g
def tellP (g : Pg) (k a n : Int) : Pg := { g with told := g.told ++ [⟨k, a, n⟩] }
def pushP (g : Pg) (r : Ro) : Pg × Bool :=
  if g.room = 0 then ({ g with gone := g.gone + 1 }, true)
  else if g.hist.length = g.room then ({ g with hist := g.hist.drop 1 ++ [r], gone := g.gone + 1 }, true)
  else ({ g with hist := g.hist ++ [r] }, false)
/-- Rows of the screen from top to bottom, one up, or one down. -/
def slideUp (l : List Ro) (top bottom : Nat) (b : Ro) : List Ro := l.take top ++ ((l.drop (top + 1)).take (bottom - top) ++ (b :: l.drop (bottom + 1)))
def slideDn (l : List Ro) (top bottom : Nat) (b : Ro) : List Ro := l.take top ++ (b :: ((l.drop top).take (bottom - top) ++ l.drop (bottom + 1)))
def cutP (g : Pg) (top bottom : Nat) (b : Col) : Pg :=
  let g1 := tellP (tellP g 1 (g.hist.length + top) 1) 0 (g.hist.length + bottom) 1
  let g2 := { g1 with scr := slideUp g.scr top bottom (blankR g.cols b) }
  contP (contP g2 top false) (bottom + 1) false
def upP (g : Pg) (top bottom : Nat) (b : Col) : Pg :=
  if 0 < top then cutP g top bottom b
  else
    let g1 := tellP g 0 (g.hist.length + bottom + 1) 1
    let p := pushP g1 (g.scr.getD 0 ⟨[], false⟩)
    let g2 := if p.2 then tellP p.1 2 0 1 else p.1
    let g3 := { g2 with scr := slideUp g.scr 0 bottom (blankR g.cols b) }
    contP g3 (bottom + 1) false
def downP (g : Pg) (top bottom : Nat) (b : Col) : Pg :=
  let g1 := tellP (tellP g 1 (g.hist.length + bottom) 1) 0 (g.hist.length + top) 1
  let g2 := { g1 with scr := slideDn g.scr top bottom (blankR g.cols b) }
  contP (contP g2 (top + 1) false) (bottom + 1) false
def iterP (f : Pg → Pg) : Nat → Pg → Pg
  | 0, g => g
  | n + 1, g => f (iterP f n g)
/-- So often as n says, but no more than the region has rows. -/
def timesP (g : Pg) (top bottom n : Int) (f : Nat → Nat → Pg → Pg) : Pg :=
  if inP g top && inP g bottom && decide (top ≤ bottom) then iterP (f top.toNat bottom.toNat) (min n.toNat (bottom - top + 1).toNat) g else g
def forgetP (g : Pg) : Pg := if g.hist.length = 0 then g else contP (tellP { g with hist := [], gone := g.gone + g.hist.length } 2 0 g.hist.length) 0 false
def eraseP (g : Pg) (y x z : Int) (b : Col) : Pg :=
  if inP g y then
    let g1 := rowP g y (fun l => eraseL l x z b)
    if x < g.cols ∧ (g.cols : Int) ≤ z then (if x ≤ 0 then contP (contP g1 (y + 1) false) y false else contP g1 (y + 1) false) else g1
  else g
theorem slideUp_len {l : List Ro} {top bottom : Nat} {b : Ro} (h : top ≤ bottom) (h2 : bottom < l.length) : (slideUp l top bottom b).length = l.length := by
  unfold slideUp
  simp only [List.length_append, List.length_take, List.length_drop, List.length_cons]
  omega
theorem slideDn_len {l : List Ro} {top bottom : Nat} {b : Ro} (h : top ≤ bottom) (h2 : bottom < l.length) : (slideDn l top bottom b).length = l.length := by
  unfold slideDn
  simp only [List.length_append, List.length_take, List.length_drop, List.length_cons]
  omega
/-- The document's list of rows. -/
structure Dc where
  L : List Ro
  base : Nat
  cols : Nat
  room : Nat
  gone : Int
  told : List Tl
def dcOf (g : Pg) : Dc := ⟨g.hist ++ g.scr, g.hist.length, g.cols, g.room, g.gone, g.told⟩
def dcRows (d : Dc) : Int := (d.L.length : Int) - d.base
def dcIn (d : Dc) (y : Int) : Bool := decide (0 ≤ y) && decide (y < dcRows d)
def dcInsert (d : Dc) (at_ : Nat) (r : Ro) : Dc := { d with L := d.L.take at_ ++ (r :: d.L.drop at_), told := d.told ++ [⟨0, at_, 1⟩] }
def dcRemove (d : Dc) (at_ : Nat) : Dc := { d with L := d.L.take at_ ++ d.L.drop (at_ + 1), told := d.told ++ [⟨1, at_, 1⟩] }
def dcEvict (d : Dc) (n : Nat) : Dc := { d with L := d.L.drop n, base := d.base - n, gone := d.gone + n, told := d.told ++ [⟨2, 0, n⟩] }
def dcPart (d : Dc) (y : Int) : Dc := if dcIn d y then { d with L := d.L.modify (d.base + y.toNat) (fun r => { r with cont := false }) } else d
def dcCut (d : Dc) (top bottom : Nat) (b : Col) : Dc := dcPart (dcPart (dcInsert (dcRemove d (d.base + top)) (d.base + bottom) (blankR d.cols b)) top) (bottom + 1)
def dcUp (d : Dc) (top bottom : Nat) (b : Col) : Dc :=
  if top = 0 then
    let d1 := dcInsert d (d.base + bottom + 1) (blankR d.cols b)
    let d2 := dcPart { d1 with base := d1.base + 1 } (bottom + 1)
    if d2.room < d2.base then dcEvict d2 1 else d2
  else dcCut d top bottom b
def dcDown (d : Dc) (top bottom : Nat) (b : Col) : Dc := dcPart (dcPart (dcInsert (dcRemove d (d.base + bottom)) (d.base + top) (blankR d.cols b)) (top + 1)) (bottom + 1)
theorem dcOf_in (g : Pg) (y : Int) : dcIn (dcOf g) y = inP g y := by
  unfold dcIn inP dcRows dcOf
  simp only [List.length_append]
  congr 1
  exact decide_eq_decide.2 (by omega)
theorem modify_append {α : Type} (a b : List α) (k : Nat) (f : α → α) : (a ++ b).modify (a.length + k) f = a ++ b.modify k f := by
  induction a with
  | nil => simp
  | cons x a ih => simp [Nat.succ_add, ih]
theorem dcOf_part (g : Pg) (y : Int) : dcPart (dcOf g) y = dcOf (contP g y false) := by
  unfold dcPart contP
  rw [dcOf_in]
  split
  · show Dc.mk ((g.hist ++ g.scr).modify (g.hist.length + y.toNat) _) _ _ _ _ _ = _
    rw [modify_append]
    rfl
  · rfl
theorem take_cut (h l : List Ro) (k : Nat) : (h ++ l).take (h.length + k) = h ++ l.take k := by rw [List.take_length_add_append]
theorem drop_cut (h l : List Ro) (k : Nat) : (h ++ l).drop (h.length + k) = l.drop k := by rw [List.drop_length_add_append]
theorem dcOf_cut (g : Pg) (top bottom : Nat) (b : Col) (h1 : top ≤ bottom) (h2 : bottom < g.scr.length) : dcCut (dcOf g) top bottom b = dcOf (cutP g top bottom b) := by
  unfold dcCut cutP
  rw [← dcOf_part, ← dcOf_part]
  congr 2
  unfold dcInsert dcRemove dcOf tellP slideUp
  simp only [Dc.mk.injEq, true_and]
  refine ⟨?_, by simp⟩
  rw [take_cut, show g.hist.length + top + 1 = g.hist.length + (top + 1) by omega, drop_cut, List.append_assoc, take_cut, drop_cut, List.append_assoc]
  congr 1
  rw [List.take_append, List.drop_append]
  have e1 : (g.scr.take top).length = top := by rw [List.length_take]; omega
  rw [e1, List.take_take, show min bottom top = top by omega, List.append_assoc]
  congr 1
  rw [List.drop_eq_nil_of_le (show (g.scr.take top).length ≤ bottom by rw [e1]; exact h1), List.nil_append, List.drop_drop, show top + 1 + (bottom - top) = bottom + 1 by omega]
theorem dcOf_down (g : Pg) (top bottom : Nat) (b : Col) (h1 : top ≤ bottom) (h2 : bottom < g.scr.length) : dcDown (dcOf g) top bottom b = dcOf (downP g top bottom b) := by
  unfold dcDown downP
  rw [← dcOf_part, ← dcOf_part]
  congr 2
  unfold dcInsert dcRemove dcOf tellP slideDn
  simp only [Dc.mk.injEq, true_and]
  refine ⟨?_, by simp⟩
  rw [take_cut, show g.hist.length + bottom + 1 = g.hist.length + (bottom + 1) by omega, drop_cut, List.append_assoc, take_cut, drop_cut, List.append_assoc]
  congr 1
  have e1 : (g.scr.take bottom).length = bottom := by rw [List.length_take]; omega
  rw [List.take_append, List.drop_append, e1, List.take_take, show min top bottom = top by omega, show top - bottom = 0 by omega]
  rw [List.take_zero, List.append_nil, List.drop_zero, List.drop_take]
theorem dcOf_evict (g : Pg) (n : Nat) (h : n ≤ g.hist.length) : dcEvict (dcOf g) n = dcOf (tellP { g with hist := g.hist.drop n, gone := g.gone + n } 2 0 n) := by
  unfold dcEvict dcOf tellP
  simp only [Dc.mk.injEq, true_and]
  exact ⟨by rw [List.drop_append_of_le_length h], by rw [List.length_drop], trivial⟩
theorem contP_other (g : Pg) (h : List Ro) (gn : Int) (td : List Tl) (y : Int) (b : Bool) : contP { g with hist := h, gone := gn, told := td } y b = { contP g y b with hist := h, gone := gn, told := td } := by
  unfold contP
  have e : inP { g with hist := h, gone := gn, told := td } y = inP g y := rfl
  rw [e]
  split <;> rfl
theorem contP_hist (g : Pg) (y : Int) (b : Bool) : (contP g y b).hist = g.hist ∧ (contP g y b).gone = g.gone ∧ (contP g y b).told = g.told ∧ (contP g y b).cols = g.cols ∧ (contP g y b).room = g.room ∧ (contP g y b).scr.length = g.scr.length := by
  unfold contP
  split
  · exact ⟨rfl, rfl, rfl, rfl, rfl, by simp⟩
  · exact ⟨rfl, rfl, rfl, rfl, rfl, rfl⟩
theorem dcOf_up (g : Pg) (top bottom : Nat) (b : Col) (h1 : top ≤ bottom) (h2 : bottom < g.scr.length) (hr : g.hist.length ≤ g.room) : dcUp (dcOf g) top bottom b = dcOf (upP g top bottom b) := by
  unfold dcUp upP
  by_cases ht : top = 0
  rotate_left
  · rw [if_neg ht, if_pos (by omega)]
    exact dcOf_cut g top bottom b h1 h2
  subst ht
  rw [if_pos rfl, if_neg (show ¬ (0 : Nat) < 0 by omega)]
  simp only []
  obtain ⟨s0, l, hs⟩ : ∃ s0 l, g.scr = s0 :: l := by
    match h : g.scr, h2 with
    | s0 :: l, _ => exact ⟨s0, l, rfl⟩
  have key : { dcInsert (dcOf g) ((dcOf g).base + bottom + 1) (blankR (dcOf g).cols b) with base := (dcInsert (dcOf g) ((dcOf g).base + bottom + 1) (blankR (dcOf g).cols b)).base + 1 } = dcOf { g with hist := g.hist ++ [s0], scr := slideUp g.scr 0 bottom (blankR g.cols b), told := g.told ++ [⟨0, g.hist.length + bottom + 1, 1⟩] } := by
    unfold dcInsert dcOf slideUp
    simp only [Dc.mk.injEq, true_and]
    refine ⟨?_, by simp, by simp⟩
    rw [show g.hist.length + bottom + 1 = g.hist.length + (bottom + 1) by omega, take_cut, drop_cut, hs]
    simp
  rw [key, dcOf_part]
  have hg0 : g.scr.getD 0 ⟨[], false⟩ = s0 := by rw [hs]; rfl
  rw [hg0]
  have hh := contP_hist { g with hist := g.hist ++ [s0], scr := slideUp g.scr 0 bottom (blankR g.cols b), told := g.told ++ [⟨0, g.hist.length + bottom + 1, 1⟩] } (bottom + 1) false
  obtain ⟨q1, q2, q3, q4, q5, q6⟩ := hh
  by_cases hf : g.hist.length = g.room
  · have c1 : (dcOf (contP { g with hist := g.hist ++ [s0], scr := slideUp g.scr 0 bottom (blankR g.cols b), told := g.told ++ [⟨0, g.hist.length + bottom + 1, 1⟩] } (bottom + 1) false)).room < (dcOf (contP { g with hist := g.hist ++ [s0], scr := slideUp g.scr 0 bottom (blankR g.cols b), told := g.told ++ [⟨0, g.hist.length + bottom + 1, 1⟩] } (bottom + 1) false)).base := by
      show (contP _ _ _).room < (contP _ _ _).hist.length
      rw [q1, q5]; simp; omega
    rw [if_pos c1, dcOf_evict _ 1 (by rw [q1]; simp)]
    congr 1
    unfold tellP
    rw [q1, q2, q3, ← contP_other]
    unfold pushP
    by_cases h0 : g.room = 0
    · have hn : g.hist = [] := List.length_eq_zero_iff.1 (by omega)
      simp only [h0, if_true, hn, List.nil_append, List.drop_succ_cons, List.drop_nil]
      simp
    · simp only [h0, if_false, hf, if_true]
      have e1 : (g.hist ++ [s0]).drop 1 = g.hist.drop 1 ++ [s0] := List.drop_append_of_le_length (by omega)
      rw [e1]
      simp
  · have c1 : ¬ ((dcOf (contP { g with hist := g.hist ++ [s0], scr := slideUp g.scr 0 bottom (blankR g.cols b), told := g.told ++ [⟨0, g.hist.length + bottom + 1, 1⟩] } (bottom + 1) false)).room < (dcOf (contP { g with hist := g.hist ++ [s0], scr := slideUp g.scr 0 bottom (blankR g.cols b), told := g.told ++ [⟨0, g.hist.length + bottom + 1, 1⟩] } (bottom + 1) false)).base) := by
      show ¬ ((contP _ _ _).room < (contP _ _ _).hist.length)
      rw [q1, q5]; simp; omega
    rw [if_neg c1]
    congr 1
    unfold pushP tellP
    have h0 : ¬ g.room = 0 := by omega
    simp only [h0, if_false, hf]
    simp
def dcForget (d : Dc) : Dc := if 0 < d.base then dcPart (dcEvict d d.base) 0 else d
theorem dcOf_forget (g : Pg) : dcForget (dcOf g) = dcOf (forgetP g) := by
  unfold dcForget forgetP
  by_cases h : g.hist.length = 0
  · rw [if_neg (by show ¬ 0 < g.hist.length; omega), if_pos h]
  · rw [if_pos (by show 0 < g.hist.length; omega), if_neg h, show (dcOf g).base = g.hist.length from rfl, dcOf_evict g _ (Nat.le_refl _), dcOf_part, List.drop_length]
end Go.Proofs.YtffdblmdelgkaaaGreat

namespace Go.Proofs.YtffdblmdelgkaaaGreat
def isScal (r : Int) : Bool := decide (0 ≤ r) && decide (r ≤ 0x10ffff) && (decide (r < 0xd800) || decide (0xdfff < r))
/-- A scalar's bytes. -/
def putB (r : Int) : ByteArray :=
  if isScal r then
    (if r < 0x80 then ⟨#[r.toNat.toUInt8]⟩
    else if r < 0x800 then ⟨#[(192 + r / 64).toNat.toUInt8, (128 + r % 64).toNat.toUInt8]⟩
    else if r < 0x10000 then ⟨#[(224 + r / 4096).toNat.toUInt8, (128 + r / 64 % 64).toNat.toUInt8, (128 + r % 64).toNat.toUInt8]⟩
    else ⟨#[(240 + r / 262144).toNat.toUInt8, (128 + r / 4096 % 64).toNat.toUInt8, (128 + r / 64 % 64).toNat.toUInt8, (128 + r % 64).toNat.toUInt8]⟩)
  else ByteArray.empty
def withMore (m : ByteArray) (c : Cl) : Cl := { c with more := m }
/-- A mark is laid. -/
def markL (l : List Cl) (x r : Int) : List Cl :=
  let o := mendL l
  match o[x.toNat]? with
  | none => o
  | some c =>
    if x < 0 ∨ c.r = 0 ∨ widOf r ≠ 0 ∨ 32 < (c.more ++ putB r).size then o
    else
      let m := c.more ++ putB r
      let o1 := if c.half = 1 then o.modify (x.toNat + 1) (withMore m) else if c.half = 2 then o.modify (x.toNat - 1) (withMore m) else o
      mendL (o1.modify x.toNat (withMore m))
theorem markL_len (l : List Cl) (x r : Int) : (markL l x r).length = l.length := by
  unfold markL
  simp only []
  split
  · exact mendL_len l
  · split
    · exact mendL_len l
    · rw [mendL_len, List.length_modify]
      split
      · rw [List.length_modify, mendL_len]
      split
      · rw [List.length_modify, mendL_len]
      · exact mendL_len l
/-- An operation. -/
structure Pop where
  kind : Int
  x : Int
  n : Int
  r : Int
  at_ : Atr
  y : Int
  top : Int
  bottom : Int
def backOf (a : Atr) : Col := ⟨a.bk, a.bn⟩
def stepP (g : Pg) (o : Pop) : Pg :=
  if o.kind = 0 then rowP g o.y (fun l => putL l o.x o.r o.at_)
  else if o.kind = 1 then rowP g o.y (fun l => markL l o.x o.r)
  else if o.kind = 2 then eraseP g o.y o.x o.n (backOf o.at_)
  else if o.kind = 3 then rowP g o.y (fun l => insertL l o.x o.n (backOf o.at_))
  else if o.kind = 4 then rowP g o.y (fun l => deleteL l o.x o.n (backOf o.at_))
  else if o.kind = 5 then contP g o.y true
  else if o.kind = 6 then timesP g o.top o.bottom o.n (fun t b g => upP g t b (backOf o.at_))
  else if o.kind = 7 then timesP g o.top o.bottom o.n (fun t b g => downP g t b (backOf o.at_))
  else if o.kind = 8 then forgetP g
  else if o.kind = 9 then rowP g o.y closeL
  else if o.kind = 10 then timesP g o.top o.bottom o.n (fun t b g => cutP g t b (backOf o.at_))
  else g
/-- What stays true: rows, columns, room. -/
structure PgInv (rows cols room : Nat) (g : Pg) : Prop where
  hrows : g.scr.length = rows
  hcols : g.cols = cols
  hroom : g.room = room
  hhist : g.hist.length ≤ room
  wide : ∀ r ∈ g.hist ++ g.scr, r.cs.length = cols
theorem mem_modify {α : Type} {f : α → α} {y : α} : ∀ {l : List α} {i : Nat}, y ∈ l.modify i f → y ∈ l ∨ ∃ x ∈ l, y = f x
  | [], i, h => by simp at h
  | x :: l, 0, h => by
    rw [List.modify_zero_cons] at h
    rcases List.mem_cons.1 h with rfl | h
    · exact .inr ⟨x, by simp, rfl⟩
    · exact .inl (by simp [h])
  | x :: l, i + 1, h => by
    rw [List.modify_succ_cons] at h
    rcases List.mem_cons.1 h with rfl | h
    · exact .inl (by simp)
    · rcases mem_modify h with h | ⟨z, hz, e⟩
      · exact .inl (by simp [h])
      · exact .inr ⟨z, by simp [hz], e⟩
theorem PgInv.mod {rows cols room : Nat} {g : Pg} (h : PgInv rows cols room g) (i : Nat) (f : Ro → Ro) (hf : ∀ r, (f r).cs.length = r.cs.length) : PgInv rows cols room { g with scr := g.scr.modify i f } := by
  refine ⟨by show (g.scr.modify i f).length = rows; rw [List.length_modify]; exact h.hrows, h.hcols, h.hroom, h.hhist, fun r hr => ?_⟩
  rcases List.mem_append.1 (show r ∈ g.hist ++ g.scr.modify i f from hr) with hr | hr
  · exact h.wide r (by simp [hr])
  · rcases mem_modify hr with hr | ⟨x, hx, rfl⟩
    · exact h.wide r (by simp [hr])
    · rw [hf]; exact h.wide x (by simp [hx])
theorem PgInv.row {rows cols room : Nat} {g : Pg} (h : PgInv rows cols room g) (y : Int) (f : List Cl → List Cl) (hf : ∀ l, (f l).length = l.length) : PgInv rows cols room (rowP g y f) := by
  unfold rowP
  split
  · exact h.mod _ _ (fun r => hf r.cs)
  · exact h
theorem PgInv.cont {rows cols room : Nat} {g : Pg} (h : PgInv rows cols room g) (y : Int) (b : Bool) : PgInv rows cols room (contP g y b) := by
  unfold contP
  split
  · exact h.mod _ _ (fun r => rfl)
  · exact h
theorem PgInv.tell {rows cols room : Nat} {g : Pg} (h : PgInv rows cols room g) (k a n : Int) : PgInv rows cols room (tellP g k a n) := ⟨h.hrows, h.hcols, h.hroom, h.hhist, h.wide⟩
theorem mem_slideUp {l : List Ro} {top bottom : Nat} {b r : Ro} (h : r ∈ slideUp l top bottom b) : r ∈ l ∨ r = b := by
  unfold slideUp at h
  simp only [List.mem_append, List.mem_cons] at h
  rcases h with h | h | h | h
  · exact .inl (List.mem_of_mem_take h)
  · exact .inl (List.mem_of_mem_drop (List.mem_of_mem_take h))
  · exact .inr h
  · exact .inl (List.mem_of_mem_drop h)
theorem mem_slideDn {l : List Ro} {top bottom : Nat} {b r : Ro} (h : r ∈ slideDn l top bottom b) : r ∈ l ∨ r = b := by
  unfold slideDn at h
  simp only [List.mem_append, List.mem_cons] at h
  rcases h with h | h | h | h
  · exact .inl (List.mem_of_mem_take h)
  · exact .inr h
  · exact .inl (List.mem_of_mem_drop (List.mem_of_mem_take h))
  · exact .inl (List.mem_of_mem_drop h)
theorem PgInv.slide {rows cols room : Nat} {g : Pg} (h : PgInv rows cols room g) {s : List Ro} {b : Col} (hl : s.length = g.scr.length) (hm : ∀ r ∈ s, r ∈ g.scr ∨ r = blankR g.cols b) : PgInv rows cols room { g with scr := s } := by
  refine ⟨hl.trans h.hrows, h.hcols, h.hroom, h.hhist, fun r hr => ?_⟩
  rcases List.mem_append.1 (show r ∈ g.hist ++ s from hr) with hr | hr
  · exact h.wide r (by simp [hr])
  · rcases hm r hr with hr | rfl
    · exact h.wide r (by simp [hr])
    · unfold blankR; rw [List.length_replicate]; exact h.hcols
theorem PgInv.cut {rows cols room : Nat} {g : Pg} (h : PgInv rows cols room g) {top bottom : Nat} (h1 : top ≤ bottom) (h2 : bottom < g.scr.length) (b : Col) : PgInv rows cols room (cutP g top bottom b) := by
  unfold cutP
  exact ((PgInv.slide (g := tellP (tellP g 1 (g.hist.length + top) 1) 0 (g.hist.length + bottom) 1) ((h.tell _ _ _).tell _ _ _) (b := b) (slideUp_len h1 h2) (fun r hr => mem_slideUp hr)).cont _ _).cont _ _
theorem PgInv.down {rows cols room : Nat} {g : Pg} (h : PgInv rows cols room g) {top bottom : Nat} (h1 : top ≤ bottom) (h2 : bottom < g.scr.length) (b : Col) : PgInv rows cols room (downP g top bottom b) := by
  unfold downP
  exact ((PgInv.slide (g := tellP (tellP g 1 (g.hist.length + bottom) 1) 0 (g.hist.length + top) 1) ((h.tell _ _ _).tell _ _ _) (b := b) (slideDn_len h1 h2) (fun r hr => mem_slideDn hr)).cont _ _).cont _ _
theorem PgInv.push {rows cols room : Nat} {g : Pg} (h : PgInv rows cols room g) {r : Ro} (hr : r.cs.length = cols) : PgInv rows cols room (pushP g r).1 ∧ (pushP g r).1.scr = g.scr := by
  have hh := h.hhist
  have hr0 := h.hroom
  unfold pushP
  split
  · exact ⟨⟨h.hrows, h.hcols, h.hroom, h.hhist, h.wide⟩, rfl⟩
  split
  · next h0 h1 =>
    refine ⟨⟨h.hrows, h.hcols, h.hroom, by show (g.hist.drop 1 ++ [r]).length ≤ room; simp; omega, fun x hx => ?_⟩, rfl⟩
    rcases List.mem_append.1 (show x ∈ (g.hist.drop 1 ++ [r]) ++ g.scr from hx) with hx | hx
    · rcases List.mem_append.1 hx with hx | hx
      · exact h.wide x (List.mem_append_left _ (List.mem_of_mem_drop hx))
      · rw [List.mem_singleton.1 hx]; exact hr
    · exact h.wide x (by simp [hx])
  · next h0 h1 =>
    refine ⟨⟨h.hrows, h.hcols, h.hroom, by show (g.hist ++ [r]).length ≤ room; simp; omega, fun x hx => ?_⟩, rfl⟩
    rcases List.mem_append.1 (show x ∈ (g.hist ++ [r]) ++ g.scr from hx) with hx | hx
    · rcases List.mem_append.1 hx with hx | hx
      · exact h.wide x (by simp [hx])
      · rw [List.mem_singleton.1 hx]; exact hr
    · exact h.wide x (by simp [hx])
theorem PgInv.up {rows cols room : Nat} {g : Pg} (h : PgInv rows cols room g) {top bottom : Nat} (h1 : top ≤ bottom) (h2 : bottom < g.scr.length) (b : Col) : PgInv rows cols room (upP g top bottom b) := by
  unfold upP
  split
  · exact h.cut h1 h2 b
  · next ht =>
    simp only []
    have hw : (g.scr.getD 0 ⟨[], false⟩).cs.length = cols := by
      rw [List.getD_eq_getElem?_getD, List.getElem?_eq_getElem (by omega)]
      exact h.wide _ (by simp)
    have hp := (h.tell 0 (g.hist.length + bottom + 1) 1).push hw
    have hc : (pushP (tellP g 0 (g.hist.length + bottom + 1) 1) (g.scr.getD 0 ⟨[], false⟩)).1.cols = g.cols := hp.1.hcols.trans h.hcols.symm
    generalize pushP (tellP g 0 (g.hist.length + bottom + 1) 1) (g.scr.getD 0 ⟨[], false⟩) = q at hp hc
    obtain ⟨q, e⟩ := q
    refine PgInv.cont ?_ _ _
    have hq : PgInv rows cols room (if e = true then tellP q 2 0 1 else q) := by
      split
      · exact hp.1.tell _ _ _
      · exact hp.1
    have hs : (if e = true then tellP q 2 0 1 else q).scr = g.scr := by
      split <;> exact hp.2
    have hcc : (if e = true then tellP q 2 0 1 else q).cols = g.cols := by
      split <;> exact hc
    exact hq.slide (b := b) (by rw [hs]; exact slideUp_len (by omega) h2) (fun r hr => by rw [hs, hcc]; exact mem_slideUp hr)
theorem PgInv.iter {rows cols room : Nat} {f : Pg → Pg} (hf : ∀ g, PgInv rows cols room g → PgInv rows cols room (f g)) : ∀ (n : Nat) {g : Pg}, PgInv rows cols room g → PgInv rows cols room (iterP f n g)
  | 0, _, h => h
  | n + 1, _, h => hf _ (PgInv.iter hf n h)
theorem PgInv.times {rows cols room : Nat} {g : Pg} (h : PgInv rows cols room g) (top bottom n : Int) (f : Nat → Nat → Pg → Pg) (hf : ∀ t b : Nat, t ≤ b → ∀ g, PgInv rows cols room g → b < g.scr.length → PgInv rows cols room (f t b g)) : PgInv rows cols room (timesP g top bottom n f) := by
  unfold timesP
  split
  · next hc =>
    simp only [Bool.and_eq_true, inP, decide_eq_true_eq] at hc
    refine PgInv.iter (fun g' h' => hf _ _ (by omega) g' h' ?_) _ h
    have := h.hrows
    have := h'.hrows
    omega
  · exact h
theorem PgInv.forget {rows cols room : Nat} {g : Pg} (h : PgInv rows cols room g) : PgInv rows cols room (forgetP g) := by
  unfold forgetP
  split
  · exact h
  · exact PgInv.cont (PgInv.tell (g := { g with hist := [], gone := g.gone + g.hist.length }) ⟨h.hrows, h.hcols, h.hroom, Nat.zero_le _, fun r hr => h.wide r (by have hr' : r ∈ ([] : List Ro) ++ g.scr := hr; simp at hr'; simp [hr'])⟩ _ _ _) _ _
theorem PgInv.erase {rows cols room : Nat} {g : Pg} (h : PgInv rows cols room g) (y x z : Int) (b : Col) : PgInv rows cols room (eraseP g y x z b) := by
  unfold eraseP
  have h1 := h.row y (fun l => eraseL l x z b) (fun l => eraseL_len l x z b)
  split
  · simp only []
    split
    · split
      · exact (h1.cont _ _).cont _ _
      · exact h1.cont _ _
    · exact h1
  · exact h
theorem PgInv.step {rows cols room : Nat} {g : Pg} (h : PgInv rows cols room g) (o : Pop) : PgInv rows cols room (stepP g o) := by
  unfold stepP
  split
  · exact h.row _ _ (fun l => putL_len l _ _ _)
  split
  · exact h.row _ _ (fun l => markL_len l _ _)
  split
  · exact h.erase _ _ _ _
  split
  · exact h.row _ _ (fun l => insertL_len l _ _ _)
  split
  · exact h.row _ _ (fun l => deleteL_len l _ _ _)
  split
  · exact h.cont _ _
  split
  · exact h.times _ _ _ _ (fun t b htb g' h' hb => h'.up htb hb _)
  split
  · exact h.times _ _ _ _ (fun t b htb g' h' hb => h'.down htb hb _)
  split
  · exact h.forget
  split
  · exact h.row _ _ closeL_len
  split
  · exact h.times _ _ _ _ (fun t b htb g' h' hb => h'.cut htb hb _)
  · exact h
end Go.Proofs.YtffdblmdelgkaaaGreat
