/- Joined by a tool of this claim out of smaller texts. Conditions: as stated. -/
import Derived.Test.YtjcpdcncfjkejaaGreatSw09
import Derived.Test.YtjcpdcncfjkejaaGreatSw21
set_option linter.unusedVariables false
set_option linter.unusedSimpArgs false
namespace Go.Proofs.YtjcpdcncfjkejaaGreat
open Go.RowKit
/-- The cells of the document's screen. -/
def encDs (s : Sc) (D : Nat) (vs : Value) : List Value :=
  [.pointer (some ⟨D, 0, none⟩), vs,
   .int .i64 s.pen.at_.fk, .int .i64 s.pen.at_.fn, .int .i64 s.pen.at_.bk, .int .i64 s.pen.at_.bn, .int .i64 s.pen.at_.fl,
   .int .i64 s.pen.ch.g0, .int .i64 s.pen.ch.g1, .int .i64 s.pen.ch.g2, .int .i64 s.pen.ch.g3, .int .i64 s.pen.ch.use, .int .i64 s.pen.ch.once,
   .bool s.pen.put, .bool s.pen.wrap, .bool s.pen.home,
   .int .i64 s.y, .int .i64 s.x, .int .i64 s.top, .int .i64 s.bot, .bool s.has,
   .int .i64 s.sp.at_.fk, .int .i64 s.sp.at_.fn, .int .i64 s.sp.at_.bk, .int .i64 s.sp.at_.bn, .int .i64 s.sp.at_.fl,
   .int .i64 s.sp.ch.g0, .int .i64 s.sp.ch.g1, .int .i64 s.sp.ch.g2, .int .i64 s.sp.ch.g3, .int .i64 s.sp.ch.use, .int .i64 s.sp.ch.once,
   .bool s.sp.put, .bool s.sp.wrap, .bool s.sp.home, .int .i64 s.sy, .int .i64 s.sx, .int .i32 s.last]
/-- Where the document's screen lies. -/
structure Mv where
  M : Nat
  q : Dv
  vs : Value
structure DmO (base : Nat) (w : World) (m : Mv) (s : Sc) : Prop where
  blk : w.heap[m.M]? = some (.cells (encDs s m.q.D m.vs).toArray 94 (0, 0))
  hb : base ≤ m.M
  doc : DcO base w m.q (dcOf s.pg)
  stops : DbO base w m.vs s.st
theorem info_ref06 : (Tryz.prog.info? 89).map (·.size) = some 6 := by kernel_rfl
theorem info_ref14p : (Tryz.prog.info? 91).map (·.size) = some 14 := by kernel_rfl
theorem rfirst06_any (w : World) : Calls Tryz.prog 48 #[] w fun e w' => e = .returned (chV firstCh) ∧ Below w.heap.size w w' := by
  go_enter Tryz.func48, Tryz.ntmps48
  go_wp2
  exact bodyPost_ret (ret_agg rfl _ _ w.heap.size (encCh firstCh) rfl (range_new (hp_new rfl)) Tryz.underlying89 rfl info_ref06) rfl ⟨rfl, below_allocs (Below.refl _ _) _⟩
set_option maxRecDepth 100000 in
set_option maxHeartbeats 1600000 in
theorem rfirst14_any (w : World) : Calls Tryz.prog 28 #[] w fun e w' => e = .returned (.agg (peL firstPe).toArray) ∧ Below w.heap.size w w' := by
  have HN := Lib.hid (fun w => rfirst06_any w)
  unfold chV at HN
  go_enter Tryz.func28, Tryz.ntmps28
  go_upto_region 1 with fail
  generalize hW : World.alloc _ _ = W
  have hb2 : Below w.heap.size w W := by rw [← hW]; exact below_allocs (Below.refl _ _) _
  have hc2 : W.heap[w.heap.size]? = some (.cells (peL zeroPe).toArray 91 (0, 0)) := by rw [← hW]; exact hp_new rfl
  clear hW
  refine wp_region_lit ?_
  refine wpList_callS rfl 48 #[] (by go_simp) (HN.out _) (.agg #[.int .i64 66, .int .i64 66, .int .i64 66, .int .i64 66, .int .i64 0, .int .i64 0]) (fun e w' h => h.1) ?_
  rintro w1 ⟨-, hb⟩
  simp only [Act.put, List.setIfInBounds_toArray, List.set_cons_zero, List.set_cons_succ]
  refine wpList_valG (.agg #[.bool false, .bool true, .bool false]) (by rfl) (by go_simp) ?_
  simp only [Act.put, List.setIfInBounds_toArray, List.set_cons_zero, List.set_cons_succ]
  refine wpList_valG (.agg (peL firstPe).toArray) (by rfl) (by go_simp; rfl) ?_
  simp only [Act.put, List.setIfInBounds_toArray, List.set_cons_zero, List.set_cons_succ]
  have hc3 := (hb.block _ (lt_of_heap hc2)).trans hc2
  have hb3 := below_tail hb2 hb
  refine wpList_store_mid rfl 91 (.tmp 0) (.tmp 3) rfl (w.heap.size) (0) ((peL firstPe).toArray) rfl rfl ((show World.there _ w.heap.size 0 14 from there_new hc3)) info_ref14p (all_oneCell_toArray (peL_one _)) ?_
  simp only [Act.put]
  go_wp2
  have hw := whole_setCells (peL firstPe) 0 _ _ hc3 (by simp [peL])
  exact bodyPost_ret (ret_agg rfl _ _ w.heap.size (peL firstPe) rfl (range_new hw) Tryz.underlying91 rfl info_ref14p) rfl ⟨rfl, below_setN hb3 (Nat.le_refl _) _ _⟩
def RNewPost (rows cols lines : Nat) (w : World) (e : Ending) (w' : World) : Prop :=
  ∃ m, e = .returned (.pointer (some ⟨m.M, 0, none⟩)) ∧ DmO w.heap.size w' m (newS rows cols lines (sizeT [] cols)) ∧ Below w.heap.size w w'
set_option maxRecDepth 100000 in
set_option maxHeartbeats 1600000 in
theorem rnew14_any (rows cols lines : Nat) (w : World) (hr1 : 1 ≤ rows) (hr2 : rows ≤ 1000) (hc1 : 2 ≤ cols) (hc2 : cols ≤ 1000) (hl : lines ≤ 100000) :
    Calls Tryz.prog 14 #[.int .i64 rows, .int .i64 cols, .int .i64 lines] w (RNewPost rows cols lines w) := by
  have HD := Lib.hid (rNew_any rows cols lines w hr2 hc1 hc2 hl)
  have HT := Lib.hid (fun w => rFirst_any cols w hc2)
  have HF := Lib.hid (fun w => rfirst14_any w)
  unfold peL at HF
  have hwr : IntKind.i64.wrap ((rows : Int) - 1) = (rows : Int) - 1 := IntWalk.i64_in _ (by omega)
  go_enter Tryz.func14, Tryz.ntmps14
  go_wp2_with (first
    | (go_at_call 26; refine HD.out.mono ?_; rintro e w1 ⟨q, rfl, hq, hb⟩; have HQ := Lib.hid hq; have HB1 := Lib.hid hb; clear hq hb)
    | (go_at_call 27; refine (HT.out _).mono ?_; rintro e w2 ⟨vs, rfl, ht, hb⟩; obtain ⟨A2, c2, rfl⟩ := row_form ht; have HTB := Lib.hid ht; have HB2 := Lib.hid hb; clear ht hb)
    | (go_at_call 28; refine (HF.out _).mono ?_; rintro e w3 ⟨rfl, hb⟩; have HB3 := Lib.hid hb; clear hb))
  go_ret
  have hba := below_allocs (Below.refl w3.heap.size w3) (.cells (encDs (newS rows cols lines (sizeT [] cols)) q.D (.slice A2 (sizeT [] cols).length c2)).toArray 94)
  have h1 := HB1.out.size
  have h2 := HB2.out.size
  have h3 := HB3.out.size
  have hq : DcO w.heap.size w1 q (dcOf (newS rows cols lines (sizeT [] cols)).pg) := HQ.out
  have ht : DbO w.heap.size w2 (.slice A2 (sizeT [] cols).length c2) (sizeT [] cols) := owns_weaken HTB.out h1
  exact ⟨⟨w3.heap.size, q, _⟩, rfl, ⟨hp_new rfl, by show w.heap.size ≤ w3.heap.size; omega, ((hq.below HB2.out).below HB3.out).below hba, (ht.below HB3.out).below hba⟩, below_tail (below_tail (below_tail HB1.out HB2.out) HB3.out) hba⟩
theorem RgO.weakenR {base base' : Nat} {w : World} {R : Nat} {vl : Value} {SL : List Rh} {room first n : Nat} {gone : Int} (h : RgO base w R vl SL room first n gone) (hb : base' ≤ base) : RgO base' w R vl SL room first n gone :=
  ⟨h.blk, owns_weaken h.own hb, Nat.le_trans hb h.hb, h.hroom, h.hn, h.hm, h.hf, h.rows⟩
theorem PgO.weakenP {base base' : Nat} {w : World} {q : Pv} {g : Pg} (h : PgO base w q g) (hb : base' ≤ base) : PgO base' w q g :=
  ⟨h.blk, Nat.le_trans hb h.hb, h.ring.weakenR hb, owns_weaken h.own hb, owns_weaken h.told hb, h.apart, h.scr, h.hist, h.rows, h.cols2, h.cols1000, h.rows1000, h.gone0⟩
theorem DcO.weakenD {base base' : Nat} {w : World} {q : Dv} {d : Dc} (h : DcO base w q d) (hb : base' ≤ base) : DcO base' w q d :=
  ⟨h.blk, Nat.le_trans hb h.hb, owns_weaken h.own hb, owns_weaken h.told hb, h.rl, h.rows, h.cols2, h.cols1000, h.gone0⟩
theorem ScO.weaken {base b2 : Nat} {w : World} {v : Sv} {s : Sc} (h : ScO base w v s) (hb : b2 ≤ base) : ScO b2 w v s := ⟨h.blk, Nat.le_trans hb h.hb, h.page.weakenP hb, h.tabs.weaken hb⟩
theorem DmO.weaken {base b2 : Nat} {w : World} {m : Mv} {s : Sc} (h : DmO base w m s) (hb : b2 ≤ base) : DmO b2 w m s := ⟨h.blk, Nat.le_trans hb h.hb, h.doc.weakenD hb, owns_weaken h.stops hb⟩
def MadeSPost (rows cols lines : Nat) (w : World) (e : Ending) (w' : World) : Prop :=
  ∃ v m, e = .returned (.tuple #[.pointer (some ⟨v.S, 0, none⟩), .pointer (some ⟨m.M, 0, none⟩)]) ∧ ScO w.heap.size w' v (newS rows cols lines (sizeT [] cols)) ∧ DmO w.heap.size w' m (newS rows cols lines (sizeT [] cols)) ∧ Below w.heap.size w w'
set_option maxRecDepth 100000 in
set_option maxHeartbeats 3200000 in
theorem madeS_any (a b c : Int) (w : World) (ha : 0 ≤ a) (hb : 0 ≤ b) (hc : 0 ≤ c) : Calls Tryz.prog 5 #[.agg #[.int .u8 a, .int .u8 b, .int .u8 c]] w (MadeSPost (1 + (a % 12).toNat) (2 + (b % 20).toNat) (c % 20).toNat w) := by
  obtain ⟨r0, hr0, hr1⟩ : ∃ r0 : Nat, a % 12 = (r0 : Int) ∧ r0 < 12 := ⟨(a % 12).toNat, by omega, by omega⟩
  obtain ⟨c0, hc0, hc1⟩ : ∃ r0 : Nat, b % 20 = (r0 : Int) ∧ r0 < 20 := ⟨(b % 20).toNat, by omega, by omega⟩
  obtain ⟨l0, hl0, hl1⟩ : ∃ r0 : Nat, c % 20 = (r0 : Int) ∧ r0 < 20 := ⟨(c % 20).toNat, by omega, by omega⟩
  rw [hr0, hc0, hl0, Int.toNat_natCast, Int.toNat_natCast, Int.toNat_natCast]
  rw [← Int.tmod_eq_emod_of_nonneg ha] at hr0
  rw [← Int.tmod_eq_emod_of_nonneg hb] at hc0
  rw [← Int.tmod_eq_emod_of_nonneg hc] at hl0
  obtain ⟨R, hR⟩ : ∃ R : Nat, R = 1 + r0 := ⟨_, rfl⟩
  obtain ⟨C, hC⟩ : ∃ R : Nat, R = 2 + c0 := ⟨_, rfl⟩
  rw [← hR, ← hC]
  have hRI : (1 : Int) + (r0 : Int) = (R : Int) := by omega
  have hCI : (2 : Int) + (c0 : Int) = (C : Int) := by omega
  have hwr : IntKind.i64.wrap (r0 : Int) = (r0 : Int) := IntWalk.i64_in _ (by omega)
  have hwc : IntKind.i64.wrap (c0 : Int) = (c0 : Int) := IntWalk.i64_in _ (by omega)
  have hwl : IntKind.i64.wrap (l0 : Int) = (l0 : Int) := IntWalk.i64_in _ (by omega)
  have hwR : IntKind.i64.wrap (R : Int) = (R : Int) := IntWalk.i64_in _ (by omega)
  have hwC : IntKind.i64.wrap (C : Int) = (C : Int) := IntWalk.i64_in _ (by omega)
  have HP := Lib.hid (fun w => snew_ok R C l0 w (by omega) (by omega) (by omega) (by omega) (by omega))
  have HD := Lib.hid (fun w => rnew14_any R C l0 w (by omega) (by omega) (by omega) (by omega) (by omega))
  have HB0 := Lib.hid (below_allocs (Below.refl w.heap.size w) (.cells #[.int .u8 a, .int .u8 b, .int .u8 c] 23))
  have x := hp_new (W := w) (b := w.heap.size) (o := .cells #[.int .u8 a, .int .u8 b, .int .u8 c] 23) rfl
  have x0 := (at_ x 0 _ rfl).1
  have x1 := (at_ x 1 _ rfl).1
  have x2 := (at_ x 2 _ rfl).1
  obtain ⟨W, hW⟩ : ∃ W, w.alloc (.cells #[.int .u8 a, .int .u8 b, .int .u8 c] 23) = W := ⟨_, rfl⟩
  rw [hW] at HB0 x0 x1 x2
  have x0 : W.cell? ⟨w.heap.size, 0, none⟩ = some (.int .u8 a) := x0
  have x1 : W.cell? ⟨w.heap.size, 1, none⟩ = some (.int .u8 b) := x1
  have x2 : W.cell? ⟨w.heap.size, 2, none⟩ = some (.int .u8 c) := x2
  have HW := Lib.hid hW
  clear hW x hR hC
  go_enter Tryz.func5, Tryz.ntmps5
  go_upto_region 1 with fail
  rw [HW.out]
  refine wp_region_u 16 (fun w' => Below W.heap.size W w' ∧ w'.cell? ⟨w.heap.size, 0, none⟩ = some (.int .u8 a) ∧ w'.cell? ⟨w.heap.size, 1, none⟩ = some (.int .u8 b) ∧ w'.cell? ⟨w.heap.size, 2, none⟩ = some (.int .u8 c)) (by kernel_rfl) (by kernel_rfl) ?_ ?_
  · exact ⟨(Below.refl _ _).drew, x0, x1, x2⟩
  simp only [List.take_succ_cons, List.take_zero, List.drop_succ_cons, List.drop_zero]
  repeat (
    (first
     | refine seqU_skip (by rfl) ?_
     | (refine seqU_val ?_ (by rfl) ?_ ?_; rotate_left; (focus (intro w' hS; obtain ⟨_, _, _, _⟩ := hS; go_simp; first | done | with_reducible rfl))))
    simp only [Act.put, List.setIfInBounds_toArray, List.set_cons_zero, List.set_cons_succ])
  refine seqU_nil (fun w' hS => ?_)
  have HB1 := Lib.hid (below_tail HB0.out hS.1)
  clear hS x0 x1 x2
  go_wp2_with (first
    | (go_at_call 11; (with_reducible refine (HP.out _).mono ?_); rintro e w2 ⟨v, rfl, hp, hb⟩; have HQ := Lib.hid hp; have HB2 := Lib.hid hb; clear hp hb)
    | (go_at_call 14; (with_reducible refine (HD.out _).mono ?_); rintro e w3 ⟨m, rfl, hd, hb⟩; have HQD := Lib.hid hd; have HB3 := Lib.hid hb; clear hd hb))
  go_ret2
  have hle := (below_tail HB1.out HB2.out).size
  exact ⟨v, m, rfl, (HQ.out.below HB3.out).weaken HB1.out.size, HQD.out.weaken hle, below_tail (below_tail HB1.out HB2.out) HB3.out⟩
end Go.Proofs.YtjcpdcncfjkejaaGreat

namespace Go.Proofs.YtjcpdcncfjkejaaGreat
open Go.RowKit
section
variable {base : Nat} {w : World} {v : Sv} {s : Sc}
theorem Wr.sci {rows cols room i : Nat} (h : Wr rows cols room i s) (h0 : 1 ≤ rows) : ScI s := by
  obtain ⟨a, y, x, e1, e2, e3, e4, e5, e6, e7, e8⟩ := h.a
  refine ⟨by omega, ?_, by omega, ?_, ?_, ?_, ?_⟩
  · rw [h.inv.hrows]; omega
  · rw [h.inv.hcols]; omega
  · rw [h.top]; omega
  · rw [h.top, h.bot]; omega
  · rw [h.bot, h.inv.hrows]; omega
theorem print_then {rows cols room i : Nat} {s0 : Sc} {wr : World} (hw : ∀ n, Wr rows cols room n (wrS s0 n)) (h0 : 1 ≤ rows) (hi : i ≤ 1000) (hs : ScRes base w v (wrS s0 i) wr) : Calls Tryz.prog 8 #[.pointer (some ⟨v.S, 0, none⟩), .int .i32 (97 + (i : Int) % 26)] wr (fun e w' => e = .returned (.tuple #[]) ∧ ScRes base w v (wrS s0 (i + 1)) w') := by
  obtain ⟨v1, e1, e2, e3, hO, hm, hx⟩ := hs
  have ht := (hw i).told
  rw [← e1]
  exact (sPrint_any hO ((hw i).sci h0) (by omega) (97 + (i : Int) % 26)).mono fun e w' hp => ⟨hp.1, ScRes.trans ⟨e1, e2, e3, hm, hx⟩ hp.2⟩
theorem run_at (s : Sc) (w : World) : (Instr.field 59 (.agg (stL s).toArray) 0).run Tryz.prog w = .ok (.agg #[.int .i64 s.y, .int .i64 s.x]) w := by
  have h := Tryz.underlying59
  have ha := Tryz.isAgg52 w
  have hs := Tryz.sizeOf52 w
  have e : (Instr.field 59 (.agg (stL s).toArray) 0).run Tryz.prog w = .ok (.agg ((stL s).toArray.extract 0 2)) w := by
    simp [Instr.field, part, run_underlying h, asAgg, ha, hs, Result.andThen, go_sem]
  rw [e]
  rfl
theorem row_in {q : Pv} {g : Pg} (h : PgO base w q g) (i : Nat) (r : Ro) (hr : (g.hist ++ g.scr)[i]? = some r) : Calls Tryz.prog 13 #[.pointer (some ⟨q.P, 0, none⟩), .int .i64 i] w (GetPost r w) := by
  by_cases hc : i < g.hist.length
  · exact pRow_hist h i r (by rwa [List.getElem?_append_left hc] at hr)
  · rw [List.getElem?_append_right (by omega)] at hr
    exact pRow_scr h i (i - g.hist.length) r (by omega) hr
def AwPost (w : World) (e : Ending) (w' : World) : Prop := e = .returned (.bool true) ∧ Below w.heap.size w w'
set_option maxRecDepth 100000 in
set_option maxHeartbeats 3200000 in
theorem awake14_any (w : World) : Calls Tryz.prog 4 #[] w (AwPost w) := by
  have HN := Lib.hid (fun w => snew_ok 2 3 5 w (by decide) (by decide) (by decide) (by decide) (by decide))
  obtain ⟨s0, hs0⟩ : ∃ s0, newS 2 3 5 (sizeT [] 3) = s0 := ⟨_, rfl⟩
  have hw : ∀ n, Wr 2 3 5 n (wrS s0 n) := wr_all (by rw [← hs0]; exact wr_new (by decide)) (by decide) (by decide)
  have f3 : (wrS s0 3).y = 0 ∧ (wrS s0 3).x = 3 := by rw [← hs0]; exact ⟨rfl, rfl⟩
  have f4 : (wrS s0 4).y = 1 ∧ (wrS s0 4).x = 1 := by rw [← hs0]; exact ⟨rfl, rfl⟩
  have f5 : ((wrS s0 4).pg.hist ++ (wrS s0 4).pg.scr)[1]?.map (·.cont) = some true := by rw [← hs0]; rfl
  have HW := Lib.hid hw
  have F3 := Lib.hid f3
  have F4 := Lib.hid f4
  have F5 := Lib.hid f5
  unfold SNewPost at HN
  rw [hs0] at HN
  clear hw f3 f4 f5 hs0
  go_enter Tryz.func4, Tryz.ntmps4
  go_upto_region 4 with (go_at_call 11; refine (HN.out _).mono ?_; rintro e w1 ⟨v, rfl, hO, hb⟩; have HO := Lib.hid hO; have HB := Lib.hid hb; clear hO hb)
  rename World => W1
  obtain ⟨W2, hW2⟩ : ∃ W2, W1.alloc (.cells #[.int .i32 97, .int .i32 98, .int .i32 99] 21) = W2 := ⟨_, rfl⟩
  have hb2 : Below W1.heap.size W1 W2 := by rw [← hW2]; exact below_allocs (Below.refl _ _) _
  have HNW := Lib.hid (show W2.heap[W1.heap.size]? = some (.cells #[.int .i32 97, .int .i32 98, .int .i32 99] 21 (0, 0)) from by rw [← hW2]; exact hp_new rfl)
  have HO2 := Lib.hid (HO.out.below hb2)
  have HB2 := Lib.hid (below_tail HB.out hb2)
  have HNX := Lib.hid (show W1.heap.size ∉ scX v from fun hx => by have := (HO.out.lt _ hx).2; omega)
  have HRS := Lib.hid hW2
  clear hb2 hW2
  go_wp2_with fail
  rw [HRS.out]
  go_loopw [4, 20] (fun _ s20 wr => ∃ i : Nat, s20 = .int .i64 i ∧ i ≤ 3 ∧ ScRes w.heap.size W2 v (wrS s0 i) wr) (fun _ s20 _ => 3 - (intOf s20).toNat)
  case atStart => exact ⟨0, rfl, by decide, HO2.out.res⟩
  case round =>
    obtain ⟨i, rfl, hi, hs⟩ := hrel
    have HS := Lib.hid hs
    have HC := Lib.hid (fun k u (h : W2.cell? ⟨W1.heap.size, k, none⟩ = some u) => (show Mod (scX v) W2 wr from by obtain ⟨-, -, -, -, -, hm, -⟩ := hs; exact hm).cell HNX.out h)
    clear hs
    by_cases hlt : i < 3
    · have HP := Lib.hid (print_then HW.out (by decide) (by omega) HS.out)
      have HBI : i = 0 ∨ i = 1 ∨ i = 2 := by omega
      rcases HBI with rfl | rfl | rfl
      all_goals
        have c0 := HC.out 0 _ (at_ HNW.out 0 _ rfl).1
        have c1 := HC.out 1 _ (at_ HNW.out 1 _ rfl).1
        have c2 := HC.out 2 _ (at_ HNW.out 2 _ rfl).1
        first
          | rw [show (97 : Int) + ((0 : Nat) : Int) % 26 = 97 from by decide] at HP
          | rw [show (97 : Int) + ((1 : Nat) : Int) % 26 = 98 from by decide] at HP
          | rw [show (97 : Int) + ((2 : Nat) : Int) % 26 = 99 from by decide] at HP
        go_wp2_with (go_at_call 8; refine HP.out.mono ?_; rintro e w4 ⟨rfl, hs⟩; have HS4 := Lib.hid hs; clear hs)
        go_roundw
        case rel => exact ⟨_, rfl, by decide, HS4.out⟩
        case measure => simp [intOf]
    · obtain rfl : i = 3 := by omega
      have HST : Hid (Calls Tryz.prog 12 #[.pointer (some ⟨v.S, 0, none⟩)] wr (StPost (wrS s0 3) wr)) := Lib.hid (by
        obtain ⟨v3, e1, -, -, hO3, -⟩ := HS.out
        rw [← e1]; exact sState_any hO3)
      unfold StPost at HST
      have hat := fun w => run_at (wrS s0 3) w
      simp only [F3.out.1, F3.out.2] at hat
      clear HC
      go_upto_region 10 with (go_at_call 12; refine HST.out.mono ?_; rintro e w4 ⟨rfl, hb⟩; have HS4 := Lib.hid (HS.out.post hb); clear hb)
      have HP := Lib.hid (print_then HW.out (by decide) (by decide) HS4.out)
      rw [show (97 : Int) + ((3 : Nat) : Int) % 26 = 100 from by decide] at HP
      go_upto_region 11 with (go_at_call 8; refine HP.out.mono ?_; rintro e w5 ⟨rfl, hs⟩; have HS5 := Lib.hid hs; clear hs)
      obtain ⟨v5, e1, e2, e3, hO5, hm5, hx5⟩ := HS5.out
      obtain ⟨r, hr, hrc⟩ : ∃ r, ((wrS s0 4).pg.hist ++ (wrS s0 4).pg.scr)[1]? = some r ∧ r.cont = true := by
        have := F5.out
        cases h : ((wrS s0 4).pg.hist ++ (wrS s0 4).pg.scr)[1]? with
        | none => rw [h] at this; cases this
        | some r => rw [h] at this; exact ⟨r, rfl, by simpa using this⟩
      have HPG := Lib.hid (sPage_any hO5)
      have HRW := Lib.hid (row_in hO5.page 1 r hr)
      unfold GetPost at HRW
      rw [hrc] at HRW
      rw [e1] at HPG
      have HSt2 : Hid (∀ w', Below w5.heap.size w5 w' → Calls Tryz.prog 12 #[.pointer (some ⟨v.S, 0, none⟩)] w' (StPost (wrS s0 4) w')) := Lib.hid (fun w' hb => by rw [← e1]; exact sState_any (hO5.below hb))
      unfold StPost at HSt2
      clear hat
      have hat := fun w => run_at (wrS s0 4) w
      simp only [F4.out.1, F4.out.2] at hat
      have HB5 : Hid (Below w.heap.size w w5) := Lib.hid (HB2.out.trans (hm5.below (B := w.heap.size) (fun b hb => (HO2.out.lt b hb).1) HB2.out.size))
      clear hO5 hm5 hx5 e1 e2 e3 hr hrc
      go_upto_region 12 with (first
        | (go_at_call 6; refine HPG.out.mono ?_; rintro e w6 ⟨rfl, rfl⟩)
        | (go_at_call 13; refine HRW.out.mono ?_; rintro e w7 ⟨gr, cap, rfl, -, hb⟩; have HB7 := Lib.hid hb; clear hb))
      have hc8 : (w7.alloc (.cells #[.slice (some ⟨gr, 0, none⟩) r.cs.length cap, .bool true] 39)).heap[w7.heap.size]? = some (.cells #[.slice (some ⟨gr, 0, none⟩) r.cs.length cap, .bool true] 39 (0, 0)) := hp_new rfl
      have hb8 := below_tail HB7.out (below_allocs (Below.refl w7.heap.size w7) (.cells #[.slice (some ⟨gr, 0, none⟩) r.cs.length cap, .bool true] 39))
      generalize World.alloc _ _ = W8 at hc8 hb8 ⊢
      have HC8 := Lib.hid hc8
      have HB8 := Lib.hid hb8
      clear hc8 hb8
      go_wp2_with (go_at_call 12; refine (HSt2.out _ HB8.out).mono ?_; rintro e w9 ⟨rfl, hb⟩; obtain ⟨y1, -⟩ := at_ ((hb.block _ (lt_of_heap HC8.out)).trans HC8.out) 1 _ rfl; have HB9 := Lib.hid hb; clear hb)
      go_ret
      exact ⟨rfl, below_tail (below_tail HB5.out HB8.out) HB9.out⟩
end
set_option maxRecDepth 100000 in
set_option maxHeartbeats 3200000 in
theorem ScreenWrites_walk (a b c : Int) (N : Nat) (w : World) (ha : 0 ≤ a) (hb : 0 ≤ b) (hc : 0 ≤ c) (hN : N ≤ 255) : Calls Tryz.prog 3 #[.agg #[.int .u8 a, .int .u8 b, .int .u8 c], .int .u8 N] w (AwPost w) := by
  have HA := Lib.hid (fun w => awake14_any w)
  have HM := Lib.hid (fun w => madeS_any a b c w ha hb hc)
  obtain ⟨R, hR⟩ : ∃ R, 1 + (a % 12).toNat = R := ⟨_, rfl⟩
  obtain ⟨C, hC⟩ : ∃ C, 2 + (b % 20).toNat = C := ⟨_, rfl⟩
  obtain ⟨Lr, hL⟩ : ∃ C, (c % 20).toNat = C := ⟨_, rfl⟩
  have hR1 : 1 ≤ R := by omega
  have hC1 : 2 ≤ C := by omega
  have hC2 : C ≤ 30 := by omega
  obtain ⟨s0, hs0⟩ : ∃ s0, newS R C Lr (sizeT [] C) = s0 := ⟨_, rfl⟩
  have hw : ∀ n, Wr R C Lr n (wrS s0 n) := wr_all (by rw [← hs0]; exact wr_new hR1) hR1 hC1
  unfold MadeSPost at HM
  rw [hR, hC, hL, hs0] at HM
  have HW := Lib.hid hw
  have hwN : IntKind.i64.wrap (N : Int) = (N : Int) := IntWalk.i64_in _ (by omega)
  clear hw hs0 hR hC hL
  go_enter Tryz.func3, Tryz.ntmps3
  go_upto_region 6 with (first
    | (go_at_call 4; refine (HA.out _).mono ?_; rintro e w1 ⟨rfl, hb1⟩; have hB := below_tail (show Below w.heap.size w _ from by repeat (first | exact Below.refl _ _ | refine below_allocs ?_ _ | refine below_drewNs ?_ _ | refine Below.drew ?_)) hb1; have p0 := at_new (b := w.heap.size) hb1 (by repeat (first | (refine hp_new ?_; simp; done) | refine hp_old ?_ | refine hp_drewN ?_ | refine hp_drew ?_)) 0 (.int .u8 a) rfl; have p1 := at_new (b := w.heap.size) hb1 (by repeat (first | (refine hp_new ?_; simp; done) | refine hp_old ?_ | refine hp_drewN ?_ | refine hp_drew ?_)) 1 (.int .u8 b) rfl; have p2 := at_new (b := w.heap.size) hb1 (by repeat (first | (refine hp_new ?_; simp; done) | refine hp_old ?_ | refine hp_drewN ?_ | refine hp_drew ?_)) 2 (.int .u8 c) rfl)
    | (go_at_call 5; refine (HM.out _).mono ?_; rintro e w2 ⟨v, m, rfl, hO, -, hb2⟩; have HO := Lib.hid hO; have HB2 := Lib.hid (below_tail hB hb2); have HW1 := Lib.hid hB.size; clear hO hb2))
  clear p0 p1 p2 hB hb1
  rename World => W2
  have HPA := Lib.hid (sPage_any HO.out)
  have HCO := Lib.hid (pCols_any HO.out.page)
  have hcols : s0.pg.cols = C := (HW.out 0).inv.hcols
  rw [hcols] at HCO
  have HCS := Lib.hid hcols
  clear hcols
  go_upto_region 7 with (first
    | (go_at_call 6; refine HPA.out.mono ?_; rintro e w3 ⟨rfl, rfl⟩)
    | (go_at_call 7; refine HCO.out.mono ?_; rintro e w4 ⟨rfl, rfl⟩))
  clear HPA HCO
  go_wp2_with fail
  go_loopw [8] (fun s8 wr => ∃ i : Nat, s8 = .int .i64 i ∧ i ≤ N ∧ ScRes w1.heap.size W2 v (wrS s0 i) wr) (fun s8 _ => N - (intOf s8).toNat)
  case atStart => exact ⟨0, rfl, Nat.zero_le _, HO.out.res⟩
  case round =>
    obtain ⟨i, rfl, hi, hs⟩ := hrel
    have HS := Lib.hid hs
    clear hs
    by_cases hlt : i < N
    · have hltI : (i : Int) < (N : Int) := by omega
      have htm : (i : Int).tmod 26 = (i : Int) % 26 := Int.tmod_eq_emod_of_nonneg (by omega)
      have hw1 : IntKind.i64.wrap (97 + (i : Int) % 26) = 97 + (i : Int) % 26 := IntWalk.i64_in _ (by omega)
      have hw2 : IntKind.i32.wrap (97 + (i : Int) % 26) = 97 + (i : Int) % 26 := IntWalk.i32_in _ (by omega)
      have HP := Lib.hid (print_then HW.out hR1 (by omega) HS.out)
      go_wp2_with (go_at_call 8; refine HP.out.mono ?_; rintro e w4 ⟨rfl, hs⟩; have HS4 := Lib.hid hs; clear hs)
      go_roundw
      case rel => exact ⟨i + 1, by go_num, by omega, HS4.out⟩
      case measure => simp [intOf]; omega
    · obtain rfl : i = N := by omega
      have hltI : ¬ (i : Int) < (i : Int) := by omega
      rename World => W3
      obtain ⟨v3, e1, e2, e3, hO3, hm3, hx3⟩ := HS.out
      have HO3 := Lib.hid hO3
      have hWN := HW.out i
      obtain ⟨a0, hg, hga⟩ := wr_gone hWN hC1
      have ha0 : a0 ≤ 255 := Nat.le_trans (Nat.le_mul_of_pos_right a0 (show 0 < C by omega)) (by omega)
      have HPG := Lib.hid (sPage_any hO3)
      rw [e1] at HPG
      have HAL := Lib.hid (pAll_any hO3.page)
      have HPG2 : Hid (∀ w', Below W3.heap.size W3 w' → Calls Tryz.prog 6 #[.pointer (some ⟨v.S, 0, none⟩)] w' fun e w2 => e = .returned (.pointer (some ⟨v3.q.P, 0, none⟩)) ∧ w' = w2) := Lib.hid (fun w' hb => by rw [← e1]; exact sPage_any (hO3.below hb))
      have HGN : Hid (∀ w', Below W3.heap.size W3 w' → Calls Tryz.prog 10 #[.pointer (some ⟨v3.q.P, 0, none⟩)] w' fun e w2 => e = .returned (.int .u64 a0) ∧ w' = w2) := Lib.hid (fun w' hb => by
        have := pGone_any (hO3.below hb).page
        rw [hg, show (a0 : Int) % 18446744073709551616 = (a0 : Int) by omega] at this
        exact this)
      have HWN := Lib.hid hWN
      have HG := Lib.hid hg
      have hwa : IntKind.i64.wrap (a0 : Int) = (a0 : Int) := IntWalk.i64_in _ (by omega)
      obtain ⟨i0, hi0⟩ : ∃ i0 : Nat, a0 * C = i0 := ⟨_, rfl⟩
      have hmul : (a0 : Int) * (C : Int) = (i0 : Int) := by rw [← hi0]; simp
      have hwi : IntKind.i64.wrap (i0 : Int) = (i0 : Int) := IntWalk.i64_in _ (by omega)
      have HI0 := Lib.hid hi0
      rw [hi0] at hga
      have HB3 : Hid (Below w.heap.size w W3) := Lib.hid (HB2.out.trans (hm3.below (B := w.heap.size) (fun b hb => Nat.le_trans HW1.out (HO.out.lt b hb).1) HB2.out.size))
      clear hO3 hm3 hx3 e1 e2 e3 hWN hg hi0
      go_upto_region 13 with (first
        | (go_at_call 9; refine HAL.out.mono ?_; rintro e w5 ⟨va, L, rfl, hra, hmp, hb⟩; obtain ⟨AL, cL, rfl⟩ := row_form hra.1; have HRA := Lib.hid hra; have HMP := Lib.hid hmp; have HB5 := Lib.hid hb; clear hra hmp hb)
        | (go_at_call 10; refine (HGN.out _ HB5.out).mono ?_; rintro e w6 ⟨rfl, rfl⟩)
        | (go_at_call 6; first
            | (refine (HPG2.out _ HB5.out).mono ?_; rintro e w6 ⟨rfl, rfl⟩)
            | (refine HPG.out.mono ?_; rintro e w6 ⟨rfl, rfl⟩)))
      rename World => W5
      clear HPG HPG2 HGN HAL
      go_wp2_with fail
      go_loopw [11, 12] (fun s11 _ wr => ∃ j : Nat, s11 = .int .i64 j ∧ i0 ≤ j ∧ (j ≤ i ∨ j = i0) ∧ Below W5.heap.size W5 wr) (fun s11 _ _ => i - (intOf s11).toNat)
      case atStart => exact ⟨i0, rfl, Nat.le_refl _, .inr rfl, Below.refl _ _⟩
      case round =>
        obtain ⟨j, rfl, hj0, hj1, hbj⟩ := hrel
        have HBJ := Lib.hid hbj
        clear hbj
        by_cases hlj : j < i
        rotate_left
        · have hljI : ¬ (j : Int) < (i : Int) := by omega
          go_wp2
          go_ret
          exact ⟨rfl, below_tail (below_tail HB3.out HB5.out) HBJ.out⟩
        · have hljI : (j : Int) < (i : Int) := by omega
          obtain ⟨y, hy, r, hr, hrl, ⟨c, hc, hcr⟩, hrc⟩ := wr_end HWN.out hC1 (i := j) (by rw [HG.out]; have := HI0.out; rw [hmul]; omega) hlj
          rw [← HMP.out, List.getElem?_map] at hr
          obtain ⟨rh, hrh, hro⟩ := Option.map_eq_some_iff.1 hr
          obtain ⟨Ar, cs, cap, cont⟩ := rh
          subst hro
          simp only [roOf] at hrl hc hrc
          have hyL : y < L.length := (List.getElem?_eq_some_iff.1 hrh).1
          obtain ⟨ga, rfl⟩ := owns_addr HRA.out.1 (by omega)
          have hown := HRA.out.1
          obtain ⟨z0, -⟩ := owns_hold hown (i := y * 2 + 0) (v := .slice Ar cs.length cap) (flat_at2 encRh_len L y _ 0 hrh (by decide))
          obtain ⟨z1, -⟩ := owns_hold hown (i := y * 2 + 1) (v := .bool cont) (flat_at2 encRh_len L y _ 1 hrh (by decide))
          obtain ⟨-, -, hgr, -⟩ := (HRA.out.2 _ (List.mem_of_getElem? hrh)).1
          simp only [] at hgr
          obtain ⟨bb, off, rfl, hcl⟩ := hgr (by omega)
          have z2 := hcl _ c hc 0 (.int .i32 c.r) rfl
          rw [HG.out] at hy
          obtain ⟨q0, hq0⟩ : ∃ q0, j / C = q0 := ⟨_, rfl⟩
          obtain ⟨x0, hx0⟩ : ∃ x0, j % C = x0 := ⟨_, rfl⟩
          rw [hq0] at hy hrc
          rw [hx0] at z2
          rw [hcr, Nat.add_zero] at z2
          rw [hrl, Nat.add_zero] at z0
          replace z0 := holda HBJ.out z0
          replace z1 := holda HBJ.out z1
          replace z2 := holda HBJ.out z2
          have hxC : x0 < C := by rw [← hx0]; exact Nat.mod_lt _ (by omega)
          have hxCI : (x0 : Int) < (C : Int) := by omega
          have hyLI : (y : Int) < (L.length : Int) := by omega
          have hnge : ¬ (L.length : Int) ≤ (y : Int) := by omega
          have hC0 : ¬ (C : Int) = 0 := by omega
          have hC00 : ¬ C = 0 := by omega
          have hqj : q0 ≤ j := by rw [← hq0]; exact Nat.div_le_self _ _
          have hdv : (j : Int) / (C : Int) = (q0 : Int) := by rw [← hq0]; simp
          have hdt : (j : Int).tdiv (C : Int) = (q0 : Int) := by rw [Int.tdiv_eq_ediv_of_nonneg (by omega)]; exact hdv
          have hmd : (j : Int).tmod (C : Int) = (x0 : Int) := by rw [Int.tmod_eq_emod_of_nonneg (by omega), ← hx0]; simp
          have hwq : IntKind.i64.wrap (q0 : Int) = (q0 : Int) := IntWalk.i64_in _ (by omega)
          have hys : (q0 : Int) - (a0 : Int) = (y : Int) := by omega
          have hwy : IntKind.i64.wrap (y : Int) = (y : Int) := IntWalk.i64_in _ (by omega)
          have htm : (j : Int).tmod 26 = (j : Int) % 26 := Int.tmod_eq_emod_of_nonneg (by omega)
          have hw1 : IntKind.i64.wrap (97 + (j : Int) % 26) = 97 + (j : Int) % 26 := IntWalk.i64_in _ (by omega)
          have hw2 : IntKind.i32.wrap (97 + (j : Int) % 26) = 97 + (j : Int) % 26 := IntWalk.i32_in _ (by omega)
          clear hcl hgr hown hr hrh hc hcr hq0 hx0 hrl
          have HY := Lib.hid hy
          clear hy
          have hcd : cont = decide ((0 : Int) < (q0 : Int)) := by rw [hrc]; congr 1; apply propext; omega
          subst hcd
          clear hrc
          go_upto_region 17 with fail
          rename World => W6
          refine wp_region_u 43 (fun w' => Below W6.heap.size W6 w' ∧ w'.cell? ⟨ga, y * 2, none⟩ = some (.slice (some ⟨bb, off, none⟩) C cap) ∧ w'.cell? ⟨ga, y * 2 + 1, none⟩ = some (.bool (decide ((0 : Int) < (q0 : Int)))) ∧ w'.cell? ⟨bb, off + x0 * 8, none⟩ = some (.int .i32 (97 + (j : Int) % 26))) (by kernel_rfl) (by kernel_rfl) ?_ ?_
          · exact ⟨(Below.refl _ _).drew, z0, z1, z2⟩
          simp only [List.take_succ_cons, List.take_zero, List.drop_succ_cons, List.drop_zero]
          repeat (
            (first
             | refine seqU_skip (by rfl) ?_
             | (refine seqU_val ?_ (by rfl) ?_ ?_; rotate_left; (focus (intro w' hS; obtain ⟨_, _, _, _⟩ := hS; go_simp; first | done | with_reducible rfl))))
            simp only [Act.put, List.setIfInBounds_toArray, List.set_cons_zero, List.set_cons_succ])
          refine seqU_nil (fun w' hS => ?_)
          have HB7 := Lib.hid hS.1
          clear hS z0 z1 z2
          go_wp2
          go_roundw
          case rel => exact ⟨j + 1, by go_num, by omega, by omega, below_tail HBJ.out HB7.out⟩
          case measure => simp [intOf]; omega
end Go.Proofs.YtjcpdcncfjkejaaGreat

namespace Go.Proofs.YtjcpdcncfjkejaaGreat
open Go.RowKit
theorem cellsSz : Tryz.prog.cellsOf 23 = 3 := by kernel_rfl
theorem ScreenWrites_in (a b c n : Int) (w : World) (ha : (Lit.int .u8 a).wf = true) (hb : (Lit.int .u8 b).wf = true) (hc : (Lit.int .u8 c).wf = true) (hn : (Lit.int .u8 n).wf = true) :
    Calls Tryz.prog 3 #[.agg #[.int .u8 a, .int .u8 b, .int .u8 c], .int .u8 n] w (AwPost w) := by
  obtain ⟨h1, h2⟩ := u8_of_wf hn
  obtain ⟨N, rfl⟩ := Int.eq_ofNat_of_zero_le h1
  exact ScreenWrites_walk a b c N w (u8_of_wf ha).1 (u8_of_wf hb).1 (u8_of_wf hc).1 (by omega)
end Go.Proofs.YtjcpdcncfjkejaaGreat
