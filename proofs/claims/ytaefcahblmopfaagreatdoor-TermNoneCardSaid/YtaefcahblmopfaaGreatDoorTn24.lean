/- Joined by a tool of this claim out of smaller texts. Conditions: as stated. -/
import Derived.Test.YtaefcahblmopfaaGreatDoorTn23
import Derived.LoopN
import Derived.Deep.OwnRows
import Derived.Lib.TrailingZeros
import Derived.Lib.BitFns
import Derived.Deep.CutBlock
import Derived.Deep.DeepCutAuto
import Derived.Laws.BitsAllLaws
set_option linter.unusedVariables false
set_option linter.unusedSimpArgs false
namespace Go.Proofs.YtaefcahblmopfaaGreatDoor
open Go.RowKit
set_option maxRecDepth 100000 in
theorem rfits_any (r c : Int) (w : World) : Calls Tryz.prog 29 #[.int .i64 r, .int .i64 c] w fun e w' => e = .returned (.bool (fitsB r c)) ∧ w = w' := by
  unfold fitsB
  by_cases h1 : 1 ≤ r <;> by_cases h2 : r ≤ 1000 <;> by_cases h3 : 2 ≤ c <;>
  · have e1 : (0 < r) = (1 ≤ r) := by simp only [eq_iff_iff]; omega
    have e2 : (1 < c) = (2 ≤ c) := by simp only [eq_iff_iff]; omega
    go_enter Tryz.func29, Tryz.ntmps29
    go_wp2
    go_ret
    refine ⟨?_, rfl⟩
    simp [h1, h2, h3]
    try omega
theorem results_cell_tmp2 {P : Program} {fn : Func} {p u u2 : Tmp} {ty : TypeId} (h : fn.results = #[.cell p ty, .tmp u, .tmp u2]) (tmps : Array Value) (w : World) :
    (results fn tmps).run P w = ((asAddr (tmps.getD p undef)).run P w).andThen fun a w₁ => ((loadVar ty a).run P w₁).andThen fun v w₂ => .ok (.tuple #[v, tmps.getD u undef, tmps.getD u2 undef]) w₂ := by
  simp only [results, h]
  simp [Sem.run_bind, Result.andThen]
theorem info_posq : (Tryz.prog.info? 34).map (·.size) = some 2 := by kernel_rfl
theorem ret_pos3 {fn : Func} {p u u2 : Tmp} (hr : fn.results = #[.cell p 34, .tmp u, .tmp u2]) (tmps : Array Value) (w : World) (b : Nat) (x y z z2 : Value) (hp : tmps.getD p undef = .pointer (some ⟨b, 0, none⟩)) (hu : tmps.getD u undef = z) (hu2 : tmps.getD u2 undef = z2) (h0 : w.cell? ⟨b, 0, none⟩ = some x) (h1 : w.cell? ⟨b, 1, none⟩ = some y) :
    (results fn tmps).run Tryz.prog w = .ok (.tuple #[.agg #[x, y], z, z2]) w := by
  rw [results_cell_tmp2 hr, hp, hu, hu2]
  have := run_loadVar_mid (P := Tryz.prog) w b 0 34 [x, y] _ (fun j v hj => by
    rw [Nat.zero_add]
    match j, hj with
    | 0, hj => simp at hj; subst hj; exact h0
    | 1, hj => simp at hj; subst hj; exact h1) Tryz.underlying34 rfl info_posq
  simp only [asAddr, Sem.run_pure, Result.andThen_ok, this]
set_option maxRecDepth 100000 in
set_option maxHeartbeats 1600000 in
theorem pResize_nil (r c a b : Int) (v : Value) (w : World) : Calls Tryz.prog 79 #[.pointer none, .int .i64 r, .int .i64 c, .agg #[.int .i64 a, .int .i64 b], v] w fun e w' => e = .returned (.tuple #[.agg #[.int .i64 0, .int .i64 0], .slice none 0 0, .int .i64 1]) ∧ Below w.heap.size w w' := by
  have HL := Lib.hid (below_allocs (below_allocs (Below.refl w.heap.size w) (.cells #[.int .i64 a, .int .i64 b] 34)) (.cells #[.int .i64 0, .int .i64 0] 34))
  go_enter Tryz.func79, Tryz.ntmps79
  go_wp2
  have hp := hp_new (W := w.alloc (.cells #[.int .i64 a, .int .i64 b] 34)) (b := w.heap.size + 1) (o := .cells #[.int .i64 0, .int .i64 0] 34) (by simp)
  exact bodyPost_ret (ret_pos3 rfl _ _ (w.heap.size + 1) _ _ _ _ rfl rfl rfl (at_ hp 0 _ rfl).1 (at_ hp 1 _ rfl).1) rfl ⟨rfl, HL.out⟩
end Go.Proofs.YtaefcahblmopfaaGreatDoor

namespace Go.Proofs.YtaefcahblmopfaaGreatDoor
open Go.RowKit
section
variable (a b r : Int) (A : Option Addr) (n c : Nat) (v : Value) (cs : Array Value) (w : World)
theorem nPage : Calls Tryz.prog 78 #[.pointer none] w fun e w' => e = .returned (.pointer none) ∧ w = w' := by
  go_enter Tryz.func78, Tryz.ntmps78
  go_wp2
  go_ret
  exact ⟨rfl, rfl⟩
end
end Go.Proofs.YtaefcahblmopfaaGreatDoor

namespace Go.Proofs.YtaefcahblmopfaaGreatDoor
open Go.RowKit
section
variable {base : Nat} {w : World} {v : Sv} {s : Sc}
theorem run_at (s : Sc) (w : World) : (Instr.field 103 (.agg (stL s).toArray) 0).run Tryz.prog w = .ok (.agg #[.int .i64 s.y, .int .i64 s.x]) w := by
  have h := Tryz.underlying103
  have ha := Tryz.isAgg34 w
  have hs := Tryz.sizeOf34 w
  have e : (Instr.field 103 (.agg (stL s).toArray) 0).run Tryz.prog w = .ok (.agg ((stL s).toArray.extract 0 2)) w := by
    simp [Instr.field, part, run_underlying h, asAgg, ha, hs, Result.andThen, go_sem]
  rw [e]
  rfl
def AwPost (w : World) (e : Ending) (w' : World) : Prop := e = .returned (.bool true) ∧ Below w.heap.size w w'
end
end Go.Proofs.YtaefcahblmopfaaGreatDoor

namespace Go.Proofs.YtaefcahblmopfaaGreatDoor
open Go.RowKit
def zeroSt : List Value := [.int .i64 0, .int .i64 0, .int .i64 0, .int .i64 0, .int .i64 0, .int .i64 0, .int .i64 0, .int .i64 0, .int .i64 0, .int .i64 0, .int .i64 0, .int .i64 0, .int .i64 0, .bool false, .bool false, .bool false, .int .i64 0, .int .i64 0, .bool false]
def zeroS : Sc := ⟨newP 1 2 0, [], zeroPe, 0, 0, 0, 0, zeroPe, 0, 0, false, 0⟩
theorem zero_at (w : World) : (Instr.field 103 (.agg zeroSt.toArray) 0).run Tryz.prog w = .ok (.agg #[.int .i64 0, .int .i64 0]) w := run_at zeroS w
theorem zeroSt_one : ∀ v ∈ zeroSt, v.oneCell' = true := fun v hv => by
  simp only [zeroSt, List.mem_cons, List.not_mem_nil, or_false] at hv
  rcases hv with rfl | rfl | rfl | rfl | rfl | rfl | rfl | rfl | rfl | rfl | rfl | rfl | rfl | rfl | rfl | rfl | rfl | rfl | rfl <;> rfl
set_option maxRecDepth 100000 in
theorem nState (w : World) : Calls Tryz.prog 47 #[.pointer none] w fun e w' => e = .returned (.agg zeroSt.toArray) ∧ Below w.heap.size w w' := by
  go_enter Tryz.func47, Tryz.ntmps47
  go_upto_region 2 with fail
  generalize hW : World.alloc _ _ = W
  have hb2 : Below w.heap.size w W := by rw [← hW]; exact below_allocs (Below.refl _ _) _
  have hc2 : W.heap[w.heap.size]? = some (.cells zeroSt.toArray 103 (0, 0)) := by rw [← hW]; exact hp_new rfl
  have HB2 := Lib.hid hb2
  have HC2 := Lib.hid hc2
  clear hW hb2 hc2
  refine wp_region_lit ?_
  refine wpList_valG (.agg zeroSt.toArray) (by rfl) (by go_simp; rfl) ?_
  simp only [Act.put, List.setIfInBounds_toArray, List.set_cons_zero, List.set_cons_succ]
  refine wpList_store_mid rfl 103 (.tmp 2) (.tmp 5) rfl (w.heap.size) (0) (zeroSt.toArray) rfl rfl ((show World.there _ w.heap.size 0 19 from there_new HC2.out)) info_state (all_oneCell_toArray zeroSt_one) ?_
  simp only [Act.put]
  go_wp2
  have hw := whole_setCells zeroSt 0 _ _ HC2.out (by simp [zeroSt])
  exact bodyPost_ret (ret_agg rfl _ _ w.heap.size zeroSt rfl (range_new hw) Tryz.underlying103 rfl info_state) rfl ⟨rfl, below_setN HB2.out (Nat.le_refl _) _ _⟩
set_option maxRecDepth 100000 in
theorem nResize (A : Option Addr) (n c : Nat) (w : World) : Calls Tryz.prog 39 #[.pointer none, .int .i64 2, .int .i64 2, .slice A n c] w fun e w' => e = .returned (.tuple #[.slice none 0 0, .int .i64 1]) ∧ Below w.heap.size w w' := by
  have HS := Lib.hid nState
  unfold zeroSt at HS
  have HP := Lib.hid nPage
  have HR := Lib.hid (fun v w => pResize_nil 2 2 0 0 v w)
  have hfd := zero_at
  unfold zeroSt at hfd
  go_enter Tryz.func39, Tryz.ntmps39
  go_wp2_with (first
    | (go_at_call 78; refine (HP.out _).mono ?_; rintro e w1 ⟨rfl, rfl⟩)
    | (go_at_call 47; refine (HS.out _).mono ?_; rintro e w2 ⟨rfl, hb⟩; have HB2 := Lib.hid hb; clear hb)
    | (go_at_call 79; refine (HR.out _ _).mono ?_; rintro e w3 ⟨rfl, hb⟩; have HB3 := Lib.hid hb; clear hb))
  go_ret2
  exact ⟨rfl, below_allocs (below_tail HB2.out HB3.out) _⟩
end Go.Proofs.YtaefcahblmopfaaGreatDoor

namespace Go.Proofs.YtaefcahblmopfaaGreatDoor
open Go.RowKit
theorem tnResize (A : Option Addr) (n c : Nat) (w : World) : Calls Tryz.prog 10 #[.pointer none, .int .i64 2, .int .i64 2, .slice A n c] w fun e w' => e = .returned (.tuple #[.slice none 0 0, .int .i64 1]) ∧ Below w.heap.size w w' := by
  have HF := Lib.hid (fun w => tnFirst w)
  have HR := Lib.hid (fun w => nResize A n c w)
  go_enter Tryz.func10, Tryz.ntmps10
  go_wp2_with (first
    | (go_at_call 12; (with_reducible refine (HF.out _).mono ?_); rintro e w1 ⟨rfl, rfl⟩)
    | (go_at_call 39; (with_reducible refine (HR.out _).mono ?_); rintro e w1 ⟨rfl, hb⟩; have HB := Lib.hid hb; clear hb))
  go_ret2
  exact ⟨rfl, HB.out⟩
end Go.Proofs.YtaefcahblmopfaaGreatDoor

namespace Go.Proofs.YtaefcahblmopfaaGreatDoor
open Go.RowKit
theorem EvsOk.nil {ev : Tm → Ev → Tm} {Ok : Tm → Ev → Prop} {t : Tm} : EvsOk ev Ok t [] := fun j e h => by simp at h
theorem EvsOk.cons {ev : Tm → Ev → Tm} {Ok : Tm → Ev → Prop} {t : Tm} {e : Ev} {es : List Ev} (h : Ok t e) (hs : EvsOk ev Ok (ev t e) es) : EvsOk ev Ok t (e :: es) := fun j x hx => by
  match j, hx with
  | 0, hx => obtain rfl : e = x := by simpa using hx
             exact h
  | j + 1, hx => exact hs j x (by simpa using hx)
theorem FeedOk.nil {ev : Tm → Ev → Tm} {Ok : Tm → Ev → Prop} {t : Tm} : FeedOk ev Ok t [] := fun k c h => by simp at h
theorem FeedOk.cons {ev : Tm → Ev → Tm} {Ok : Tm → Ev → Prop} {t : Tm} {c : Int} {bs : List Int} (h : EvsOk ev Ok { t with pz := (stepPz t.pz c).1 } (stepPz t.pz c).2) (hs : FeedOk ev Ok (byteG ev t c) bs) : FeedOk ev Ok t (c :: bs) := fun k x hx => by
  match k, hx with
  | 0, hx => obtain rfl : c = x := by simpa using hx
             exact h
  | k + 1, hx => exact hs k x (by simpa using hx)
/-- A byte of which no event comes. -/
theorem FeedOk.quiet {ev : Tm → Ev → Tm} {Ok : Tm → Ev → Prop} {t : Tm} {c : Int} {bs : List Int} {p : Pz} (h : stepPz t.pz c = (p, [])) (hs : FeedOk ev Ok { t with pz := p } bs) : FeedOk ev Ok t (c :: bs) := by
  refine FeedOk.cons ?_ ?_
  · rw [h]; exact EvsOk.nil
  · unfold byteG; rw [h]; exact hs
/-- A byte of which one event comes. -/
theorem FeedOk.one {ev : Tm → Ev → Tm} {Ok : Tm → Ev → Prop} {t : Tm} {c : Int} {bs : List Int} {p : Pz} {e : Ev} (h : stepPz t.pz c = (p, [e])) (h1 : Ok { t with pz := p } e) (hs : FeedOk ev Ok (ev { t with pz := p } e) bs) : FeedOk ev Ok t (c :: bs) := by
  refine FeedOk.cons ?_ ?_
  · rw [h]; exact EvsOk.cons h1 EvsOk.nil
  · unfold byteG; rw [h]; exact hs
/-- What the events do that a prompt's sign and scalars make. -/
def evA (t : Tm) (e : Ev) : Tm := if e.kind = 0 then doT t (fun s => printS s e.r) else if e.kind = 4 then { t with ch := t.ch ++ [signC ⟨1, 0, false, ⟨#[]⟩⟩ (t.s0.y + t.s0.pg.hist.length) t.s0.x] } else t
def OkA (t : Tm) (e : Ev) : Prop := (e.kind = 0 ∧ ScI (curT t) ∧ (curT t).pg.told.length ≤ 900000) ∨ (e.kind = 4 ∧ e.text = [49, 51, 51, 59, 65] ∧ e.cut = false ∧ t.use = false ∧ t.s0.pg.told = [] ∧ t.ch.length ≤ 1000 ∧ (0 ≤ t.s0.y ∧ t.s0.y ≤ 100000) ∧ t.s0.pg.hist.length ≤ 1000000)
theorem evA_pz (t : Tm) (e : Ev) : (evA t e).pz = t.pz := by
  unfold evA
  split
  · unfold doT putT; split <;> rfl
  split <;> rfl
theorem doA (base : Nat) : DoSays base evA OkA := fun W lo v t x hO hx hok => by
  rcases hok with ⟨h1, h2, h3⟩ | ⟨h1, h2, h3, h4, h5, h6, h7, h8⟩
  · unfold evA kindF
    rw [if_pos h1, if_pos h1]
    exact tprint_any hO h2 h3 _ _ _ _ _ _ _ _ _ _
  · have e0 : ¬ x.e.kind = 0 := by omega
    unfold evA kindF
    rw [if_neg e0, if_pos h1, if_neg e0, if_neg (by omega), if_neg (by omega), if_neg (by omega), if_pos h1, h2, h3]
    exact tcommand133 hO h4 h5 h6 h7 h8 _ _ _ _ _ _ _ _
def tmA : Tm := ⟨newPz 99, newS 2 3 5 (sizeT [] 3), newS 2 3 0 (sizeT [] 3), false, newM, ⟨#[]⟩, [], []⟩
def bsA : List Int := [27, 93, 49, 51, 51, 59, 65, 7, 97, 98]
theorem sciA (s : Sc) (h : s.y = 0 ∧ 0 ≤ s.x ∧ s.x ≤ 3 ∧ s.top = 0 ∧ s.bot = 1 ∧ rowsS s = 2 ∧ colsS s = 3) : ScI s := by
  obtain ⟨a, b, c, d, e, f, g⟩ := h
  unfold rowsS at f
  unfold colsS at g
  refine ⟨?_, ?_, ?_, ?_, ?_, ?_, ?_⟩ <;> omega
set_option maxRecDepth 100000 in
theorem feedA : FeedOk evA OkA tmA bsA := by
  unfold tmA bsA
  refine FeedOk.quiet rfl ?_
  refine FeedOk.quiet rfl ?_
  refine FeedOk.quiet rfl ?_
  refine FeedOk.quiet rfl ?_
  refine FeedOk.quiet rfl ?_
  refine FeedOk.quiet rfl ?_
  refine FeedOk.quiet rfl ?_
  refine FeedOk.one rfl (.inr ⟨rfl, rfl, rfl, rfl, rfl, by decide, by decide, by decide⟩) ?_
  refine FeedOk.one rfl (.inl ⟨rfl, sciA _ ⟨rfl, by decide, by decide, rfl, rfl, rfl, rfl⟩, by decide⟩) ?_
  refine FeedOk.one rfl (.inl ⟨rfl, sciA _ ⟨rfl, by decide, by decide, rfl, rfl, rfl, rfl⟩, by decide⟩) ?_
  exact FeedOk.nil
/-- Behind these bytes: a prompt's sign was told, and the cursor is in the third column. -/
theorem fedA : let t := feedG evA tmA bsA
    t.ch = [signC ⟨1, 0, false, ⟨#[]⟩⟩ 0 0] ∧ t.s0.pg.told = [] ∧ t.use = false ∧ t.s0.y = 0 ∧ t.s0.x = 2 ∧ t.pz.state = 0 ∧ heldP t.pz = 0 := by
  refine ⟨rfl, rfl, rfl, rfl, rfl, rfl, rfl⟩
end Go.Proofs.YtaefcahblmopfaaGreatDoor
