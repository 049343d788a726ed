/- Joined by a tool of this claim out of smaller texts. Conditions: as stated. -/
import Derived.Test.YtbllhchcccflkaaDoorDx04
import Derived.Lib.ConvBytes
import Derived.Below
import Derived.LoopN
import Derived.Deep.OwnRows
set_option linter.unusedVariables false
set_option linter.unusedSimpArgs false
namespace Go.Proofs.YtbllhchcccflkaaDoor
open Go.RowKit
attribute [local go_sem] Oper.semAt_some
theorem info_i32 : (Tryd.prog.info? 21).map (fun i => (i.zero, i.size, i.bytes)) = some (some (.int .i32 0), 1, 4) := by kernel_rfl
theorem call_read1 (args : Array Value) (w : World) : (callFunc 87 args).run Tryd.prog w = .ok (.enter 87 args) w := by kernel_rfl
theorem uread_in (n : Nat) (a : Option Addr) (len cap : Nat) (w : World) :
    CallsIn Fence.wide n Tryd.prog 79 #[.slice a len cap] w fun e w' => e = .returned (.func (.func 87) #[] #[.pointer (some ⟨w.heap.size, 0, none⟩)]) ∧ w' = w.alloc (.cells #[.slice a len cap] 51) := by
  refine callsIn_of_wp Tryd.func79 rfl trivial ?_ rfl
  simp only [Tryd.ntmps79, List.size_toArray, List.length_cons, List.length_nil, Nat.reduceAdd, Nat.reduceSub, Array.replicate_succ, Array.replicate_zero, List.push_toArray, List.append_toArray, List.nil_append, List.cons_append]
  gi_wp2
  go_ret
  exact ⟨rfl, rfl⟩
/-- What a round has laid. -/
def RdI (w : World) (d : Nat) (pre : List Int) (W : World) : Prop := (∃ v, Boxed W w.heap.size 77 v ∧ W.ownsRow (d + 1) 21 1 v pre.length (pre.map (.int .i32))) ∧ Below w.heap.size w W
/-- Bytes in memory. -/
def BsAt (W : World) (A : Option Addr) (bs : List Int) : Prop := 0 < bs.length → ∃ g off, A = some ⟨g, off, none⟩ ∧ ∀ i x, bs[i]? = some x → W.cell? ⟨g, off + i, none⟩ = some (.int .u8 x)
def RunesPost (L : List Int) (w : World) (e : Ending) (w' : World) : Prop := ∃ v, e = .returned v ∧ w'.ownsRow w.heap.size 21 1 v L.length (L.map (.int .i32)) ∧ Below w.heap.size w w'
set_option maxRecDepth 100000 in
set_option maxHeartbeats 3200000 in
theorem uall_any (A : Option Addr) (bs L : List Int) (ca : Nat) (w : World) (hL : ∀ r ∈ L, isScal r = true) (hbs : bs = L.flatMap bytesR) (hz : bs.length ≤ 10000) (hlz : L.length ≤ 10000) (hb : BsAt w A bs) :
    Calls Tryd.prog 69 #[.slice A bs.length ca] w (RunesPost L w) := by
  have hok : Hid (∀ d : Dk, d.need = 0 ∧ d.hv = 0 → okRun d bs ∧ (runD d bs).1 = L ∧ (runD d bs).2.need = 0 ∧ (runD d bs).2.hv = 0) := Lib.hid (fun d hd => by rw [hbs]; exact bytesR_all L hL d hd)
  clear hbs hL
  have HB := Lib.hid hb
  clear hb
  obtain ⟨i0, hi, hz0, hz1, hz2⟩ := info_parts info_i32
  refine (callsIn_wide (n := 5)).1 ?_
  refine callsIn_of_wp_marks Tryd.func69 rfl trivial ?_ rfl
  simp only [Tryd.ntmps69, List.size_toArray, List.length_cons, List.length_nil, Nat.reduceAdd, Nat.reduceSub, Array.replicate_succ, Array.replicate_zero, List.push_toArray, List.append_toArray, List.nil_append, List.cons_append]
  gi_wp2_with (refine ⟨trivial, ?_⟩; gi_at_call 79; refine (uread_in _ _ _ _ _).mono ?_; rintro e w' ⟨rfl, rfl⟩)
  have bO := Boxed.new w 77 (.slice none 0 0)
  have bN := Boxed.new (w.alloc (.cells #[.slice none 0 0] 77)) 51 (.slice A bs.length ca)
  rw [World.size_alloc] at bN
  have hB0 : Below w.heap.size w ((w.alloc (.cells #[.slice none 0 0] 77)).alloc (.cells #[.slice A bs.length ca] 51)) := ((Below.refl _ w).alloc (Nat.le_refl _) _).alloc (by simp) _
  have hs0 : ((w.alloc (.cells #[.slice none 0 0] 77)).alloc (.cells #[.slice A bs.length ca] 51)).heap.size = w.heap.size + 2 := by simp
  have bO2 := bO.alloc (.cells #[.slice A bs.length ca] 51)
  generalize (w.alloc (.cells #[.slice none 0 0] 77)).alloc (.cells #[.slice A bs.length ca] 51) = W0 at bN hB0 hs0 bO2 ⊢
  refine wpIn_rangeFunc_D (α := Int) rfl (by decide) (gf := 87) (lb := #[.pointer (some ⟨w.heap.size + 1, 0, none⟩)]) rfl trivial call_read1 (encs := fun x : Int => #[Value.int .i32 x]) (Kp := KpD w.heap.size (w.heap.size + 3) (w.heap.size + 4)) (xs := L) (d := w.heap.size + 4) (by omega)
    (fun W hbW hsW => ?seq) (fun h k => KpD.trans h k) (fun W o' => ?kb) (fun _ => rfl) (RdI w (w.heap.size + 4)) ?own ?start
    (fun x => { tmps := #[.slice A bs.length ca, undef, .slice none 0 0, .pointer (some ⟨w.heap.size, 0, none⟩), .int .i32 x, .slice A bs.length ca, .func (.func 87) #[] #[.pointer (some ⟨w.heap.size + 1, 0, none⟩)], .int .i32 x, undef, undef, undef, undef, undef], defers := [] }) ?assign ?body ?done
  case seq =>
    have := uread1_in (5 - 1) (by decide) (w.heap.size + 3) w.heap.size (w.heap.size + 1) ca A bs L hok.out hz W (by omega) (by omega) (by omega) (by omega) ((hbW.cell (p := ⟨w.heap.size + 1, 0, none⟩) (by rw [hs0]; exact Nat.lt_succ_self _)).trans bN.cell) (fun h0 => by
      obtain ⟨g, off, rfl, hc⟩ := HB.out h0
      have hg := lt_of_cell (hc 0 _ (List.getElem?_eq_getElem h0))
      exact ⟨g, off, rfl, by omega, by omega, by omega, fun i x hx => holda ((hB0.trans (hbW.mono (by omega)))) (hc i x hx)⟩)
    rw [hsW, hs0] at this
    rw [hs0]
    exact this
  case kb =>
    rw [hs0]
    exact ⟨by rw [World.putObj_size]; exact Nat.le_refl _, fun k _ _ hk => World.putObj_heap_other hk⟩
  case own =>
    rintro pre W W' r ⟨⟨v, hv, ho⟩, hB⟩ hg hr
    rw [hs0] at hr
    refine ⟨⟨v, hv.kept hg (by intro e; cases e; omega), owns_mod ho (Mod.of_grown (X := [r]) hg (fun g e => by cases e; simp)) (fun g e hm => ?_)⟩, hB.grown hg hB.size (fun k e => by cases e; omega)⟩
    obtain rfl : g = r := by simpa using hm
    rcases ho.2 with ⟨rfl, _⟩ | ⟨g', cap, cur, rfl, hb, _, _⟩
    · cases e
    · obtain rfl : g' = g := by simpa [Value.ownBlock] using e
      omega
  case start => exact ⟨⟨_, bO2, World.ownsRow_nil _ _ _ _⟩, hB0⟩
  case assign =>
    intro l x W K hK
    gi_wp2
    exact hK
  case body =>
    rintro l pre x W ⟨⟨v, hv, hrow⟩, hB⟩ hlt hd
    have hc := hv.cell
    gi_wp2_with (gi_at_builtin; refine wpListIn_append_own _ rfl _ _ 77 rfl (w.heap.size + 5) 21 i0 (.int .i32 0) 1 4 Tryd.underlying77 hi hz0 hz1 hz2 rfl (by decide) _ _ _ rfl (hrow.alloc _) ⟨W.heap.size, 0, none⟩ 1 1 [.int .i32 x] rfl rfl (cell_one_new _ _ _) (by simp [Value.oneCell']) (by unfold maxLen; omega) (by omega) (by simp; omega) ?_; intro v' w1 hown' hgrow _; obtain ⟨g', cap', rfl⟩ := ownsRow_succ hown'; obtain ⟨hv1, hv2, hr2, hk2, hb2⟩ := hv.appended (by decide) (owns_weaken hrow (base' := w.heap.size) (by omega)) hB.size (Nat.le_refl _) (owns_weaken hown' (base' := w.heap.size) (by omega)) hgrow; have hrw := hown'.kept (grownBy_setCell' w1 w.heap.size (.slice (some ⟨g', 0, none⟩) (pre.length + 1) cap')) (.inr (hv1.not_row (t := 77) (by decide) hown').symm); have hc1 := hv1.cell; have hf1 := hv1.frozen; have hgv := Lib.hid hgrow; clear hgrow)
    refine ⟨hk2, ⟨hb2.size, fun k hk h1 h2 => ?_⟩, ⟨_, hv2, by simpa using hrw⟩, hB.trans hb2⟩
    refine (Below.heap_setCell w1 ⟨w.heap.size, 0, none⟩ _ k h1).trans ((hgv.out.block k (by simp; omega) (fun e => ?_)).trans (Below.heap_alloc W _ k (by omega)))
    rcases hrow.2 with ⟨rfl, _⟩ | ⟨g2, cap, cur, rfl, hb, _, _⟩
    · cases e
    · have e : some k = (Value.slice (some ⟨g2, 0, none⟩) pre.length cap).ownBlock := e
      obtain rfl : k = g2 := by simpa [Value.ownBlock] using e
      omega
  case done =>
    rintro W ⟨⟨v, hv, hrow⟩, hB⟩ hK
    have hc := hv.cell
    gi_wp2
    refine ⟨by simp, .inl ⟨_, _, rfl, run_takeDeferred hK, ?_⟩⟩
    exact ⟨_, results_tmp rfl _ _ _, v, rfl, ownsRow_putObj (owns_weaken hrow (base' := w.heap.size) (by omega)) _ hK rfl, hB.grown (grownBy_putObj' W _ _) hB.size (fun k e => by cases e; omega)⟩
end Go.Proofs.YtbllhchcccflkaaDoor

namespace Go.Proofs.YtbllhchcccflkaaDoor
open Go.RowKit
/-- Marks: scalars of the width 0, 32 bytes at most. -/
def MarksOk (s : ByteArray) : Prop := ∃ L : List Int, (∀ r ∈ L, isScal r = true ∧ widOf r = 0) ∧ s = strOfNums (L.flatMap bytesR) ∧ s.size ≤ 32
theorem bytesR_range (r : Int) (h : isScal r = true) : ∀ x ∈ bytesR r, 0 ≤ x ∧ x < 256 := by
  have hr : 0 ≤ r ∧ r ≤ 1114111 := by unfold isScal at h; simp at h; omega
  unfold bytesR
  repeat' split
  all_goals
    intro x hx
    simp at hx
    omega
theorem bytesR_pos (r : Int) : 1 ≤ (bytesR r).length := by
  unfold bytesR
  repeat' split
  all_goals simp
theorem strOfNums_size (xs : List Int) : (strOfNums xs).size = xs.length := by
  show (List.map _ xs).toArray.size = _
  simp
theorem putB_len (r : Int) (h : isScal r = true) : (putB r).size = (bytesR r).length := by rw [bytesR_put r h, strOfNums_size]
theorem flat_bytes_len (L : List Int) : L.length ≤ (L.flatMap bytesR).length := by
  induction L with
  | nil => simp
  | cons r L ih => rw [List.flatMap_cons, List.length_append, List.length_cons]; have := bytesR_pos r; omega
theorem nums_getD (xs : List Int) (hx : ∀ x ∈ xs, 0 ≤ x ∧ x < 256) (i : Nat) (x : Int) (h : xs[i]? = some x) : ((((strOfNums xs).data.toList.getD i 0).toNat : Nat) : Int) = x := by
  obtain ⟨hi, rfl⟩ := List.getElem?_eq_some_iff.1 h
  have := hx _ (List.getElem_mem hi)
  show ((((List.map (fun n : Int => UInt8.ofNat n.toNat) xs).toArray.toList.getD i 0).toNat : Nat) : Int) = xs[i]
  rw [List.getD_eq_getElem?_getD]
  simp [hi]
  omega
theorem bytes_in (w : World) (e : TypeId) (xs : List Int) (hx : ∀ x ∈ xs, 0 ≤ x ∧ x < 256) : BsAt (Lib.bytesWorld w e (strOfNums xs)) (some ⟨w.heap.size, 0, none⟩) xs := fun _ =>
  ⟨w.heap.size, 0, rfl, fun i x hi => by
    rw [Nat.zero_add, Lib.bytesWorld_cell w e _ i (by rw [strOfNums_size]; exact (List.getElem?_eq_some_iff.1 hi).1), nums_getD xs hx i x hi]⟩
theorem bytes_below (w : World) (e : TypeId) (s : ByteArray) : Below w.heap.size w (Lib.bytesWorld w e s) :=
  ⟨rfl, rfl, rfl, by rw [Lib.bytesWorld_size]; omega, fun k hk => Lib.bytesWorld_at_old w e s k hk⟩
theorem conv_str (s : ByteArray) (w : World) : (convert 9 51 (.string s)).run Tryd.prog w = .ok (.slice (some ⟨w.heap.size, 0, none⟩) s.size (grownCap w s.size 0 5)) (Lib.bytesWorld w 5 s) :=
  Lib.run_convert_string_bytes w _ _ _ s Tryd.underlying9 Tryd.underlying51 Tryd.underlying5
theorem owns_at {w : World} {base : Nat} {L : List Int} {v : Value} (h : w.ownsRow base 21 1 v L.length (L.map (.int .i32))) : ∃ A c, v = .slice A L.length c ∧ ∀ i x, L[i]? = some x → ∃ g, A = some ⟨g, 0, none⟩ ∧ w.cell? ⟨g, i, none⟩ = some (.int .i32 x) := by
  rcases h.2 with ⟨rfl, h0⟩ | ⟨g, cap, cur, rfl, h1⟩
  · exact ⟨none, 0, by rw [h0], fun i x hx => by rw [List.length_eq_zero_iff.1 h0] at hx; simp at hx⟩
  · exact ⟨_, cap, rfl, fun i x hx => ⟨g, rfl, by
      have h2 := h.cells (g := g) rfl i (.int .i32 x) (by simp [hx])
      rwa [show (⟨g, 0, none⟩ : Addr).add i = ⟨g, i, none⟩ from by unfold Addr.add; split <;> simp_all] at h2⟩⟩
set_option maxRecDepth 100000 in
set_option maxHeartbeats 1600000 in
theorem cmarks_any (s : ByteArray) (h : MarksOk s) (w : World) : Calls Tryd.prog 55 #[.string s] w fun e w' => e = .returned (.bool true) ∧ Below w.heap.size w w' := by
  obtain ⟨L, hL, rfl, hz⟩ := h
  obtain ⟨xs, hxs⟩ : ∃ xs, xs = L.flatMap bytesR := ⟨_, rfl⟩
  rw [← hxs] at hz ⊢
  have hsz := strOfNums_size xs
  have hlx : L.length ≤ xs.length := by rw [hxs]; exact flat_bytes_len L
  have hxr : ∀ x ∈ xs, 0 ≤ x ∧ x < 256 := by
    rw [hxs]
    intro x hx
    obtain ⟨r, hr, hx⟩ := List.mem_flatMap.1 hx
    exact bytesR_range r (hL r hr).1 x hx
  have hg1 : ¬ 32 < (strOfNums xs).size := by omega
  have hl32 : L.length ≤ 32 := by omega
  have HX := Lib.hid hxs
  have HLL := Lib.hid hL
  have HSZ := Lib.hid hsz
  have hcv := conv_str (strOfNums xs) w
  have HBI := Lib.hid (bytes_in w 5 xs hxr)
  have HBB := Lib.hid (bytes_below w 5 (strOfNums xs))
  clear hxs hL hsz hxr
  have HA : Hid (∀ (c : Nat) (w1 : World), BsAt w1 (some ⟨w.heap.size, 0, none⟩) xs → Calls Tryd.prog 69 #[.slice (some ⟨w.heap.size, 0, none⟩) (strOfNums xs).size c] w1 (RunesPost L w1)) := Lib.hid (fun c w1 hb => by
    rw [HSZ.out]
    exact uall_any _ xs L c w1 (fun r hr => (HLL.out r hr).1) HX.out (by have := HSZ.out; omega) (by have := HSZ.out; omega) hb)
  generalize Lib.bytesWorld w 5 (strOfNums xs) = wb at hcv HBI HBB
  go_enter Tryd.func55, Tryd.ntmps55
  go_wp2_with (go_at_call 69; (with_reducible refine (HA.out _ _ HBI.out).mono ?_); rintro e w1 ⟨v, rfl, ho, hb1⟩; obtain ⟨A, c, rfl, hA⟩ := owns_at ho; have HB1 := Lib.hid (below_tail HBB.out hb1); clear hb1 ho)
  have hAA := Lib.hid hA
  clear hA
  go_loopw [3, 13] (fun n i wr => ∃ k : Nat, k ≤ L.length ∧ i = .int .i64 k ∧ n = .int .i64 (((L.take k).flatMap bytesR).length : Nat) ∧ Below w.heap.size w wr ∧ Below w1.heap.size w1 wr) (fun _ i _ => L.length - (intOf i).toNat)
  case atStart => exact ⟨0, Nat.zero_le _, rfl, rfl, HB1.out, Below.refl _ _⟩
  case round =>
    obtain ⟨k, hk, rfl, rfl, hB, hb⟩ := hrel
    have HTL : Hid (((L.take k).flatMap bytesR).length ≤ xs.length) := Lib.hid (by
      rw [HX.out]
      conv => rhs; rw [← List.take_append_drop k L, List.flatMap_append, List.length_append]
      omega)
    by_cases hlt : k < L.length
    · obtain ⟨g, rfl, hc0⟩ := hAA.out k _ (List.getElem?_eq_getElem hlt)
      have hc := holda hb hc0
      have hr := HLL.out _ (List.getElem_mem hlt)
      have HT : Hid ((L.take (k + 1)).flatMap bytesR = (L.take k).flatMap bytesR ++ bytesR L[k]) := Lib.hid (by rw [List.take_succ_eq_append_getElem hlt, List.flatMap_append]; simp)
      clear hc0
      generalize L[k] = r at hc hr HT
      have HW := Lib.hid (fun w => widOf_any r w)
      have HU := Lib.hid (fun w => uput_any r w)
      have hpl := putB_len r hr.1
      have hp32 := putB_size r
      rw [hr.2] at HW
      clear hr
      obtain ⟨q, hq⟩ : ∃ q, q = ((L.take k).flatMap bytesR).length := ⟨_, rfl⟩
      rw [← hq] at HTL ⊢
      have hq2 : q ≤ 32 := by have := HTL.out; have := HSZ.out; omega
      have hw2 : IntKind.i64.wrap ((q : Int) + ((putB r).size : Nat)) = ((q + (putB r).size : Nat) : Int) := by rw [IntWalk.i64_in _ (by omega)]; omega
      have HQ := Lib.hid hq
      have HPL := Lib.hid hpl
      clear hq hpl hp32
      go_wp2_with (first | (go_at_call 54; (with_reducible refine (HW.out _).mono ?_); rintro e w2 ⟨rfl, hb2⟩) | (go_at_call 34; (with_reducible refine (HU.out _).mono ?_); rintro e w3 ⟨rfl, hb3⟩))
      go_roundw
      case rel => exact ⟨k + 1, by omega, by go_num, by rw [HT.out, List.length_append, ← HQ.out, ← HPL.out, Int.natCast_add], below_tail (below_tail hB hb2) hb3, below_tail (below_tail hb hb2) hb3⟩
      case measure => simp [intOf]; omega
    · obtain rfl : k = L.length := by omega
      have he : (L.take L.length).flatMap bytesR = xs := by rw [List.take_length, HX.out]
      have hse : ((((L.take L.length).flatMap bytesR).length : Nat) : Int) = ((strOfNums xs).size : Nat) := by rw [he, HSZ.out]
      rw [hse]
      clear hse he
      go_wp2
      go_ret
      exact ⟨by simp, hB⟩
end Go.Proofs.YtbllhchcccflkaaDoor

namespace Go
open Go.RowKit
section
variable {P : Program} {ops : Array Oper} {md : Region.Mode}
/-- A condition that holds on behind whatever leaves old memory as it was. -/
def Pers (S : World → Prop) : Prop := ∀ w w', S w → Below w.heap.size w w' → S w'
theorem Pers.and {S T : World → Prop} (h : Pers S) (k : Pers T) : Pers (fun w => S w ∧ T w) := fun w w' hS hb => ⟨h w w' hS.1 hb, k w w' hS.2 hb⟩
/-- From every world that meets S the operation yields a value of V, and leaves old memory as it was. -/
def upN (P : Program) (w : World) (n : Nat) (dst : Option Tmp) (V : Value → World → Prop) : Result Next → Prop
  | .ok (.value u) w' => ∃ v, samePut n dst u v ∧ V v w' ∧ Below w.heap.size w w'
  | .ok .skip w' => ∃ v, samePut n dst undef v ∧ V v w' ∧ Below w.heap.size w w'
  | .ok (.enter f args) w' => Calls P f args w' fun e w'' => match e with
      | .returned u => ∃ v, samePut n dst u v ∧ V v w'' ∧ Below w.heap.size w w''
      | _ => False
  | .ok (.row row args) w' => Rows P row args w' fun u w'' => ∃ v, samePut n dst u v ∧ V v w'' ∧ Below w.heap.size w w''
  | _ => False
def StabN (P : Program) (ops : Array Oper) (S : World → Prop) (o : Oper) (V : Value → World → Prop) (a : Act) : Prop :=
  (Region.wanted o (yielded ops a.tmps) = true ∧ ∀ w, S w → upN P w a.tmps.size o.dst V ((execOp a.eval o).run P w)) ∨
  (Region.wanted o (yielded ops a.tmps) = false ∧ ∀ w, S w → V undef w)
theorem StabN.of_same {S : World → Prop} {o : Oper} {V : Value → World → Prop} {a a' : Act} (hy : StabN P ops S o V a) (he : execOp a'.eval o = execOp a.eval o)
    (hw : Region.wanted o (yielded ops a'.tmps) = Region.wanted o (yielded ops a.tmps)) (hs : a'.tmps.size = a.tmps.size) : StabN P ops S o V a' := by
  unfold StabN at *
  rw [he, hw, hs]
  exact hy
theorem StabN.strengthen {S T : World → Prop} {o : Oper} {V : Value → World → Prop} {a : Act} (h : ∀ w, T w → S w) (hy : StabN P ops S o V a) : StabN P ops T o V a := by
  rcases hy with ⟨hw, hv⟩ | ⟨hw, hv⟩
  · exact .inl ⟨hw, fun w hT => hv w (h w hT)⟩
  · exact .inr ⟨hw, fun w hT => hv w (h w hT)⟩
theorem StabN.wpOp {S : World → Prop} {Q : Exit → Act → World → Prop} {i : Nat} {o : Oper} {V : Value → World → Prop} {a : Act} (hi : ops[i]? = some o) (hp : Pers S) (hy : StabN P ops S o V a)
    {K : Act → World → Prop} {w : World} (hS : S w) (h : ∀ v w', S w' → V v w' → K (a.put o.dst v) w') : wpOp P ops Q i K a w := by
  unfold Go.wpOp
  simp only [hi]
  rcases hy with ⟨hw, hv⟩ | ⟨hw, hv⟩
  · simp only [hw, if_true, Oper.wp]
    refine .inl ?_
    have hv := hv w hS
    generalize (execOp a.eval o).run P w = r at *
    cases r with
    | ok n w' =>
      cases n <;> simp only [upN, Oper.upon] at hv ⊢
      case value u => obtain ⟨v, h1, h2, h3⟩ := hv; rw [h1 a rfl]; exact h _ _ (hp _ _ hS h3) h2
      case skip => obtain ⟨v, h1, h2, h3⟩ := hv; rw [h1 a rfl]; exact h _ _ (hp _ _ hS h3) h2
      case enter f args =>
        refine Calls.mono hv fun e w'' he => ?_
        cases e with
        | returned u => obtain ⟨v, h1, h2, h3⟩ := he; simp only; rw [h1 a rfl]; exact h _ _ (hp _ _ hS h3) h2
        | panicked c => exact he.elim
        | outgrown => exact he.elim
      case row row args => exact Rows.mono hv fun u w'' he => (by obtain ⟨v, h1, h2, h3⟩ := he; rw [h1 a rfl]; exact h _ _ (hp _ _ hS h3) h2)
    | halt x w' => exact hv.elim
  · simp only [hw, Bool.false_eq_true, if_false]; exact h _ _ hS (hv w hS)
/-- What an operation may yield (A), and what holds of the world then (T). -/
def AT (A : Value → Prop) (T : Value → World → Prop) : Value → World → Prop := fun v w => A v ∧ T v w
def wpUN (P : Program) (md : Region.Mode) (ops : Array Oper) (n : Nat) (L : Array Bool → Act → (World → Prop) → Prop) : Nat → Array Bool → Act → (World → Prop) → Prop
  | 0, listed, a, S => L listed a S
  | f + 1, listed, a, S =>
    Region.ready md ops listed ≠ [] ∧ ∀ i ∈ Region.ready md ops listed, i < n ∧ ∃ o A T, ops[i]? = some o ∧ (∀ v, Pers (T v)) ∧ StabN P ops S o (AT A T) a ∧
      ∀ v, A v → wpUN P md ops n L f (listed.setIfInBounds i true) (a.put o.dst v) (fun w => S w ∧ T v w)
theorem wpAny_of_headN {n g : Nat} {L : Array Bool → Act → (World → Prop) → Prop} {Q' : Exit → Act → World → Prop} (hL : ∀ listed a S, L listed a S → ∀ w, S w → wpAny P md ops Q' g listed a w) :
    ∀ (f : Nat) (listed : Array Bool) (a : Act) (S : World → Prop), Pers S → wpUN P md ops n L f listed a S → ∀ w, S w → wpAny P md ops Q' (f + g) listed a w
  | 0, listed, a, S, _, h, w, hS => by rw [Nat.zero_add]; exact hL _ _ _ h w hS
  | f + 1, listed, a, S, hp, h, w, hS => by
    rw [show f + 1 + g = (f + g) + 1 by omega]
    refine ⟨fun h0 => absurd h0 h.1, fun i hi => ?_⟩
    obtain ⟨_, o, A, T, ho, hT, hy, hr⟩ := h.2 i hi
    exact hy.wpOp ho hp hS (fun v w' hS' hV' => wpAny_of_headN hL f _ _ _ (hp.and (hT v)) (hr v hV'.1) w' ⟨hS', hV'.2⟩)
/-- The leaf does not mind a stronger or an equal condition. -/
def LeafOk (L : Array Bool → Act → (World → Prop) → Prop) : Prop := ∀ listed a (S T : World → Prop), (∀ w, T w → S w) → L listed a S → L listed a T
theorem wpUN.weaken {n : Nat} {L : Array Bool → Act → (World → Prop) → Prop} (hLk : LeafOk L) : ∀ (f : Nat) (listed : Array Bool) (a : Act) (S T : World → Prop), (∀ w, T w → S w) → wpUN P md ops n L f listed a S → wpUN P md ops n L f listed a T
  | 0, listed, a, S, T, h, hh => hLk listed a S T h hh
  | f + 1, listed, a, S, T, h, hh => by
    refine ⟨hh.1, fun i hi => ?_⟩
    obtain ⟨hn, o, A, V, ho, hV, hy, hr⟩ := hh.2 i hi
    exact ⟨hn, o, A, V, ho, hV, hy.strengthen h, fun v hv => wpUN.weaken hLk f _ _ _ _ (fun w ⟨h1, h2⟩ => ⟨h w h1, h2⟩) (hr v hv)⟩
/-- A stable operation: one value. -/
def Any : Value → World → Prop := fun _ _ => True
theorem Any.pers (u : Value) : Pers (Any u) := fun _ _ _ _ => trivial
theorem wpUN_first {n i : Nat} {oi : Oper} {v : Value} {L : Array Bool → Act → (World → Prop) → Prop} (hLk : LeafOk L) (hi : ops[i]? = some oi) (hsel : ∀ (j : Nat) (o : Oper) cs b, ops[j]? = some o → o.op ≠ .select cs b)
    (hs : Region.sinkB md ops n = true) (hc : Region.chainB md ops n = true) (hn : n < ops.size) (hin : i < n)
    (hdone : ∀ listed a S, L listed a S → ∀ j ∈ Region.ready md ops listed, n ≤ j) :
    ∀ (f : Nat) (listed : Array Bool) (a : Act) (S : World → Prop), HeadInv md ops n listed →
      (∀ j oj, ops[j]? = some oj → j ≠ i → listed.getD j true = false → (∀ e ∈ oj.after, Region.binds md e = true → e.on ≠ i) → oi.apart ops oj = true) →
      i ∈ Region.ready md ops listed → StabN P ops S oi (AT (· = v) Any) a →
      wpUN P md ops n L f (listed.setIfInBounds i true) (a.put oi.dst v) S → wpUN P md ops n L (f + 1) listed a S := by
  intro f
  induction f with
  | zero =>
    intro listed a S inv _ hr hy H
    have hun := (mem_ready.1 hr).1
    refine ⟨fun h => (by rw [h] at hr; cases hr), fun j hj => ?_⟩
    have hjn : j < n := by
      rcases Nat.lt_or_ge j n with h | h
      · exact h
      · exact absurd hj (tail_waits hs hc hn inv _ i rfl hin hun j h)
    refine ⟨hjn, ?_⟩
    by_cases hji : j = i
    · subst hji
      exact ⟨oi, _, _, hi, Any.pers, hy, fun u hu => by subst hu; exact hLk _ _ S _ (fun w h => h.1) H⟩
    · have := hdone _ _ _ H j (ready_mono hj hji)
      omega
  | succ f ih =>
    intro listed a S inv hfree hr hy H
    have hun := (mem_ready.1 hr).1
    refine ⟨fun h => (by rw [h] at hr; cases hr), fun j hj => ?_⟩
    have hjn : j < n := by
      rcases Nat.lt_or_ge j n with h | h
      · exact h
      · exact absurd hj (tail_waits hs hc hn inv _ i rfl hin hun j h)
    refine ⟨hjn, ?_⟩
    by_cases hji : j = i
    · subst hji
      exact ⟨oi, _, _, hi, Any.pers, hy, fun u hu => by subst hu; exact wpUN.weaken hLk _ _ _ S _ (fun w h => h.1) H⟩
    · obtain ⟨_, oj', A, T, hoj', hT, hyj, Hj⟩ := H.2 j (ready_mono hj hji)
      obtain ⟨hjun, oj, hoj, hall⟩ := mem_ready.1 hj
      obtain rfl : oj' = oj := Option.some.inj (hoj'.symm.trans hoj)
      have hnot : ∀ e ∈ oj'.after, Region.binds md e = true → e.on ≠ i := fun e he hb heq => by
        have h1 := hall e he hb
        rw [heq, getD_both hun] at h1
        cases h1
      obtain ⟨h1, h2, h3⟩ := Oper.apart_spec (hfree j oj' hoj hji hjun hnot)
      have hsi := fun cs b => hsel i oi cs b hi
      have hsj := fun cs b => hsel j oj' cs b hoj
      have hyj' : StabN P ops S oj' (AT A T) a := hyj.of_same (execOp_put oj' hsj a oi.dst v h1).symm (wanted_put oj' a oi.dst v h1).symm (Act.put_size _ _ _).symm
      have hfree' : ∀ k ok, ops[k]? = some ok → k ≠ i → (listed.setIfInBounds j true).getD k true = false →
          (∀ e ∈ ok.after, Region.binds md e = true → e.on ≠ i) → oi.apart ops ok = true := fun k ok hk hki hun hno => by
        refine hfree k ok hk hki ?_ hno
        by_cases hjk : j = k
        · subst hjk; exact hjun
        · rw [getD_set_ne true hjk] at hun; exact hun
      refine ⟨oj', A, T, hoj, hT, hyj', fun u hu => ?_⟩
      have hyi' : StabN P ops (fun w => S w ∧ T u w) oi (AT (· = v) Any) (a.put oj'.dst u) := (hy.of_same (execOp_put oi hsi a oj'.dst u h3) (wanted_put oi a oj'.dst u h3) (Act.put_size _ _ _)).strengthen (fun w h => h.1)
      refine ih (listed.setIfInBounds j true) _ _ (inv.set hj hjn) hfree' (ready_mono hr (Ne.symm hji)) hyi' ?_
      rw [Array.setIfInBounds_comm _ _ hji, ← Act.put_comm a v u h2]
      exact Hj u hu
/-- The leaf: the forced tail, from every world that meets the condition. -/
def tailN (P : Program) (ops : Array Oper) (Q : Exit → Act → World → Prop) (n : Nat) : Array Bool → Act → (World → Prop) → Prop := fun listed a S =>
  Region.seqB .any ops (ops.size - n) n listed = true ∧ ∀ w, S w → wpList P ops Q (ops.toList.drop n) a w
theorem tailN_ok {Q : Exit → Act → World → Prop} {n : Nat} : LeafOk (tailN P ops Q n) := fun _ _ _ _ h hh => ⟨hh.1, fun w hw => hh.2 w (h w hw)⟩
/-- A walk of the head: what is listed, the frame, the condition. -/
structure AtN (P : Program) (ops : Array Oper) (Q : Exit → Act → World → Prop) (n : Nat) (f : Nat) (listed : Array Bool) (a : Act) (S : World → Prop) : Prop where
  h : HeadInv .any ops n listed → wpUN P .any ops n (tailN P ops Q n) f listed a S
variable {Q : Exit → Act → World → Prop} {S : World → Prop} {a : Act} {listed : Array Bool} {n f : Nat}
def Region.tailB (ops : Array Oper) (n : Nat) : Bool := Region.noSelect ops && decide (n < ops.size) && Region.sinkB .any ops n && Region.chainB .any ops n
/-- Take number i, a stable operation, first. -/
theorem AtN.take (i : Nat) {o : Oper} {v : Value} (hB : Region.tailB ops n = true) (hi : ops[i]? = some o) (hin : (i < n) = True) (hf : Region.free .any ops listed i = true) (hr : (Region.ready .any ops listed).contains i = true)
    (hy : StabN P ops S o (AT (· = v) Any) a) (h : AtN P ops Q n f (listed.setIfInBounds i true) (a.put o.dst v) S) : AtN P ops Q n (f + 1) listed a S := ⟨fun inv => by
  simp only [Region.tailB, Bool.and_eq_true, decide_eq_true_eq] at hB
  obtain ⟨⟨⟨hsel, hn⟩, hs⟩, hc⟩ := hB
  have hr' : i ∈ Region.ready .any ops listed := by simpa using hr
  have hin' : i < n := by rw [hin]; trivial
  exact wpUN_first tailN_ok hi (Region.noSelect_spec hsel) hs hc hn hin' (fun listed a S hL => seqB_ready hL.1) f listed a S inv (Region.free_spec hi hf) hr' hy (h.h (inv.set hr' hin'))⟩
/-- At number c of the operations that are taken one behind the other. -/
def AtC (c : Nat) (P : Program) (ops : Array Oper) (Q : Exit → Act → World → Prop) (n : Nat) (f : Nat) (listed : Array Bool) (a : Act) (S : World → Prop) : Prop := c ≤ c ∧ AtN P ops Q n f listed a S
theorem AtN.go (c : Nat) (h : AtC c P ops Q n f listed a S) : AtN P ops Q n f listed a S := h.2
theorem AtC.back {c : Nat} (h : AtN P ops Q n f listed a S) : AtC c P ops Q n f listed a S := ⟨Nat.le_refl c, h⟩
theorem AtC.take {i : Nat} {o : Oper} {v : Value} (hB : Region.tailB ops n = true) (hi : ops[i]? = some o) (hin : (i < n) = True) (hf : Region.free .any ops listed i = true) (hr : (Region.ready .any ops listed).contains i = true)
    (hy : StabN P ops S o (AT (· = v) Any) a) (h : AtC (i + 1) P ops Q n f (listed.setIfInBounds i true) (a.put o.dst v) S) : AtC i P ops Q n (f + 1) listed a S := ⟨Nat.le_refl i, AtN.take i hB hi hin hf hr hy h.2⟩
/-- One alone may come up. -/
theorem AtN.one (i : Nat) {o : Oper} (A : Value → Prop) (T : Value → World → Prop) (hin : (i < n) = True) (hr : Region.ready .any ops listed = [i]) (hi : ops[i]? = some o) (hT : ∀ v, Pers (T v))
    (hy : StabN P ops S o (AT A T) a) (h : ∀ v, A v → AtN P ops Q n f (listed.setIfInBounds i true) (a.put o.dst v) (fun w => S w ∧ T v w)) : AtN P ops Q n (f + 1) listed a S := ⟨fun inv => by
  have hin' : i < n := by rw [hin]; trivial
  refine ⟨by rw [hr]; simp, fun j hj => ?_⟩
  have hj' := hj
  rw [hr] at hj
  obtain rfl : j = i := by simpa using hj
  exact ⟨hin', o, A, T, hi, hT, hy, fun v hv => (h v hv).h (inv.set hj' hin')⟩⟩
/-- Two may come up. -/
theorem AtN.two (i j : Nat) {o o' : Oper} (A A' : Value → Prop) (T T' : Value → World → Prop) (hin : (i < n) = True) (hjn : (j < n) = True) (hr : Region.ready .any ops listed = [i, j]) (hi : ops[i]? = some o) (hj : ops[j]? = some o')
    (hT : ∀ v, Pers (T v)) (hT' : ∀ v, Pers (T' v)) (hy : StabN P ops S o (AT A T) a) (hy' : StabN P ops S o' (AT A' T') a)
    (h : ∀ v, A v → AtN P ops Q n f (listed.setIfInBounds i true) (a.put o.dst v) (fun w => S w ∧ T v w))
    (h' : ∀ v, A' v → AtN P ops Q n f (listed.setIfInBounds j true) (a.put o'.dst v) (fun w => S w ∧ T' v w)) : AtN P ops Q n (f + 1) listed a S := ⟨fun inv => by
  have hin' : i < n := by rw [hin]; trivial
  have hjn' : j < n := by rw [hjn]; trivial
  refine ⟨by rw [hr]; simp, fun k hk => ?_⟩
  have hk' := hk
  rw [hr] at hk
  have hk2 : k = i ∨ k = j := by simpa using hk
  rcases hk2 with rfl | rfl
  · exact ⟨hin', o, A, T, hi, hT, hy, fun v hv => (h v hv).h (inv.set hk' hin')⟩
  · exact ⟨hjn', o', A', T', hj, hT', hy', fun v hv => (h' v hv).h (inv.set hk' hjn')⟩⟩
theorem AtN.done (hB : Region.seqB .any ops (ops.size - n) n listed = true) (h : ∀ w, S w → wpList P ops Q (ops.toList.drop n) a w) : AtN P ops Q n 0 listed a S := ⟨fun _ => ⟨hB, h⟩⟩
theorem wp_region_n {id : Nat} {w : World} (n : Nat) (S : World → Prop) (hm : P.follows .mixedOrders = true) (hB : Region.tailB ops n = true) (hp : Pers S) (hS : S w.drew)
    (h : AtN P ops Q n n (Array.replicate ops.size false) a S) : (Code.region id ops true).wp P Q a w := by
  simp only [Region.tailB, Bool.and_eq_true, decide_eq_true_eq] at hB
  obtain ⟨⟨⟨hsel, hn⟩, hs⟩, hc⟩ := hB
  have inv0 : HeadInv .any ops n (Array.replicate ops.size false) :=
    ⟨by simp, fun j oj _ hl => (by rw [getD_replicate_false] at hl; cases hl), fun t _ ht => getD_in (by simpa using ht) (getD_replicate_false _ _)⟩
  refine wp_region_any hm ?_
  have := wpAny_of_headN (Q' := Q) (g := ops.size - n) (fun listed a' S hL w' hS' => by
    have := wpAny_of_seq (md := .any) (Q' := Q) (ops.toList.drop n) n listed a' w' (fun j => by simp [List.getElem?_drop]) (by simpa using hL.1) (hL.2 w' hS')
    simpa using this) _ _ _ _ hp (h.h inv0) w.drew hS
  rw [show n + (ops.size - n) = ops.size by omega] at this
  exact this
/-- An operation that yields its value and leaves the world. -/
theorem StabN.val {o : Oper} {v : Value} (hw : Region.wanted o (yielded ops a.tmps) = true) (h : ∀ w, S w → (execOp a.eval o).run P w = .ok (.value v) w) : StabN P ops S o (AT (· = v) Any) a :=
  .inl ⟨hw, fun w hS => by rw [h w hS]; exact ⟨v, samePut.rfl', ⟨rfl, trivial⟩, Below.refl _ _⟩⟩
theorem StabN.skip {o : Oper} (hw : Region.wanted o (yielded ops a.tmps) = false) : StabN P ops S o (AT (· = undef) Any) a :=
  .inr ⟨hw, fun _ _ => ⟨rfl, trivial⟩⟩
theorem StabN.call {o : Oper} (f : FuncId) (args : Array Value) (A : Value → Prop) (T : Value → World → Prop) (hw : Region.wanted o (yielded ops a.tmps) = true) (h : ∀ w, (execOp a.eval o).run P w = .ok (.enter f args) w)
    (hc : ∀ w, S w → Calls P f args w fun e w' => ∃ v, e = .returned v ∧ (A v ∧ T v w') ∧ Below w.heap.size w w') : StabN P ops S o (AT A T) a :=
  .inl ⟨hw, fun w hS => by
    rw [h w]
    refine (hc w hS).mono fun e w' ⟨v, he, hv, hb⟩ => ?_
    rw [he]
    exact ⟨v, samePut.rfl', hv, hb⟩⟩
theorem StabN.call1 {o : Oper} (f : FuncId) (args : Array Value) (v : Value) (hw : Region.wanted o (yielded ops a.tmps) = true) (h : ∀ w, (execOp a.eval o).run P w = .ok (.enter f args) w)
    (hc : ∀ w, S w → Calls P f args w fun e w' => e = .returned v ∧ Below w.heap.size w w') : StabN P ops S o (AT (· = v) Any) a :=
  StabN.call f args _ _ hw h (fun _ hS => (hc _ hS).mono fun _ _ ⟨he, hb⟩ => ⟨v, he, ⟨rfl, trivial⟩, hb⟩)
/-- An operation that makes a block. -/
theorem StabN.new {o : Oper} (A : Value → Prop) (T : Value → World → Prop) (hw : Region.wanted o (yielded ops a.tmps) = true)
    (h : ∀ w, S w → ∃ v w', (execOp a.eval o).run P w = .ok (.value v) w' ∧ A v ∧ T v w' ∧ Below w.heap.size w w') : StabN P ops S o (AT A T) a :=
  .inl ⟨hw, fun w hS => by
    obtain ⟨v, w', hr, hA, hT, hb⟩ := h w hS
    rw [hr]; exact ⟨v, samePut.rfl', ⟨hA, hT⟩, hb⟩⟩
theorem lt_of_heap {w : World} {g : Nat} {o : Obj} (h : w.heap[g]? = some o) : g < w.heap.size := by
  rcases Nat.lt_or_ge g w.heap.size with hlt | hge
  · exact hlt
  · rw [Array.getElem?_eq_none hge] at h; cases h
end
end Go

namespace Go.Proofs.YtbllhchcccflkaaDoor
open Go.RowKit
theorem made_flatP {α : Type} {enc : α → List Value} {K : Nat} (hl : ∀ x, (enc x).length = K) (hK : 0 < K) (z : α) (n : Nat) : (madeCells (enc z).toArray (n * K)).toList = flat enc (List.replicate n z) := by
  refine List.ext_getElem? fun m => ?_
  by_cases hm : m < n * K
  · have hd : m / K < n := (Nat.div_lt_iff_lt_mul hK).2 hm
    have h1 : (List.replicate n z)[m / K]? = some z := by rw [List.getElem?_replicate]; rw [if_pos hd]
    have h2 := flat_at2 hl (List.replicate n z) (m / K) z (m % K) h1 (Nat.mod_lt _ hK)
    rw [show m / K * K + m % K = m by rw [Nat.mul_comm]; exact Nat.div_add_mod m K] at h2
    rw [h2]
    have hj : m % K < (enc z).length := by rw [hl]; exact Nat.mod_lt _ hK
    unfold madeCells
    simp only [Array.toList_map, Array.toList_range, List.getElem?_map, List.getElem?_range hm, Option.map_some]
    rw [List.getElem?_eq_getElem hj]
    congr 1
    have hs : (enc z).toArray.size = K := by rw [List.size_toArray, hl]
    rw [hs, getElem!_pos _ _ (by rw [hs]; exact Nat.mod_lt _ hK)]
    simp
  · rw [List.getElem?_eq_none (by simp [size_madeCells]; omega), List.getElem?_eq_none (by rw [flat_len hl, List.length_replicate]; omega)]
set_option maxRecDepth 100000 in
theorem rScalar_any (r : Int) (w : World) : Calls Tryd.prog 51 #[.int .i32 r] w fun e w' => e = .returned (.bool (isScal r)) ∧ w = w' := by
  unfold isScal
  by_cases h1 : 0 ≤ r <;> by_cases h2 : r ≤ 1114111 <;> by_cases h3 : r < 55296 <;> by_cases h4 : 57343 < r <;>
  · go_enter Tryd.func51, Tryd.ntmps51
    go_wp2
    go_ret
    refine ⟨?_, rfl⟩
    simp [h1, h2, h3, h4]
    try omega
/-- A row of bytes in a block. -/
def BytesAt (w : World) (v : Value) (xs : List Int) : Prop := (xs = [] ∧ v = .slice none 0 0) ∨ ∃ g c, v = .slice (some ⟨g, 0, none⟩) xs.length c ∧ w.heap[g]? = some (.cells (xs.map (Value.int .u8)).toArray 5 (0, 0))
def BytesPost (b : ByteArray) (w : World) (e : Ending) (w' : World) : Prop := ∃ v xs, e = .returned v ∧ BytesAt w' v xs ∧ strOfNums xs = b ∧ Below w.heap.size w w'
theorem info_byte : (Tryd.prog.info? 5).map (fun i => (i.zero, i.size, i.bytes)) = some (some (.int .u8 0), 1, 1) := by kernel_rfl
theorem made_bytes (n : Nat) : madeCells #[Value.int .u8 0] n = (List.replicate n (Value.int .u8 0)).toArray := by
  have h := made_flatP (enc := fun v : Value => [v]) (K := 1) (fun _ => rfl) (by decide) (Value.int .u8 0) n
  rw [Nat.mul_one] at h
  refine Array.ext' (h.trans ?_)
  clear h
  induction n with
  | zero => rfl
  | succ n ih =>
    rw [List.replicate_succ]
    show Value.int .u8 0 :: flat _ (List.replicate n (Value.int .u8 0)) = _
    rw [ih]
theorem make_bytes (n : Nat) (h : n ≤ 1000) (W : World) : Sem.run Tryd.prog (Instr.makeSlice 51 (.int .i64 (n : Int)) (.int .i64 (n : Int))) W = .ok (.slice (some ⟨W.heap.size, 0, none⟩) n n) (W.alloc (.cells (List.replicate n (Value.int .u8 0)).toArray 5)) := by
  rw [← made_bytes]
  exact run_make_row' 51 5 (.int .u8 0) 1 Tryd.underlying51 info_byte rfl .i64 .i64 n (by omega) (by omega) W
set_option maxRecDepth 100000 in
set_option maxHeartbeats 1600000 in
theorem rPutB_any (r : Int) (w : World) : Calls Tryd.prog 41 #[.int .i32 r] w (BytesPost (putB r) w) := by
  have HS := Lib.hid (fun w => rScalar_any r w)
  cases hs : isScal r with
  | false =>
    have HV := Lib.hid (show putB r = ByteArray.empty from by unfold putB; rw [hs]; rfl)
    rw [hs] at HS
    clear hs
    go_enter Tryd.func41, Tryd.ntmps41
    go_wp2_with (go_at_call 51; refine (HS.out _).mono ?_; rintro e w1 ⟨rfl, rfl⟩)
    go_ret
    exact ⟨_, [], rfl, .inl ⟨rfl, rfl⟩, by rw [HV.out]; rfl, Below.refl _ _⟩
  | true =>
    rw [hs] at HS
    have hr : 0 ≤ r ∧ r ≤ 1114111 := by unfold isScal at hs; simp at hs; omega
    obtain ⟨hr0, hr1⟩ := hr
    by_cases hA : r < 128
    · have HV := Lib.hid (show putB r = ⟨#[r.toNat.toUInt8]⟩ from by unfold putB; rw [hs, if_pos rfl, if_pos hA])
      clear hs
      have hA1 : ¬ 127 < r := by omega
      have hA2 : ¬ 2047 < r := by omega
      have hA3 : ¬ 65535 < r := by omega
      go_enter Tryd.func41, Tryd.ntmps41
      go_wp2_with (go_at_call 51; refine (HS.out _).mono ?_; rintro e w1 ⟨rfl, rfl⟩)
      refine wp_loop_rounds 4 ?_
      rw [rounds_succ]; go_wp2
      rw [rounds_succ]; go_wp2
      rw [rounds_succ]; go_wp2
      rw [rounds_succ]; go_wp2
      go_ret
      exact ⟨_, [r], rfl, .inr ⟨w.heap.size + 1, 1, rfl, hp_new (by simp)⟩, by rw [HV.out]; rfl, below_allocs (below_allocs (Below.refl _ _) _) _⟩
    by_cases hB : r < 2048
    · have HV := Lib.hid (show putB r = ⟨#[(192 + r / 64).toNat.toUInt8, (128 + r % 64).toNat.toUInt8]⟩ from by unfold putB; rw [hs, if_pos rfl, if_neg (show ¬ r < 0x80 from hA), if_pos hB])
      clear hs
      have hmk : ∀ W : World, Sem.run Tryd.prog (Instr.makeSlice 51 (.int .i64 2) (.int .i64 2)) W = .ok (.slice (some ⟨W.heap.size, 0, none⟩) 2 2) (W.alloc (.cells #[.int .u8 0, .int .u8 0] 5)) := fun W => make_bytes 2 (by omega) W
      have hA1 : 127 < r := by omega
      have hA2 : ¬ 2047 < r := by omega
      have hA3 : ¬ 65535 < r := by omega
      go_enter Tryd.func41, Tryd.ntmps41
      go_wp2_with (go_at_call 51; refine (HS.out _).mono ?_; rintro e w1 ⟨rfl, rfl⟩)
      refine wp_loop_rounds 4 ?_
      rw [rounds_succ]; go_wp2
      rw [rounds_succ]; go_wp2
      rw [rounds_succ]; go_wp2
      rw [rounds_succ]; go_wp2
      refine wp_loop_rounds 2 ?_
      rw [rounds_succ]; go_wp2
      rw [rounds_succ]; go_wp2
      go_ret
      exact ⟨_, [192 + r / 64, 128 + r % 64], rfl, .inr ⟨w.heap.size + 1, 2, rfl, hp_old (hp_new (by simp))⟩, by rw [HV.out]; rfl, below_allocs (below_allocs (below_allocs (Below.refl _ _) _) _) _⟩
    by_cases hC : r < 65536
    · have HV := Lib.hid (show putB r = ⟨#[(224 + r / 4096).toNat.toUInt8, (128 + r / 64 % 64).toNat.toUInt8, (128 + r % 64).toNat.toUInt8]⟩ from by unfold putB; rw [hs, if_pos rfl, if_neg (show ¬ r < 0x80 from hA), if_neg (show ¬ r < 0x800 from hB), if_pos hC])
      clear hs
      have hmk : ∀ W : World, Sem.run Tryd.prog (Instr.makeSlice 51 (.int .i64 3) (.int .i64 3)) W = .ok (.slice (some ⟨W.heap.size, 0, none⟩) 3 3) (W.alloc (.cells #[.int .u8 0, .int .u8 0, .int .u8 0] 5)) := fun W => make_bytes 3 (by omega) W
      have hA1 : 127 < r := by omega
      have hA2 : 2047 < r := by omega
      have hA3 : ¬ 65535 < r := by omega
      have hdd : r / 64 / 64 = r / 4096 := by omega
      go_enter Tryd.func41, Tryd.ntmps41
      go_wp2_with (go_at_call 51; refine (HS.out _).mono ?_; rintro e w1 ⟨rfl, rfl⟩)
      refine wp_loop_rounds 4 ?_
      rw [rounds_succ]; go_wp2
      rw [rounds_succ]; go_wp2
      rw [rounds_succ]; go_wp2
      rw [rounds_succ]; go_wp2
      refine wp_loop_rounds 3 ?_
      rw [rounds_succ]; go_wp2
      rw [rounds_succ]; go_wp2
      rw [rounds_succ]; go_wp2
      go_ret
      exact ⟨_, [224 + r / 4096, 128 + r / 64 % 64, 128 + r % 64], rfl, .inr ⟨w.heap.size + 1, 3, rfl, hp_old (hp_new (by simp))⟩, by rw [HV.out]; rfl, below_allocs (below_allocs (below_allocs (Below.refl _ _) _) _) _⟩
    have HV := Lib.hid (show putB r = ⟨#[(240 + r / 262144).toNat.toUInt8, (128 + r / 4096 % 64).toNat.toUInt8, (128 + r / 64 % 64).toNat.toUInt8, (128 + r % 64).toNat.toUInt8]⟩ from by unfold putB; rw [hs, if_pos rfl, if_neg (show ¬ r < 0x80 from hA), if_neg (show ¬ r < 0x800 from hB), if_neg (show ¬ r < 0x10000 from hC)])
    clear hs
    have hmk : ∀ W : World, Sem.run Tryd.prog (Instr.makeSlice 51 (.int .i64 4) (.int .i64 4)) W = .ok (.slice (some ⟨W.heap.size, 0, none⟩) 4 4) (W.alloc (.cells #[.int .u8 0, .int .u8 0, .int .u8 0, .int .u8 0] 5)) := fun W => make_bytes 4 (by omega) W
    have hA1 : 127 < r := by omega
    have hA2 : 2047 < r := by omega
    have hA3 : 65535 < r := by omega
    have hdd : r / 64 / 64 = r / 4096 := by omega
    have hdd2 : r / 4096 / 64 = r / 262144 := by omega
    go_enter Tryd.func41, Tryd.ntmps41
    go_wp2_with (go_at_call 51; refine (HS.out _).mono ?_; rintro e w1 ⟨rfl, rfl⟩)
    refine wp_loop_rounds 4 ?_
    rw [rounds_succ]; go_wp2
    rw [rounds_succ]; go_wp2
    rw [rounds_succ]; go_wp2
    rw [rounds_succ]; go_wp2
    refine wp_loop_rounds 4 ?_
    rw [rounds_succ]; go_wp2
    rw [rounds_succ]; go_wp2
    rw [rounds_succ]; go_wp2
    rw [rounds_succ]; go_wp2
    go_ret
    exact ⟨_, [240 + r / 262144, 128 + r / 4096 % 64, 128 + r / 64 % 64, 128 + r % 64], rfl, .inr ⟨w.heap.size + 1, 4, rfl, hp_old (hp_new (by simp))⟩, by rw [HV.out]; rfl, below_allocs (below_allocs (below_allocs (Below.refl _ _) _) _) _⟩
theorem BytesAt.below {w w' : World} {v : Value} {xs : List Int} (h : BytesAt w v xs) (hb : Below w.heap.size w w') : BytesAt w' v xs := by
  rcases h with h | ⟨g, c, hv, hg⟩
  · exact .inl h
  · exact .inr ⟨g, c, hv, (hb.block g (lt_of_heap hg)).trans hg⟩
theorem conv_bytes {w : World} {v : Value} {xs : List Int} (h : BytesAt w v xs) : (convert 51 9 v).run Tryd.prog w = .ok (.string (strOfNums xs)) w := by
  rcases h with ⟨rfl, rfl⟩ | ⟨g, c, rfl, hg⟩
  · kernel_rfl
  · exact conv_at xs xs.length c g w 5 hg rfl
end Go.Proofs.YtbllhchcccflkaaDoor
