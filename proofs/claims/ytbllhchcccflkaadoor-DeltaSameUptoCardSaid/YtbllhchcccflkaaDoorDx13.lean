/- Joined by a tool of this claim out of smaller texts. Conditions: as stated. -/
import Derived.Test.YtbllhchcccflkaaDoorDx12
import Derived.Lib.Builder
import Derived.Lib.AppendStr
import Derived.Lib.UnsafeStr
import Derived.Lib.FrozenHead
import Derived.Shelf.RegionOpenPlain
import Derived.Lib.ItoaNum
import Derived.Shelf.Strconv.Itoa3
import Derived.Ground.NamesProg
import Derived.Test.YtbllhchcccflkaaDoorProg
import Derived.Lib.AppendIntMem
import Derived.Lib.LaidTab
set_option linter.unusedVariables false
set_option linter.unusedSimpArgs false
namespace Go.Proofs.YtbllhchcccflkaaDoor
open Go.RowKit
/-- A writer in a block. -/
def WrAt (w : World) (b : Nat) (p v : Value) : Prop := w.heap[b]? = some (.cells #[p, v, .int .i64 0, .int .i64 0, .int .i64 0, .int .i64 0, .int .i64 0] 55 (0, 0))
theorem size_builder : (Tryd.prog.info? 53).map (·.size) = some 2 := by kernel_rfl
theorem lies_builder : liesAt Tryd.prog Tryd.prog.depth 55 (7 / Tryd.prog.cellsOf 55) 0 53 1 = true := by kernel_rfl
set_option maxRecDepth 100000 in
set_option maxHeartbeats 1600000 in
theorem bcopy_any (b : Nat) (v : Value) (w : World) (h : WrAt w b (.pointer none) v) :
    Calls Tryd.prog 45 #[.pointer (some ⟨b, 0, none⟩)] w fun e w' => e = .returned (.tuple #[]) ∧ w' = w.setCell ⟨b, 0, none⟩ (.pointer (some ⟨b, 0, none⟩)) := by
  obtain ⟨j, hj, hjs⟩ := Option.map_eq_some_iff.1 size_builder
  have hsh : w.shape? b = some (55, 7) := by simp [World.shape?, show w.heap[b]? = _ from h]
  have h0 := (at_ h 0 _ rfl).1
  have hfz := (at_ h 0 _ rfl).2
  have hcv1 := Lib.run_to_unsafe (P := Tryd.prog) w ⟨b, 0, none⟩ Tryd.underlying50 Tryd.underlying89 hj (by rw [hjs]; decide) hsh (Nat.zero_lt_succ 6)
  have hcv2 := Lib.run_from_unsafe (P := Tryd.prog) w ⟨b, 0, none⟩ Tryd.underlying89 Tryd.underlying50 hj hsh lies_builder
  go_enter Tryd.func45, Tryd.ntmps45
  go_wp2
  rw [run_callFunc_extern Tryd.func57 (by kernel_rfl) (by kernel_rfl) (by kernel_rfl) (e := Extern.AbiNoEscape.same) (by kernel_rfl)]
  rw [Lib.run_noEscape]
  try simp only [Result.andThen]
  rw [Oper.upon_value]
  go_wp2
  go_end0
  exact ⟨rfl, rfl⟩
theorem WrAt.set0 {w : World} {b : Nat} {p q v : Value} (h : WrAt w b p v) : WrAt (w.setCell ⟨b, 0, none⟩ q) b q v := by
  unfold WrAt at h ⊢
  simp [World.setCell, Array.getElem?_modify, h]
theorem WrAt.set1 {w : World} {b : Nat} {p v u : Value} (h : WrAt w b p v) : WrAt (w.setCell ⟨b, 1, none⟩ u) b p u := by
  unfold WrAt at h ⊢
  simp [World.setCell, Array.getElem?_modify, h]
def WritePost (b : Nat) (s : ByteArray) (w : World) (e : Ending) (w' : World) : Prop := ∃ g c, e = .returned (.tuple #[.int .i64 s.size, .nilIface]) ∧ WrAt w' b (.pointer (some ⟨b, 0, none⟩)) (.slice (some ⟨g, 0, none⟩) s.size c) ∧ w'.ownsRow w.heap.size 5 1 (.slice (some ⟨g, 0, none⟩) s.size c) s.size (Lib.strCells s) ∧ Mod [b] w w'
set_option maxRecDepth 100000 in
set_option maxHeartbeats 1600000 in
theorem bwrite_any (b : Nat) (s : ByteArray) (w : World) (h : WrAt w b (.pointer none) (.slice none 0 0)) (hs0 : 0 < s.size) (hs : s.size ≤ 1000) :
    Calls Tryd.prog 33 #[.pointer (some ⟨b, 0, none⟩), .string s] w (WritePost b s w) := by
  obtain ⟨i0, hi, hz0, hz1, hz2⟩ := info_parts info_byte
  have HC := Lib.hid (bcopy_any b _ w h)
  have hlt := lt_of_heap h
  have hsz : (w.setCell ⟨b, 0, none⟩ (.pointer (some ⟨b, 0, none⟩))).heap.size = w.heap.size := by simp [World.setCell]
  have HM : Hid (Mod [b] w (w.setCell ⟨b, 0, none⟩ (.pointer (some ⟨b, 0, none⟩)))) := Lib.hid ((Mod.refl _ _).setCell (.inl (by simp)) _)
  have HW' : Hid (WrAt (w.setCell ⟨b, 0, none⟩ (.pointer (some ⟨b, 0, none⟩))) b (.pointer (some ⟨b, 0, none⟩)) (.slice none 0 0)) := Lib.hid h.set0
  clear h
  have c1 := (at_ HW'.out 1 _ rfl).1
  generalize hw1 : w.setCell ⟨b, 0, none⟩ (.pointer (some ⟨b, 0, none⟩)) = w1 at HC HM HW' hsz c1
  clear hw1
  have hown := World.ownsRow_nil w1 w.heap.size 5 1
  go_enter Tryd.func33, Tryd.ntmps33
  go_wp2_with (first | (go_at_call 45; (with_reducible refine HC.out.mono ?_); rintro e w2 ⟨rfl, rfl⟩) | (at_builtin; refine Lib.wpList_append_own_string _ rfl _ _ 51 9 rfl w.heap.size 5 i0 Tryd.underlying51 Tryd.underlying9 hi hz0 hz1 hz2 _ 0 _ rfl hown s rfl (by unfold maxLen; omega) (by omega) (by omega) ?_; intro v' w2 hown' hgrow _; rw [Nat.zero_add, List.nil_append] at hown'; obtain ⟨g, c, rfl, hgl, hgb⟩ := own_form8 hown' hs0; have HB2 : Hid (WrAt w2 b (.pointer (some ⟨b, 0, none⟩)) (.slice none 0 0)) := Lib.hid ((hgrow.block b (lt_of_heap HW'.out) (by intro e; cases e)).trans HW'.out); have HM2 := Lib.hid (HM.out.trans (Mod.of_grown (X := []) hgrow (fun g e => by cases e)) (fun _ h => by cases h)); have HO := Lib.hid hown'; have d1 := (at_ HB2.out 1 _ rfl).1; have f1 := (at_ HB2.out 1 _ rfl).2; clear hown' hgrow))
  go_ret2
  refine ⟨g, c, rfl, HB2.out.set1, owns_mod HO.out ((Mod.refl [b] _).setCell (.inl (by simp)) _) (fun g' e hm => ?_), HM2.out.setCell (.inl (by simp)) _⟩
  obtain rfl : g = g' := by simpa [Value.ownBlock] using e
  obtain rfl : g = b := by simpa using hm
  omega
theorem cells_u8 : Tryd.prog.cellsOf 5 = 1 := by kernel_rfl
set_option maxRecDepth 100000 in
set_option maxHeartbeats 1600000 in
theorem bstring_any (b g cap B : Nat) (p : Value) (l : List UInt8) (w : World) (h : WrAt w b p (.slice (some ⟨g, 0, none⟩) l.length cap)) (hown : w.ownsRow B 5 1 (.slice (some ⟨g, 0, none⟩) l.length cap) l.length (Lib.byteCells l)) (h0 : l ≠ []) :
    Calls Tryd.prog 22 #[.pointer (some ⟨b, 0, none⟩)] w fun e w' => e = .returned (.string ⟨l.toArray⟩) ∧ Below B w w' := by
  have hl0 : l.length ≠ 0 := by simpa using h0
  obtain ⟨hbg, cur, fz, hg, hnc, hcm, hcs, htake⟩ : B ≤ g ∧ ∃ cur fz, w.heap[g]? = some (.cells cur 5 fz) ∧ l.length ≤ cap ∧ cap ≤ maxLen ∧ cur.size = cap * 1 ∧ cur.toList.take (l.length * 1) = Lib.byteCells l := by
    rcases hown.2 with ⟨_, hz⟩ | ⟨g', cap', cur, hv, hb, hg, h1, h2, h3, h4⟩
    · exact absurd hz hl0
    · simp only [Value.slice.injEq, Option.some.injEq, Addr.mk.injEq] at hv
      obtain ⟨⟨rfl, -⟩, -, rfl⟩ := hv
      exact ⟨hb, cur, _, hg, h1, h2, h3, h4⟩
  have c1 : w.drew.cell? ⟨b, 1, none⟩ = some (.slice (some ⟨g, 0, none⟩) l.length cap) := (at_ (show w.drew.heap[b]? = _ from h) 1 _ rfl).1
  have hSD : (Builtin.unsafeSliceData_ #[51] 75 #[.slice (some ⟨g, 0, none⟩) l.length cap]).run Tryd.prog w.drew = .ok (.pointer (some ⟨g, 0, none⟩)) w.drew :=
    Lib.run_unsafeSliceData_row _ _ _ _ _ _ (by omega)
  have hUS : (Builtin.unsafeString_ #[75, 3] 9 #[.pointer (some ⟨g, 0, none⟩), .int .i64 l.length]).run Tryd.prog w.drew = .ok (.string ⟨l.toArray⟩) (w.drew.freeze ⟨g, 0, none⟩ l.length) := by
    refine Lib.run_unsafeString_row w.drew 75 3 9 5 Tryd.underlying75 cells_u8 g cur.size (by have hg' : w.drew.heap[g]? = some (.cells cur 5 fz) := hg; simp [World.shape?, hg']) l h0 (by omega) (by unfold maxLen at hcm; omega) ?_
    intro j x hx
    have := hown.cells (g := g) rfl j (.int .u8 x.toNat) (by simp [Lib.byteCells, hx])
    exact this
  have mixed : Tryd.prog.follows .mixedOrders = true := by kernel_rfl
  go_enter Tryd.func22, Tryd.ntmps22
  go_wp2
  go_region_o
  all_goals (go_wp2; go_ret; exact ⟨rfl, Lib.below_freeze (Below.drew (Below.refl B w)) (p := ⟨g, 0, none⟩) hbg _⟩)
end Go.Proofs.YtbllhchcccflkaaDoor

namespace Go.Proofs.YtbllhchcccflkaaDoor
open Go.RowKit
theorem near_any (n : Nat) (hn : n ≤ 1000) (w : World) : Calls Tryd.prog 9 #[.int .i64 n] w fun e w' => e = .returned (.int .i64 n) ∧ w = w' := by
  go_enter Tryd.func9, Tryd.ntmps9
  go_wp2
  go_ret
  exact ⟨rfl, rfl⟩
def DigInv (N m : Nat) (l : List UInt8) : Prop := (l = [] ∧ m = N) ∨ (l ≠ [] ∧ (m = 0 ∧ l = Lib.decDigits N ∨ 0 < m ∧ Lib.decDigits N = Lib.decDigits m ++ l))
theorem DigInv.step {N m : Nat} {l : List UInt8} (h : DigInv N m l) (hm : 0 < m ∨ l = []) : DigInv N (m / 10) (UInt8.ofNat (48 + m % 10) :: l) := by
  have hd : m < 10 ∧ Lib.decDigits m = [UInt8.ofNat (48 + m % 10)] ∧ m / 10 = 0 ∨ 10 ≤ m ∧ Lib.decDigits m = Lib.decDigits (m / 10) ++ [UInt8.ofNat (48 + m % 10)] := by
    by_cases h10 : m < 10
    · left
      refine ⟨h10, ?_, by omega⟩
      rw [Lib.decDigits, dif_pos h10, Nat.mod_eq_of_lt h10]
    · right
      refine ⟨by omega, ?_⟩
      rw [Lib.decDigits, dif_neg h10]
  refine .inr ⟨by simp, ?_⟩
  rcases h with ⟨rfl, rfl⟩ | ⟨hl, h⟩
  · rcases hd with ⟨h1, h2, h3⟩ | ⟨h1, h2⟩
    · exact .inl ⟨h3, h2.symm⟩
    · exact .inr ⟨by omega, h2⟩
  · have hm0 : 0 < m := by
      rcases hm with h | h
      · exact h
      · exact absurd h hl
    rcases h with ⟨h, _⟩ | ⟨_, h⟩
    · omega
    · rcases hd with ⟨h1, h2, h3⟩ | ⟨h1, h2⟩
      · exact .inl ⟨h3, by rw [h, h2]; rfl⟩
      · exact .inr ⟨by omega, by rw [h, h2]; simp⟩
theorem str_cons (x : Nat) (l : List UInt8) : strOfNums [(x : Int)] ++ (⟨l.toArray⟩ : ByteArray) = ⟨(UInt8.ofNat x :: l).toArray⟩ := by
  unfold strOfNums
  refine ByteArray.ext ?_
  rw [ByteArray.data_append]
  simp
def sizeV : Value → Nat
  | .string b => if b.size = 0 then 1 else 0
  | _ => 0
set_option maxRecDepth 100000 in
set_option maxHeartbeats 1600000 in
theorem digits_any (N : Nat) (hN : N ≤ 100000) (w : World) : Calls Tryd.prog 10 #[.int .i64 N] w fun e w' => e = .returned (.string ⟨(Lib.decDigits N).toArray⟩) ∧ Below w.heap.size w w' := by
  go_enter Tryd.func10, Tryd.ntmps10
  go_wp2_with fail
  go_loopw [0, 3] (fun n s wr => ∃ (m : Nat) (l : List UInt8), n = .int .i64 m ∧ s = .string ⟨l.toArray⟩ ∧ l.length + m ≤ N + 1 ∧ m ≤ N ∧ DigInv N m l ∧ Below w.heap.size w wr) (fun n s _ => (intOf n).toNat + sizeV s)
  case atStart => exact ⟨N, [], rfl, rfl, by simp, Nat.le_refl _, .inl ⟨rfl, rfl⟩, Below.refl _ _⟩
  case round =>
    obtain ⟨m, l, rfl, rfl, hlm, hm, hI, hB⟩ := hrel
    have hI := Lib.hid hI
    obtain ⟨d, hd⟩ : ∃ d, d = m % 10 := ⟨_, rfl⟩
    obtain ⟨q, hq0⟩ : ∃ q, q = m / 10 := ⟨_, rfl⟩
    obtain ⟨x, hx⟩ : ∃ x, x = 48 + d := ⟨_, rfl⟩
    have hr : (m : Int).tmod 10 = (d : Int) := by rw [Int.tmod_eq_emod_of_nonneg (by omega)]; omega
    have hr2 : (m : Int) % 10 = (d : Int) := by omega
    have hq : (m : Int).tdiv 10 = (q : Int) := by rw [Int.tdiv_eq_ediv_of_nonneg (by omega)]; omega
    have hq2 : (m : Int) / 10 = (q : Int) := by omega
    have hw1 : IntKind.i64.wrap (d : Int) = (d : Int) := IntWalk.i64_in _ (by omega)
    have hw2 : IntKind.i64.wrap (48 + (d : Int)) = (x : Int) := by rw [IntWalk.i64_in _ (by omega)]; omega
    have hw3 : IntKind.u8.wrap (x : Int) = (x : Int) := IntWalk.u8_in _ (by omega)
    have hw4 : IntKind.i64.wrap (q : Int) = (q : Int) := IntWalk.i64_in _ (by omega)
    have hcv := conv_at [(x : Int)] 1 1 wr.heap.size (wr.alloc (.cells #[.int .u8 (x : Int)] 5)) 5 (hp_new rfl) rfl
    have hb2 := Lib.hid (below_allocs hB (.cells #[.int .u8 (x : Int)] 5))
    have hs := Lib.hid (str_cons x l)
    have hxx := Lib.hid hx
    have hdd := Lib.hid hd
    have hqq := Lib.hid hq0
    clear hx hd hq0
    have HS := Lib.hid (fun h => hI.out.step (h : 0 < m ∨ l = []))
    have hqm : q < m ∨ m = 0 := by have := hqq.out; omega
    have hqN : q ≤ N := by omega
    have hsz : ¬ 9223372036854775807 < (strOfNums [(x : Int)]).size + l.length := by show ¬ 9223372036854775807 < 1 + l.length; omega
    have fin : Hid ((0 < m ∨ l = []) → DigInv N q (UInt8.ofNat x :: l)) := Lib.hid (fun h => by have := HS.out h; rw [hxx.out, hdd.out, hqq.out]; exact this)
    by_cases h0 : 0 < m
    · have h0' : (0 : Int) < m := by omega
      go_wp2
      go_roundw
      case rel => exact ⟨q, _, rfl, by rw [hs.out], by rw [List.length_cons]; omega, hqN, fin.out (.inl h0), hb2.out⟩
      case measure =>
        have e : (strOfNums [(x : Int)] ++ (⟨l.toArray⟩ : ByteArray)).size ≠ 0 := by rw [hs.out]; show (UInt8.ofNat x :: l).toArray.size ≠ 0; simp
        have e2 : sizeV (.string (strOfNums [(x : Int)] ++ (⟨l.toArray⟩ : ByteArray))) = 0 := by unfold sizeV; exact if_neg e
        rw [e2]
        simp only [intOf]
        omega
    · obtain rfl : m = 0 := by omega
      clear h0
      rcases l with _ | ⟨u, l⟩
      · have hcv0 := conv_at [48] 1 1 wr.heap.size (wr.alloc (.cells #[.int .u8 48] 5)) 5 (hp_new rfl) rfl
        have hs0 := Lib.hid (str_cons 48 [])
        have hb0 := Lib.hid (below_allocs hB (.cells #[.int .u8 48] 5))
        have hN0 : N = 0 := by
          rcases hI.out with ⟨_, h⟩ | ⟨h, _⟩
          · exact h.symm
          · exact absurd rfl h
        have fin0 : Hid (DigInv N 0 [UInt8.ofNat 48]) := Lib.hid (hI.out.step (.inr rfl))
        clear hI HS fin hs hb2 hcv hr hr2 hq hq2 hw1 hw2 hw3 hw4 hsz hxx hdd hqq hqm
        go_wp2
        go_roundw
        case rel => exact ⟨0, _, rfl, by rw [show (48 : Int) = ((48 : Nat) : Int) from rfl]; rw [hs0.out], by simp, by omega, fin0.out, hb0.out⟩
        case measure =>
          have e1 : sizeV (.string (strOfNums [(48 : Int)] ++ (⟨#[]⟩ : ByteArray))) = 0 := by rfl
          have e2 : sizeV (.string ⟨#[]⟩) = 1 := by rfl
          exact (by show 0 + sizeV _ < 0 + sizeV _; rw [e1, e2]; omega)
      · go_wp2
        go_ret
        refine ⟨?_, hB⟩
        rcases hI.out with ⟨h, _⟩ | ⟨_, ⟨_, h⟩ | ⟨h, _⟩⟩
        · cases h
        · rw [h]; rfl
        · exact absurd h (by omega)
end Go.Proofs.YtbllhchcccflkaaDoor

namespace Go.Proofs
open Go.Shelf
def Tryd.laysItoa_ren : Go.Shelf.Ren := ⟨fun | 171 => 36 | 243 => 49 | 246 => 60 | 283 => 71 | 284 => 72 | 285 => 73 | 286 => 74 | 129 => 82 | 317 => 81 | 318 => 83 | 319 => 84 | 320 => 85 | 337 => 91 | 338 => 92 | n => n, fun | 3 => 3 | 9 => 9 | 2 => 2 | 4 => 4 | 171 => 104 | 0 => 0 | 53 => 105 | 37 => 51 | 5 => 5 | 173 => 108 | 212 => 119 | 51 => 120 | 20 => 20 | 213 => 121 | 46 => 83 | 232 => 131 | 233 => 132 | n => n, fun | 17 => 0 | 18 => 1 | 19 => 2 | n => n⟩
theorem Tryd.laysItoa : Go.Proofs.LaysM.n171 Tryd.prog Tryd.laysItoa_ren := {
  mixed := by kernel_rfl
  f129 := Tryd.func82.trans (congrArg some (by kernel_rfl))
  f171 := Tryd.func36.trans (congrArg some (by kernel_rfl))
  f243 := Tryd.func49.trans (congrArg some (by kernel_rfl))
  f246 := Tryd.func60.trans (congrArg some (by kernel_rfl))
  f283 := Tryd.func71.trans (congrArg some (by kernel_rfl))
  f284 := Tryd.func72.trans (congrArg some (by kernel_rfl))
  f285 := Tryd.func73.trans (congrArg some (by kernel_rfl))
  f286 := Tryd.func74.trans (congrArg some (by kernel_rfl))
  f317 := Tryd.func81.trans (congrArg some (by kernel_rfl))
  f318 := Tryd.func83.trans (congrArg some (by kernel_rfl))
  f319 := Tryd.func84.trans (congrArg some (by kernel_rfl))
  f320 := Tryd.func85.trans (congrArg some (by kernel_rfl))
  f337 := Tryd.func91.trans (congrArg some (by kernel_rfl))
  f338 := Tryd.func92.trans (congrArg some (by kernel_rfl))
  t0 := Tryd.underlying0
  a0 := Tryd.isAgg0
  z0 := Tryd.sizeOf0
  v0 := Tryd.zeroValue0
  t2 := Tryd.underlying2
  a2 := Tryd.isAgg2
  z2 := Tryd.sizeOf2
  v2 := Tryd.zeroValue2
  t3 := Tryd.underlying3
  a3 := Tryd.isAgg3
  z3 := Tryd.sizeOf3
  v3 := Tryd.zeroValue3
  t4 := Tryd.underlying4
  a4 := Tryd.isAgg4
  z4 := Tryd.sizeOf4
  v4 := Tryd.zeroValue4
  t5 := Tryd.underlying5
  a5 := Tryd.isAgg5
  z5 := Tryd.sizeOf5
  v5 := Tryd.zeroValue5
  t9 := Tryd.underlying9
  a9 := Tryd.isAgg9
  z9 := Tryd.sizeOf9
  v9 := Tryd.zeroValue9
  t20 := Tryd.underlying20
  a20 := Tryd.isAgg20
  z20 := Tryd.sizeOf20
  v20 := Tryd.zeroValue20
  t37 := Tryd.underlying51
  a37 := Tryd.isAgg51
  z37 := Tryd.sizeOf51
  v37 := Tryd.zeroValue51
  t46 := Tryd.underlying83
  a46 := Tryd.isAgg83
  z46 := Tryd.sizeOf83
  v46 := Tryd.zeroValue83
  t51 := Tryd.underlying120
  a51 := Tryd.isAgg120
  z51 := Tryd.sizeOf120
  v51 := Tryd.zeroValue120
  t53 := Tryd.underlying105
  a53 := Tryd.isAgg105
  z53 := Tryd.sizeOf105
  v53 := Tryd.zeroValue105
  t171 := Tryd.underlying104
  a171 := Tryd.isAgg104
  z171 := Tryd.sizeOf104
  v171 := Tryd.zeroValue104
  t173 := Tryd.underlying108
  a173 := Tryd.isAgg108
  z173 := Tryd.sizeOf108
  v173 := Tryd.zeroValue108
  t212 := Tryd.underlying119
  a212 := Tryd.isAgg119
  z212 := Tryd.sizeOf119
  v212 := Tryd.zeroValue119
  t213 := Tryd.underlying121
  a213 := Tryd.isAgg121
  z213 := Tryd.sizeOf121
  t232 := Tryd.underlying131
  a232 := Tryd.isAgg131
  z232 := Tryd.sizeOf131
  v232 := Tryd.zeroValue131
  t233 := Tryd.underlying132
  a233 := Tryd.isAgg132
  z233 := Tryd.sizeOf132
  v233 := Tryd.zeroValue132
  g17 := by kernel_rfl
  g18 := by kernel_rfl
  g19 := by kernel_rfl
  i0 := by kernel_rfl
  i2 := by kernel_rfl
  i3 := by kernel_rfl
  i4 := by kernel_rfl
  i5 := by kernel_rfl
  i9 := by kernel_rfl
  i20 := by kernel_rfl
  i37 := by kernel_rfl
  i46 := by kernel_rfl
  i51 := by kernel_rfl
  i53 := by kernel_rfl
  i171 := by kernel_rfl
  i173 := by kernel_rfl
  i212 := by kernel_rfl
  i232 := by kernel_rfl
  i233 := by kernel_rfl
  m17 := by kernel_rfl
  m18 := by kernel_rfl
  m19 := by kernel_rfl }
end Go.Proofs

namespace Go.Proofs.YtbllhchcccflkaaDoor
open Go.RowKit
/-- The library's table of powers lies as it is laid. -/
def TabP (w : World) : Prop := Lib.TabIs Tryd.prog w "internal/strconv.uint64pow10" .u64 Lib.pow10Tab
theorem TabP.below {w w' : World} (h : TabP w) (hb : Below w.heap.size w w') : TabP w' := Lib.tabBelow_of_tabIs h w' hb
def digS (n : Nat) : ByteArray := ⟨(Lib.decDigits n).toArray⟩
theorem itoa_any (n : Nat) (hn : n ≤ 100000) (w : World) (ht : TabP w) : Calls Tryd.prog 36 #[.int .i64 n] w fun e w' => e = .returned (.string (digS n)) ∧ Below w.heap.size w w' := by
  refine (Any.strconv_Itoa Tryd.laysItoa (n : Int) (by omega) (by omega) w ht).mono ?_
  rintro e w' ⟨rfl, k, os, rfl⟩
  refine ⟨?_, Lib.below_grow _ w (Nat.le_refl _) k os⟩
  rw [Lib.itoa_nonneg]
  rfl
theorem decD_len (n : Nat) : ∀ k, n < 10 ^ (k + 1) → (Lib.decDigits n).length ≤ k + 1 := by
  intro k
  induction k generalizing n with
  | zero =>
    intro h
    rw [Lib.decDigits, dif_pos (by omega)]
    simp
  | succ k ih =>
    intro h
    rw [Lib.decDigits]
    split
    · simp
    · rw [List.length_append]
      have := ih (n / 10) (by rw [Nat.pow_succ] at h; omega)
      simp
      omega
theorem digS_size (n : Nat) (hn : n ≤ 100000) : (digS n).size ≤ 6 ∧ 0 < (digS n).size := by
  have h1 := decD_len n 5 (by omega)
  have h2 : 0 < (Lib.decDigits n).length := by
    rw [Lib.decDigits]
    split <;> simp
  show (Lib.decDigits n).toArray.size ≤ 6 ∧ 0 < (Lib.decDigits n).toArray.size
  rw [List.size_toArray]
  exact ⟨h1, h2⟩
/-- The cursor's sequence. -/
def curS (a b : ByteArray) : ByteArray := ((((⟨#[27, 91]⟩ : ByteArray) ++ a) ++ (⟨#[59]⟩ : ByteArray)) ++ b) ++ (⟨#[72]⟩ : ByteArray)
def MovePost (b : Nat) (s : ByteArray) (w : World) (e : Ending) (w' : World) : Prop := ∃ g c, e = .returned (.tuple #[]) ∧ WrAt w' b (.pointer (some ⟨b, 0, none⟩)) (.slice (some ⟨g, 0, none⟩) s.size c) ∧ w'.ownsRow w.heap.size 5 1 (.slice (some ⟨g, 0, none⟩) s.size c) s.size (Lib.strCells s) ∧ Mod [b] w w'
set_option maxRecDepth 100000 in
set_option maxHeartbeats 3200000 in
theorem wmove_any (b y x : Nat) (hy : y ≤ 1000) (hx : x ≤ 1000) (w : World) (h : WrAt w b (.pointer none) (.slice none 0 0)) (ht : TabP w) :
    Calls Tryd.prog 21 #[.pointer (some ⟨b, 0, none⟩), .int .i64 y, .int .i64 x] w (MovePost b (curS (digS (y + 1)) (digS (x + 1))) w) := by
  have HI1 : Hid (∀ w', TabP w' → Calls Tryd.prog 36 #[.int .i64 ((y : Int) + 1)] w' fun e w2 => e = .returned (.string (digS (y + 1))) ∧ Below w'.heap.size w' w2) := Lib.hid (fun w' ht => itoa_any (y + 1) (by omega) w' ht)
  have HI2 : Hid (∀ w', TabP w' → Calls Tryd.prog 36 #[.int .i64 ((x : Int) + 1)] w' fun e w2 => e = .returned (.string (digS (x + 1))) ∧ Below w'.heap.size w' w2) := Lib.hid (fun w' ht => itoa_any (x + 1) (by omega) w' ht)
  obtain ⟨s1, s1'⟩ := digS_size (y + 1) (by omega)
  obtain ⟨s2, s2'⟩ := digS_size (x + 1) (by omega)
  generalize digS (y + 1) = d1 at HI1 s1 s1'
  generalize digS (x + 1) = d2 at HI2 s2 s2'
  have w1 : IntKind.i64.wrap ((y : Int) + 1) = (y : Int) + 1 := IntWalk.i64_in _ (by omega)
  have w2 : IntKind.i64.wrap ((x : Int) + 1) = (x : Int) + 1 := IntWalk.i64_in _ (by omega)
  have n0 : ¬ 9223372036854775807 < 2 + d1.size := by omega
  have n1 : ¬ 9223372036854775807 < 2 + d1.size + 1 := by omega
  have n2 : ¬ 9223372036854775806 < 2 + d1.size := by omega
  have n3 : ¬ 9223372036854775807 < 2 + d1.size + 1 + d2.size := by omega
  have n4 : ¬ 9223372036854775807 < 2 + d1.size + 1 + d2.size + 1 := by omega
  have n5 : ¬ 9223372036854775806 < 2 + d1.size + 1 + d2.size := by omega
  have HW := Lib.hid h
  have HT := Lib.hid ht
  have hlt := lt_of_heap h
  have HWR : Hid (∀ w', Below w.heap.size w w' → Calls Tryd.prog 33 #[.pointer (some ⟨b, 0, none⟩), .string (((((⟨#[27, 91]⟩ : ByteArray) ++ d1) ++ (⟨#[59]⟩ : ByteArray)) ++ d2) ++ (⟨#[72]⟩ : ByteArray))] w' (WritePost b (curS d1 d2) w')) := Lib.hid (fun w' hb => by
    have hsz : (curS d1 d2).size = 2 + d1.size + 1 + d2.size + 1 := by
      unfold curS
      simp only [ByteArray.size_append]
      rfl
    exact bwrite_any b (curS d1 d2) w' ((hb.block b (lt_of_heap HW.out)).trans HW.out) (by omega) (by omega))
  clear h ht
  go_enter Tryd.func21, Tryd.ntmps21
  go_upto_region 0 with fail
  refine wp_region_u 13 (fun w' => Below w.heap.size w w') (by kernel_rfl) (by kernel_rfl) ?_ ?_
  · exact (Below.refl _ _).drew
  simp only [List.take_succ_cons, List.take_zero, List.drop_succ_cons, List.drop_zero]
  repeat (
    (first
     | refine seqU_skip (by rfl) ?_
     | ((refine seqU_call 36 #[.int .i64 ((y : Int) + 1)] (.string d1) (by rfl) ?_ (fun w' hS => (HI1.out w' (HT.out.below hS)).mono fun e w2 ⟨he, hb⟩ => ⟨he, below_tail hS hb⟩) ?_; (focus (intro w2; go_simp; done))))
     | ((refine seqU_call 36 #[.int .i64 ((x : Int) + 1)] (.string d2) (by rfl) ?_ (fun w' hS => (HI2.out w' (HT.out.below hS)).mono fun e w2 ⟨he, hb⟩ => ⟨he, below_tail hS hb⟩) ?_; (focus (intro w2; go_simp; done))))
     | (refine seqU_val ?_ (by rfl) ?_ ?_; rotate_left; (focus (intro w' hS; obtain hS0 := hS; go_simp; first | done | with_reducible rfl))))
    simp only [Act.put, List.setIfInBounds_toArray, List.set_cons_zero, List.set_cons_succ])
  refine seqU_nil (fun w' hS => ?_)
  go_wp2_with (go_at_call 33; (with_reducible refine (HWR.out _ hS).mono ?_); rintro e w4 ⟨g, c, rfl, h1, h2, h3⟩)
  go_end0
  exact ⟨g, c, rfl, h1, owns_weaken h2 hS.size, (Mod.of_below (X := [b]) hS).trans h3 (fun g hg => .inl hg)⟩
theorem achange_zero (w : World) : Calls Tryd.prog 35 #[.agg #[.int .i64 0, .int .i64 0, .int .i64 0, .int .i64 0, .int .i64 0], .agg #[.int .i64 0, .int .i64 0, .int .i64 0, .int .i64 0, .int .i64 0]] w fun e w' => e = .returned (.string ⟨#[]⟩) ∧ Below w.heap.size w w' := by
  go_enter Tryd.func35, Tryd.ntmps35
  go_wp2
  go_ret
  exact ⟨rfl, by repeat (first | exact Below.refl _ _ | refine below_allocs ?_ _)⟩
set_option maxRecDepth 100000 in
set_option maxHeartbeats 1600000 in
theorem wturn_zero (b : Nat) (p v : Value) (w : World) (h : WrAt w b p v) :
    Calls Tryd.prog 20 #[.pointer (some ⟨b, 0, none⟩), .agg #[.int .i64 0, .int .i64 0, .int .i64 0, .int .i64 0, .int .i64 0]] w fun e w' => e = .returned (.tuple #[]) ∧ Below w.heap.size w w' := by
  have HC := Lib.hid (fun w => achange_zero w)
  have hlt := lt_of_heap h
  have hw : WrAt (w.alloc (.cells #[.int .i64 0, .int .i64 0, .int .i64 0, .int .i64 0, .int .i64 0] 42)) b p v := hp_old h
  have hBA := (Below.refl w.heap.size w).alloc (Nat.le_refl _) (.cells #[.int .i64 0, .int .i64 0, .int .i64 0, .int .i64 0, .int .i64 0] 42)
  have hn := hp_new (W := w) (o := .cells #[.int .i64 0, .int .i64 0, .int .i64 0, .int .i64 0, .int .i64 0] 42) rfl
  have hsz := World.size_alloc w (.cells #[.int .i64 0, .int .i64 0, .int .i64 0, .int .i64 0, .int .i64 0] 42)
  go_enter Tryd.func20, Tryd.ntmps20
  go_upto_region 1 with fail
  generalize hW : w.alloc (.cells #[.int .i64 0, .int .i64 0, .int .i64 0, .int .i64 0, .int .i64 0] 42) = W at hw hBA hn hsz ⊢
  clear hW
  have a2 := (at_ hw 2 _ rfl).1
  have a3 := (at_ hw 3 _ rfl).1
  have a4 := (at_ hw 4 _ rfl).1
  have a5 := (at_ hw 5 _ rfl).1
  have a6 := (at_ hw 6 _ rfl).1
  have b0 := (at_ hn 0 _ rfl).1
  have b1 := (at_ hn 1 _ rfl).1
  have b2 := (at_ hn 2 _ rfl).1
  have b3 := (at_ hn 3 _ rfl).1
  have b4 := (at_ hn 4 _ rfl).1
  generalize hN : w.heap.size = N at b0 b1 b2 b3 b4 hBA hsz ⊢
  refine wp_region_u 5 (fun w' => Below W.heap.size W w' ∧ w'.cell? ⟨b, 2, none⟩ = some (.int .i64 0) ∧ w'.cell? ⟨b, 3, none⟩ = some (.int .i64 0) ∧ w'.cell? ⟨b, 4, none⟩ = some (.int .i64 0) ∧ w'.cell? ⟨b, 5, none⟩ = some (.int .i64 0) ∧ w'.cell? ⟨b, 6, none⟩ = some (.int .i64 0) ∧ w'.cell? ⟨N, 0, none⟩ = some (.int .i64 0) ∧ w'.cell? ⟨N, 1, none⟩ = some (.int .i64 0) ∧ w'.cell? ⟨N, 2, none⟩ = some (.int .i64 0) ∧ w'.cell? ⟨N, 3, none⟩ = some (.int .i64 0) ∧ w'.cell? ⟨N, 4, none⟩ = some (.int .i64 0)) (by kernel_rfl) (by kernel_rfl) ?_ ?_
  · exact ⟨(Below.refl _ _).drew, a2, a3, a4, a5, a6, b0, b1, b2, b3, b4⟩
  simp only [List.take_succ_cons, List.take_zero, List.drop_succ_cons, List.drop_zero]
  repeat (
    (first
     | refine seqU_skip (by rfl) ?_
     | (refine seqU_val ?_ (by rfl) ?_ ?_; rotate_left; (focus (intro w' hS; obtain ⟨_, _, _, _, _, _, _, _, _, _, _⟩ := hS; go_simp; first | done | with_reducible rfl))))
    simp only [Act.put, List.setIfInBounds_toArray, List.set_cons_zero, List.set_cons_succ])
  refine seqU_nil (fun w' hS => ?_)
  obtain ⟨hb, _⟩ := hS
  go_wp2_with (go_at_call 35; (with_reducible refine (HC.out _).mono ?_); rintro e w4 ⟨rfl, hb4⟩)
  go_end0
  refine ⟨rfl, ?_⟩
  rw [hN]
  exact hBA.trans ((below_tail hb hb4).mono (by omega))
end Go.Proofs.YtbllhchcccflkaaDoor

namespace Go.Proofs.YtbllhchcccflkaaDoor
open Go.RowKit
theorem RowsOk.un {l : List Rw} {cols : Nat} (h : RowsOk l cols) : RowsOk (l.map unCont) cols := by
  obtain ⟨h0, h1, h2, h3, h4⟩ := h
  refine ⟨by rw [List.length_map]; exact h0, by rw [List.length_map]; exact h1, h2, h3, fun r hr => ?_⟩
  obtain ⟨q, hq, rfl⟩ := List.mem_map.1 hr
  exact h4 q hq
theorem curS_pos (a b : ByteArray) : 0 < (curS a b).size := by
  unfold curS
  simp only [ByteArray.size_append]
  exact Nat.succ_pos _
structure KeepB (w : World) (B : Option Addr) (n cb y x : Nat) (W0 w' : World) : Prop where
  b0 : Below W0.heap.size W0 w'
  c0 : w'.cell? ⟨w.heap.size, 0, none⟩ = some (.slice B n cb)
  c1 : w'.cell? ⟨w.heap.size + 1, 0, none⟩ = some (.int .i64 y)
  c2 : w'.cell? ⟨w.heap.size + 1, 1, none⟩ = some (.int .i64 x)
  b : Below w.heap.size w w'
  sz : w.heap.size + 2 ≤ w'.heap.size
theorem KeepB.on {w : World} {B : Option Addr} {n cb y x : Nat} {W0 w' w2 : World} (h : KeepB w B n cb y x W0 w') (hb : Below w'.heap.size w' w2) : KeepB w B n cb y x W0 w2 :=
  ⟨below_tail h.b0 hb, holda hb h.c0, holda hb h.c1, holda hb h.c2, below_tail h.b hb, Nat.le_trans h.sz hb.size⟩
theorem KeepB.off {w : World} {B : Option Addr} {n cb y x : Nat} {W0 w' : World} (h : KeepB w B n cb y x W0 w') (o : Obj) : KeepB w B n cb y x W0 (w'.alloc o) := h.on (below_allocs (Below.refl _ _) o)
theorem WrAt.below {w w' : World} {b : Nat} {p v : Value} (h : WrAt w b p v) (hb : Below w.heap.size w w') : WrAt w' b p v := (hb.block b (lt_of_heap h)).trans h
set_option maxRecDepth 100000 in
set_option maxHeartbeats 6400000 in
theorem bytes_same (A B : Option Addr) (l : List Rw) (ca cb y x cols : Nat) (w : World) (hl : RwsAt w A l) (hm : RwsAt w B (l.map unCont)) (hok : RowsOk l cols) (hy : y < l.length) (hx : x < cols) (ht : TabP w) :
    Calls Tryd.prog 7 #[.slice A l.length ca, .slice B l.length cb, .agg #[.int .i64 y, .int .i64 x]] w fun e w' => e = .returned (.tuple #[.string (curS (digS (y + 1)) (digS (x + 1))), .int .i64 0]) ∧ Below w.heap.size w w' := by
  have hok2 := hok.un
  have HS1 : Hid (∀ w', Below w.heap.size w w' → Calls Tryd.prog 15 #[.slice A l.length ca] w' fun e w2 => e = .returned (.tuple #[.int .i64 l.length, .int .i64 cols]) ∧ Below w'.heap.size w' w2) := Lib.hid (fun w' hb => dsize_any A l ca cols w' (hl.below hb) hok)
  have HS2 : Hid (∀ w', Below w.heap.size w w' → Calls Tryd.prog 15 #[.slice B l.length cb] w' fun e w2 => e = .returned (.tuple #[.int .i64 l.length, .int .i64 cols]) ∧ Below w'.heap.size w' w2) := Lib.hid (fun w' hb => by
    have := dsize_any B (l.map unCont) cb cols w' (hm.below hb) hok2
    rwa [List.length_map] at this)
  have HR1 : Hid (∀ w', Below w.heap.size w w' → Calls Tryd.prog 16 #[.slice A l.length ca] w' fun e w2 => e = .returned (.bool true) ∧ Below w'.heap.size w' w2) := Lib.hid (fun w' hb => dright_any A l ca cols w' (hl.below hb) hok)
  have HR2 : Hid (∀ w', Below w.heap.size w w' → Calls Tryd.prog 16 #[.slice B l.length cb] w' fun e w2 => e = .returned (.bool true) ∧ Below w'.heap.size w' w2) := Lib.hid (fun w' hb => by
    have := dright_any B (l.map unCont) cb cols w' (hm.below hb) hok2
    rwa [List.length_map] at this)
  have HE : Hid (∀ (f : Value) w', Below w.heap.size w w' → Calls Tryd.prog 17 #[.slice A l.length ca, .slice B l.length cb, f] w' fun e w2 => e = .returned (.tuple #[]) ∧ Below w'.heap.size w' w2) := Lib.hid (fun f w' hb => each_same A B l ca cb f w' (hl.below hb) (hm.below hb) hok.1 hok.2.1 (fun r hr => by rw [(hok.2.2.2.2 r hr).1]; exact hok.2.2.2.1))
  have HT := Lib.hid ht
  obtain ⟨k1, k2, k3, k4, -⟩ := hok
  clear hl hm hok2 ht
  have HMV : Hid (∀ b w', Below w.heap.size w w' → WrAt w' b (.pointer none) (.slice none 0 0) → Calls Tryd.prog 21 #[.pointer (some ⟨b, 0, none⟩), .int .i64 y, .int .i64 x] w' (MovePost b (curS (digS (y + 1)) (digS (x + 1))) w')) := Lib.hid (fun b w' hb h => wmove_any b y x (by omega) (by omega) w' h (HT.out.below hb))
  have hcp := curS_pos (digS (y + 1)) (digS (x + 1))
  generalize curS (digS (y + 1)) (digS (x + 1)) = C at HMV hcp ⊢
  generalize l.length = n at *
  have g1 : ¬ (n : Int) ≤ (y : Int) := by omega
  have g2 : ¬ (cols : Int) ≤ (x : Int) := by omega
  have hn1 := hp_new (W := w) (o := .cells #[.slice B n cb] 22) rfl
  have hn2 := hp_new (W := w.alloc (.cells #[.slice B n cb] 22)) (o := .cells #[.int .i64 y, .int .i64 x] 24) rfl
  have HK0 := Lib.hid (⟨Below.refl _ _, (at_ (hp_old hn1) 0 _ rfl).1, by rw [World.size_alloc] at hn2; exact (at_ hn2 0 _ rfl).1, by rw [World.size_alloc] at hn2; exact (at_ hn2 1 _ rfl).1, below_allocs (below_allocs (Below.refl _ _) _) _, by simp⟩ : KeepB w B n cb y x ((w.alloc (.cells #[.slice B n cb] 22)).alloc (.cells #[.int .i64 y, .int .i64 x] 24)) ((w.alloc (.cells #[.slice B n cb] 22)).alloc (.cells #[.int .i64 y, .int .i64 x] 24)))
  clear hn1 hn2
  go_enter Tryd.func7, Tryd.ntmps7
  go_upto_region 1 with fail
  generalize hW : (w.alloc (.cells #[.slice B n cb] 22)).alloc (.cells #[.int .i64 y, .int .i64 x] 24) = W0 at HK0 ⊢
  clear hW
  go_upto_region 2 with (go_at_call 15; (with_reducible refine (HS1.out _ HK0.out.b).mono ?_); rintro e w1 ⟨rfl, hb1⟩; have HK1 := Lib.hid (KeepB.on HK0.out hb1); clear hb1)
  have q0 := HK1.out.c0
  have q1 := HK1.out.c1
  have q2 := HK1.out.c2
  go_upto_region 3 with (go_at_call 15; (with_reducible refine (HS2.out _ HK1.out.b).mono ?_); rintro e w2 ⟨rfl, hb2⟩; have HK2 := Lib.hid (KeepB.on HK1.out hb2); clear hb2 q0 q1 q2)
  have q0 := HK2.out.c0
  have q1 := HK2.out.c1
  have q2 := HK2.out.c2
  go_upto_region 5 with (first | (go_at_call 16; (with_reducible refine (HR1.out _ HK2.out.b).mono ?_); rintro e w3 ⟨rfl, hb3⟩; have HK3 := Lib.hid (KeepB.on HK2.out hb3); clear hb3; have p0 := HK3.out.c0) | (go_at_call 16; (with_reducible refine (HR2.out _ HK3.out.b).mono ?_); rintro e w4 ⟨rfl, hb4⟩; have HK4 := Lib.hid (KeepB.on HK3.out hb4); clear hb4; have p1 := HK4.out.c0; have p2 := HK4.out.c1; have p3 := HK4.out.c2))
  clear p0 p1 p2 p3
  go_upto_region 6 with fail
  have hw5 : WrAt (w4.alloc (.cells #[.pointer none, .slice none 0 0, .int .i64 0, .int .i64 0, .int .i64 0, .int .i64 0, .int .i64 0] 55)) w4.heap.size (.pointer none) (.slice none 0 0) := hp_new rfl
  have HK5 := Lib.hid (KeepB.off HK4.out (.cells #[.pointer none, .slice none 0 0, .int .i64 0, .int .i64 0, .int .i64 0, .int .i64 0, .int .i64 0] 55))
  have hbw := HK4.out.b.size
  generalize w4.alloc (.cells #[.pointer none, .slice none 0 0, .int .i64 0, .int .i64 0, .int .i64 0, .int .i64 0, .int .i64 0] 55) = w5 at hw5 HK5 ⊢
  generalize w4.heap.size = b at hw5 hbw ⊢
  have p0 := HK5.out.c0
  go_upto_region 7 with (go_at_call 17; (with_reducible refine (HE.out _ _ HK5.out.b).mono ?_); rintro e w6 ⟨rfl, hb6⟩; have HK6 := Lib.hid (KeepB.on HK5.out hb6); have hw6 := WrAt.below hw5 hb6; clear hb6)
  have HTU := Lib.hid (wturn_zero b _ _ w6 hw6)
  go_upto_region 8 with (go_at_call 20; (with_reducible refine HTU.out.mono ?_); rintro e w7 ⟨rfl, hb7⟩; have HK7 := Lib.hid (KeepB.on HK6.out hb7); have hw7 := WrAt.below hw6 hb7; clear hb7)
  have r1 := HK7.out.c1
  have r2 := HK7.out.c2
  have HM1 := Lib.hid (HMV.out b _ HK7.out.b hw7)
  have hlt7 := lt_of_heap hw7
  go_upto_region 9 with (go_at_call 21; (with_reducible refine HM1.out.mono ?_); rintro e w8 ⟨g8, c8, rfl, hw8, ho8, hm8⟩)
  have HB8 := Lib.hid (HK7.out.b.trans (hm8.below (B := w.heap.size) (fun g hg => by rw [List.mem_singleton.1 hg]; exact hbw) HK7.out.b.size))
  have HSZ := Lib.hid HK7.out.b.size
  have HST : Hid (Calls Tryd.prog 22 #[.pointer (some ⟨b, 0, none⟩)] w8 fun e w' => e = .returned (.string C) ∧ Below w7.heap.size w8 w') := Lib.hid (by
    refine bstring_any b g8 c8 w7.heap.size _ C.data.toList w8 hw8 ho8 ?_
    intro h0
    have : C.data.size = 0 := by rw [← Array.length_toList, h0]; rfl
    exact absurd this (Nat.pos_iff_ne_zero.1 hcp))
  clear hw8 ho8 hm8 hlt7 hw7 hw6 r1 r2 p0
  go_wp2_with (go_at_call 22; (with_reducible refine HST.out.mono ?_); rintro e w9 ⟨rfl, hb9⟩; have HB9 := Lib.hid (HB8.out.trans (hb9.mono HSZ.out)); clear hb9)
  go_ret2
  exact ⟨rfl, HB9.out⟩
end Go.Proofs.YtbllhchcccflkaaDoor

namespace Go.Proofs.YtbllhchcccflkaaDoor
open Go.RowKit
def GreatPost (l : List Rw) (w : World) (e : Ending) (w' : World) : Prop := ∃ b : Bool, e = .returned (.bool b) ∧ (b = false → l.length ≤ 400) ∧ Below w.heap.size w w'
def GreatSt (L k : Nat) (s : Int) : Prop := (k = 0 ∧ s = (L : Int)) ∨ L ≤ 400
set_option maxRecDepth 100000 in
set_option maxHeartbeats 1600000 in
theorem Great_any (A : Option Addr) (l : List Rw) (ca : Nat) (w : World) (hl : RwsAt w A l) (hz : l.length ≤ 9223372036854775807) :
    Calls Tryd.prog 4 #[.slice A l.length ca] w (GreatPost l w) := by
  have HL := Lib.hid hl
  clear hl
  go_enter Tryd.func4, Tryd.ntmps4
  go_wp2_with fail
  go_loopw [3, 4] (fun n i wr => ∃ (k : Nat) (s : Int), k ≤ l.length ∧ i = .int .i64 k ∧ n = .int .i64 s ∧ GreatSt l.length k s ∧ Below w.heap.size w wr) (fun _ i _ => l.length - (intOf i).toNat)
  case atStart => exact ⟨0, _, Nat.zero_le _, rfl, rfl, .inl ⟨rfl, rfl⟩, Below.refl _ _⟩
  case round =>
    obtain ⟨k, s, hk, rfl, rfl, hs, hB⟩ := hrel
    by_cases hlt : k < l.length
    rotate_left
    · go_wp2
      go_ret
      exact ⟨_, rfl, fun h => by have h := of_decide_eq_false h; unfold GreatSt at hs; omega, hB⟩
    · by_cases hg : s ≤ 400
      · obtain ⟨b, off, r, rfl, hr, cr, cc, cz⟩ := HL.out.at_ hlt
        have c0 := holda hB cr.1
        clear hr cr cc
        have hs' : l.length ≤ 400 := by unfold GreatSt at hs; omega
        go_wp2
        go_roundw
        case rel => exact ⟨k + 1, _, by omega, by go_num, rfl, .inr hs', hB⟩
        case measure => simp [intOf]; omega
      · go_wp2
        go_ret
        exact ⟨_, rfl, fun h => absurd h (by simp), hB⟩
end Go.Proofs.YtbllhchcccflkaaDoor
