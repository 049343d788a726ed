/- Joined by a tool of this claim out of smaller texts. Conditions: as stated. -/
import Derived.Test.YtbllhchcccflkaaDoorDx03
import Derived.Laws.BytesArg
import Derived.Laws.BitsAllLaws
import Derived.RangeFuncKeeps
import Derived.RangeFuncNested
import Derived.RangeFuncBound
import Derived.RangeFuncCalls
import Derived.RangeFuncLeaves
import Derived.RangeFuncBox
import Derived.OwnWalkIn
import Derived.TacticsInMore
import Derived.LoopNIn
import Derived.LoopIn
set_option linter.unusedVariables false
set_option linter.unusedSimpArgs false
namespace Go.Proofs.YtbllhchcccflkaaDoor
open Go.RowKit
set_option maxRecDepth 100000 in
theorem scalar_any (r : Int) (w : World) : Calls Tryd.prog 47 #[.int .i32 r] w fun e w' => e = .returned (.bool (isScal r)) ∧ w = w' := by
  unfold isScal
  by_cases h1 : 0 ≤ r <;> by_cases h2 : r ≤ 1114111 <;> by_cases h3 : r < 55296 <;>
  · go_enter Tryd.func47, Tryd.ntmps47
    go_wp2
    go_ret
    refine ⟨?_, rfl⟩
    simp [h1, h2, h3]
    try omega
def tailV (r : Int) : Nat → Int
  | 0 => 128 + r % 64
  | 1 => 128 + r / 64 % 64
  | _ => 128 + r / 4096 % 64
set_option maxRecDepth 100000 in
theorem tail1_any (r : Int) (k g : Nat) (hk : k ≤ 2) (h0 : 0 ≤ r) (h1 : r ≤ 1114111) (w : World) (hg : w.cell? ⟨g, 0, none⟩ = some (.int .i32 r)) : Calls Tryd.prog 46 #[.int .i64 k, .pointer (some ⟨g, 0, none⟩)] w fun e w' => e = .returned (.int .u8 (tailV r k)) ∧ w = w' := by
  rcases k with _ | _ | _ | k
  · go_enter Tryd.func46, Tryd.ntmps46
    go_wp2
    go_ret
    exact ⟨rfl, rfl⟩
  · go_enter Tryd.func46, Tryd.ntmps46
    go_wp2
    go_ret
    exact ⟨rfl, rfl⟩
  · go_enter Tryd.func46, Tryd.ntmps46
    go_wp2
    go_ret
    exact ⟨rfl, rfl⟩
  · omega
theorem or_lead (h i : Nat) (x : Int) (hh : h < 256) (hx0 : 0 ≤ x) (hx1 : x < 256) (hd : h % 2 ^ i = 0) (hx : x.toNat < 2 ^ i) : bits .or .u8 (h : Int) x = h + x := by
  rw [u8_or _ _ (by omega) (by omega) hx0 hx1, Int.toNat_natCast, nat_join i _ _ hd hx]
  omega
theorem conv_at (xs : List Int) (n c g : Nat) (w : World) (t : TypeId) (h : w.heap[g]? = some (.cells (xs.map (Value.int .u8)).toArray t (0, 0))) (hn : xs.length = n) :
    (convert 51 9 (.slice (some ⟨g, 0, none⟩) n c)).run Tryd.prog w = .ok (.string (strOfNums xs)) w := by
  refine run_convert_bytes_arg w 51 5 Tryd.underlying51 Tryd.underlying5 g 0 n c xs hn (fun i hi => ?_) 9 Tryd.underlying9
  rw [Nat.zero_add]
  refine (at_ h i _ ?_).1
  rw [List.getElem?_toArray, List.getElem?_map, List.getElem?_eq_getElem (by omega)]
  simp [List.getD, List.getElem?_eq_getElem (show i < xs.length by omega)]
set_option maxRecDepth 100000 in
set_option maxHeartbeats 1600000 in
theorem uput_any (r : Int) (w : World) : Calls Tryd.prog 34 #[.int .i32 r] w fun e w' => e = .returned (.string (putB r)) ∧ Below w.heap.size w w' := by
  have HS := Lib.hid (fun w => scalar_any r w)
  cases hs : isScal r with
  | false =>
    have HV := Lib.hid (show putB r = ByteArray.empty from by unfold putB; rw [hs]; rfl)
    rw [hs] at HS
    clear hs
    go_enter Tryd.func34, Tryd.ntmps34
    go_wp2_with (go_at_call 47; refine (HS.out _).mono ?_; rintro e w1 ⟨rfl, rfl⟩)
    go_ret
    rw [HV.out]
    exact ⟨rfl, below_allocs (Below.refl _ _) _⟩
  | true =>
    rw [hs] at HS
    have hr : 0 ≤ r ∧ r ≤ 1114111 := by unfold isScal at hs; simp at hs; omega
    obtain ⟨hr0, hr1⟩ := hr
    by_cases hA : r < 128
    · have HV := Lib.hid (show putB r = ⟨#[r.toNat.toUInt8]⟩ from by unfold putB; rw [hs, if_pos rfl, if_pos hA])
      clear hs
      have hcv := conv_at [r] 1 1 (w.heap.size + 1) ((w.alloc (.cells #[.int .i32 r] 21)).alloc (.cells #[.int .u8 r] 5)) 5 (hp_new (by simp)) rfl
      go_enter Tryd.func34, Tryd.ntmps34
      go_wp2_with (go_at_call 47; refine (HS.out _).mono ?_; rintro e w1 ⟨rfl, rfl⟩)
      go_ret
      rw [HV.out]
      exact ⟨rfl, below_allocs (below_allocs (Below.refl _ _) _) _⟩
    have x0 : (w.alloc (.cells #[.int .i32 r] 21)).cell? ⟨w.heap.size, 0, none⟩ = some (.int .i32 r) := (at_ (hp_new rfl) 0 _ rfl).1
    have HX0 := Lib.hid x0
    have HB0 := Lib.hid (below_allocs (Below.refl w.heap.size w) (.cells #[.int .i32 r] 21))
    clear x0
    have HT : Hid (∀ (k : Nat), k ≤ 2 → ∀ (w2 : World), w2.cell? ⟨w.heap.size, 0, none⟩ = some (.int .i32 r) → Calls Tryd.prog 46 #[.int .i64 k, .pointer (some ⟨w.heap.size, 0, none⟩)] w2 fun e w' => e = .returned (.int .u8 (tailV r k)) ∧ w2 = w') := Lib.hid (fun k hk w2 h => tail1_any r k w.heap.size hk hr0 hr1 w2 h)
    by_cases hB : r < 2048
    · have HV := Lib.hid (show putB r = ⟨#[(192 + r / 64).toNat.toUInt8, (128 + r % 64).toNat.toUInt8]⟩ from by unfold putB; rw [hs, if_pos rfl, if_neg (show ¬ r < 0x80 from hA), if_pos hB])
      clear hs
      have hw8 : IntKind.u8.wrap (r / 64) = r / 64 := by rw [IntKind.wrap_u8']; omega
      have hor : bits .or .u8 192 (r / 64) = 192 + r / 64 := or_lead 192 5 (r / 64) (by omega) (by omega) (by omega) (by decide) (by omega)
      go_enter Tryd.func34, Tryd.ntmps34
      go_upto_region 7 with (go_at_call 47; refine (HS.out _).mono ?_; rintro e w1 ⟨rfl, rfl⟩)
      generalize World.alloc _ _ = W at HX0 HB0 ⊢
      have x0 := HX0.out
      refine wp_region_u 6 (fun w' => Below W.heap.size W w' ∧ w'.cell? ⟨w.heap.size, 0, none⟩ = some (.int .i32 r)) (by kernel_rfl) (by kernel_rfl) ?_ ?_
      · exact ⟨(Below.refl _ _).drew, x0⟩
      simp only [List.take_succ_cons, List.take_zero, List.drop_succ_cons, List.drop_zero]
      repeat (
        (first
         | refine seqU_skip (by rfl) ?_
         | (refine seqU_call 46 #[.int .i64 0, .pointer (some ⟨w.heap.size, 0, none⟩)] (.int .u8 (128 + r % 64)) (by rfl) ?_ (fun w' hS => (HT.out 0 (by omega) w' hS.2).mono (fun e w'' h => ⟨h.1, h.2 ▸ hS⟩)) ?_; (focus (intro w2; go_simp; done)))
         | (refine seqU_val ?_ (by rfl) ?_ ?_; rotate_left; (focus (intro w' hS; obtain ⟨_, _⟩ := hS; go_simp; first | done | with_reducible rfl))))
        simp only [Act.put, List.setIfInBounds_toArray, List.set_cons_zero, List.set_cons_succ])
      refine seqU_nil (fun w' hS => ?_)
      have HB1 := Lib.hid (below_tail HB0.out hS.1)
      have hcv := conv_at [192 + r / 64, 128 + r % 64] 2 2 w'.heap.size (w'.alloc (.cells #[.int .u8 (192 + r / 64), .int .u8 (128 + r % 64)] 5)) 5 (hp_new rfl) rfl
      clear hS x0 hw8 hor
      go_wp2
      go_ret
      rw [HV.out]
      exact ⟨rfl, below_allocs HB1.out _⟩
    by_cases hC : r < 65536
    · have HV := Lib.hid (show putB r = ⟨#[(224 + r / 4096).toNat.toUInt8, (128 + r / 64 % 64).toNat.toUInt8, (128 + r % 64).toNat.toUInt8]⟩ from by unfold putB; rw [hs, if_pos rfl, if_neg (show ¬ r < 0x80 from hA), if_neg (show ¬ r < 0x800 from hB), if_pos hC])
      clear hs
      have hw8 : IntKind.u8.wrap (r / 4096) = r / 4096 := by rw [IntKind.wrap_u8']; omega
      have hor : bits .or .u8 224 (r / 4096) = 224 + r / 4096 := or_lead 224 4 (r / 4096) (by omega) (by omega) (by omega) (by decide) (by omega)
      go_enter Tryd.func34, Tryd.ntmps34
      go_upto_region 9 with (go_at_call 47; refine (HS.out _).mono ?_; rintro e w1 ⟨rfl, rfl⟩)
      generalize World.alloc _ _ = W at HX0 HB0 ⊢
      have x0 := HX0.out
      refine wp_region_u 8 (fun w' => Below W.heap.size W w' ∧ w'.cell? ⟨w.heap.size, 0, none⟩ = some (.int .i32 r)) (by kernel_rfl) (by kernel_rfl) ?_ ?_
      · exact ⟨(Below.refl _ _).drew, x0⟩
      simp only [List.take_succ_cons, List.take_zero, List.drop_succ_cons, List.drop_zero]
      repeat (
        (first
         | refine seqU_skip (by rfl) ?_
         | (refine seqU_call 46 #[.int .i64 1, .pointer (some ⟨w.heap.size, 0, none⟩)] (.int .u8 (128 + r / 64 % 64)) (by rfl) ?_ (fun w' hS => (HT.out 1 (by omega) w' hS.2).mono (fun e w'' h => ⟨h.1, h.2 ▸ hS⟩)) ?_; (focus (intro w2; go_simp; done)))
         | (refine seqU_call 46 #[.int .i64 0, .pointer (some ⟨w.heap.size, 0, none⟩)] (.int .u8 (128 + r % 64)) (by rfl) ?_ (fun w' hS => (HT.out 0 (by omega) w' hS.2).mono (fun e w'' h => ⟨h.1, h.2 ▸ hS⟩)) ?_; (focus (intro w2; go_simp; done)))
         | (refine seqU_val ?_ (by rfl) ?_ ?_; rotate_left; (focus (intro w' hS; obtain ⟨_, _⟩ := hS; go_simp; first | done | with_reducible rfl))))
        simp only [Act.put, List.setIfInBounds_toArray, List.set_cons_zero, List.set_cons_succ])
      refine seqU_nil (fun w' hS => ?_)
      have HB1 := Lib.hid (below_tail HB0.out hS.1)
      have hcv := conv_at [224 + r / 4096, 128 + r / 64 % 64, 128 + r % 64] 3 3 w'.heap.size (w'.alloc (.cells #[.int .u8 (224 + r / 4096), .int .u8 (128 + r / 64 % 64), .int .u8 (128 + r % 64)] 5)) 5 (hp_new rfl) rfl
      clear hS x0 hw8 hor
      go_wp2
      go_ret
      rw [HV.out]
      exact ⟨rfl, below_allocs HB1.out _⟩
    · have HV := Lib.hid (show putB r = ⟨#[(240 + r / 262144).toNat.toUInt8, (128 + r / 4096 % 64).toNat.toUInt8, (128 + r / 64 % 64).toNat.toUInt8, (128 + r % 64).toNat.toUInt8]⟩ from by unfold putB; rw [hs, if_pos rfl, if_neg (show ¬ r < 0x80 from hA), if_neg (show ¬ r < 0x800 from hB), if_neg (show ¬ r < 0x10000 from hC)])
      clear hs
      have hw8 : IntKind.u8.wrap (r / 262144) = r / 262144 := by rw [IntKind.wrap_u8']; omega
      have hor : bits .or .u8 240 (r / 262144) = 240 + r / 262144 := or_lead 240 3 (r / 262144) (by omega) (by omega) (by omega) (by decide) (by omega)
      go_enter Tryd.func34, Tryd.ntmps34
      go_upto_region 10 with (go_at_call 47; refine (HS.out _).mono ?_; rintro e w1 ⟨rfl, rfl⟩)
      generalize World.alloc _ _ = W at HX0 HB0 ⊢
      have x0 := HX0.out
      refine wp_region_u 10 (fun w' => Below W.heap.size W w' ∧ w'.cell? ⟨w.heap.size, 0, none⟩ = some (.int .i32 r)) (by kernel_rfl) (by kernel_rfl) ?_ ?_
      · exact ⟨(Below.refl _ _).drew, x0⟩
      simp only [List.take_succ_cons, List.take_zero, List.drop_succ_cons, List.drop_zero]
      repeat (
        (first
         | refine seqU_skip (by rfl) ?_
         | (refine seqU_call 46 #[.int .i64 2, .pointer (some ⟨w.heap.size, 0, none⟩)] (.int .u8 (128 + r / 4096 % 64)) (by rfl) ?_ (fun w' hS => (HT.out 2 (by omega) w' hS.2).mono (fun e w'' h => ⟨h.1, h.2 ▸ hS⟩)) ?_; (focus (intro w2; go_simp; done)))
         | (refine seqU_call 46 #[.int .i64 1, .pointer (some ⟨w.heap.size, 0, none⟩)] (.int .u8 (128 + r / 64 % 64)) (by rfl) ?_ (fun w' hS => (HT.out 1 (by omega) w' hS.2).mono (fun e w'' h => ⟨h.1, h.2 ▸ hS⟩)) ?_; (focus (intro w2; go_simp; done)))
         | (refine seqU_call 46 #[.int .i64 0, .pointer (some ⟨w.heap.size, 0, none⟩)] (.int .u8 (128 + r % 64)) (by rfl) ?_ (fun w' hS => (HT.out 0 (by omega) w' hS.2).mono (fun e w'' h => ⟨h.1, h.2 ▸ hS⟩)) ?_; (focus (intro w2; go_simp; done)))
         | (refine seqU_val ?_ (by rfl) ?_ ?_; rotate_left; (focus (intro w' hS; obtain ⟨_, _⟩ := hS; go_simp; first | done | with_reducible rfl))))
        simp only [Act.put, List.setIfInBounds_toArray, List.set_cons_zero, List.set_cons_succ])
      refine seqU_nil (fun w' hS => ?_)
      have HB1 := Lib.hid (below_tail HB0.out hS.1)
      have hcv := conv_at [240 + r / 262144, 128 + r / 4096 % 64, 128 + r / 64 % 64, 128 + r % 64] 4 4 w'.heap.size (w'.alloc (.cells #[.int .u8 (240 + r / 262144), .int .u8 (128 + r / 4096 % 64), .int .u8 (128 + r / 64 % 64), .int .u8 (128 + r % 64)] 5)) 5 (hp_new rfl) rfl
      clear hS x0 hw8 hor
      go_wp2
      go_ret
      rw [HV.out]
      exact ⟨rfl, below_allocs HB1.out _⟩
end Go.Proofs.YtbllhchcccflkaaDoor
namespace Go.Proofs.YtbllhchcccflkaaDoor
open Go.RowKit
end Go.Proofs.YtbllhchcccflkaaDoor
namespace Go.Proofs.YtbllhchcccflkaaDoor
open Go.RowKit
theorem putB_size (r : Int) : (putB r).size ≤ 32 := by
  unfold putB
  split
  · split
    · exact (by decide : 1 ≤ 32)
    split
    · exact (by decide : 2 ≤ 32)
    split
    · exact (by decide : 3 ≤ 32)
    · exact (by decide : 4 ≤ 32)
  · exact Nat.zero_le _
end Go.Proofs.YtbllhchcccflkaaDoor
namespace Go.Proofs.YtbllhchcccflkaaDoor
open Go.RowKit
end Go.Proofs.YtbllhchcccflkaaDoor

namespace Go.Proofs.YtbllhchcccflkaaDoor
open Go.RowKit
def sizeC (c : Int) : Int := if c < 128 then 1 else if c < 224 then 2 else if c < 240 then 3 else 4
def loC (c : Int) : Int := if c = 224 then 160 else if c = 240 then 144 else 128
def hiC (c : Int) : Int := if c = 237 then 159 else if c = 244 then 143 else 191
theorem usize_any (c : Int) (h : 0 ≤ c ∧ c < 128 ∨ 194 ≤ c ∧ c ≤ 244) (w : World) : Calls Tryd.prog 95 #[.int .u8 c] w fun e w' => e = .returned (.int .i64 (sizeC c)) ∧ w = w' := by
  unfold sizeC
  by_cases h1 : c < 128
  · rw [if_pos h1]
    go_enter Tryd.func95, Tryd.ntmps95
    go_wp2
    go_ret
    exact ⟨rfl, rfl⟩
  rw [if_neg h1]
  have h1' : 128 ≤ c := by omega
  have h2' : ¬ c < 194 := by omega
  have h3' : ¬ 244 < c := by omega
  by_cases h2 : c < 224
  · rw [if_pos h2]
    go_enter Tryd.func95, Tryd.ntmps95
    go_wp2
    go_ret
    exact ⟨rfl, rfl⟩
  rw [if_neg h2]
  have h2b : 224 ≤ c := by omega
  by_cases h3 : c < 240
  · rw [if_pos h3]
    go_enter Tryd.func95, Tryd.ntmps95
    go_wp2
    go_ret
    exact ⟨rfl, rfl⟩
  rw [if_neg h3]
  have h3b : 240 ≤ c := by omega
  go_enter Tryd.func95, Tryd.ntmps95
  go_wp2
  go_ret
  exact ⟨rfl, rfl⟩
theorem ubounds_any (c : Int) (w : World) : Calls Tryd.prog 96 #[.int .u8 c] w fun e w' => e = .returned (.tuple #[.int .u8 (loC c), .int .u8 (hiC c)]) ∧ w = w' := by
  unfold loC hiC
  by_cases h1 : c = 224
  · subst h1
    go_enter Tryd.func96, Tryd.ntmps96
    go_wp2
    go_ret2
    exact ⟨rfl, rfl⟩
  by_cases h2 : c = 237
  · subst h2
    go_enter Tryd.func96, Tryd.ntmps96
    go_wp2
    go_ret2
    exact ⟨rfl, rfl⟩
  by_cases h3 : c = 240
  · subst h3
    go_enter Tryd.func96, Tryd.ntmps96
    go_wp2
    go_ret2
    exact ⟨rfl, rfl⟩
  by_cases h4 : c = 244
  · subst h4
    go_enter Tryd.func96, Tryd.ntmps96
    go_wp2
    go_ret2
    exact ⟨rfl, rfl⟩
  rw [if_neg h1, if_neg h3, if_neg h2, if_neg h4]
  go_enter Tryd.func96, Tryd.ntmps96
  go_wp2
  go_ret2
  exact ⟨rfl, rfl⟩
theorem gb_refl (w : World) (r : Option Nat) : w.grownBy w r := ⟨rfl, rfl, rfl, Nat.le_refl _, fun _ _ _ => rfl⟩
theorem gb_set {w w' : World} {b i : Nat} (h : w.grownBy w' (some b)) (v : Value) : w.grownBy (w'.setCell ⟨b, i, none⟩ v) (some b) :=
  ⟨h.os, h.tape, h.output, by rw [show (w'.setCell ⟨b, i, none⟩ v).heap.size = w'.heap.size from by simp [World.setCell]]; exact h.size, fun k hk hne => (Below.heap_setCell w' _ v k (by intro e; exact hne (by simp [e]))).trans (h.block k hk hne)⟩
theorem gb_alloc {w w' : World} {r : Option Nat} (h : w.grownBy w' r) (o : Obj) : w.grownBy (w'.alloc o) r :=
  ⟨h.os, h.tape, h.output, by simp; have := h.size; omega, fun k hk hne => (Below.heap_alloc w' o k (by have := h.size; omega)).trans (h.block k hk hne)⟩
/-- A decoder in a block. -/
def DecAt (w : World) (b : Nat) (d : Dk) : Prop :=
  ((w.cell? ⟨b, 0, none⟩ = some (.int .i32 d.n) ∧ w.frozen? ⟨b, 0, none⟩ = false) ∧ (w.cell? ⟨b, 1, none⟩ = some (.int .i64 d.need) ∧ w.frozen? ⟨b, 1, none⟩ = false) ∧ (w.cell? ⟨b, 2, none⟩ = some (.int .i64 d.hv) ∧ w.frozen? ⟨b, 2, none⟩ = false) ∧ (w.cell? ⟨b, 3, none⟩ = some (.int .u8 d.lo) ∧ w.frozen? ⟨b, 3, none⟩ = false) ∧ (w.cell? ⟨b, 4, none⟩ = some (.int .u8 d.hi) ∧ w.frozen? ⟨b, 4, none⟩ = false))
/-- A read scalar, or none. -/
def OneAt (w' : World) (lo : Nat) (v : Value) : Option Int → Prop
  | none => v = .slice none 0 0
  | some r => ∃ g, v = .slice (some ⟨g, 0, none⟩) 1 1 ∧ lo ≤ g ∧ w'.heap[g]? = some (.cells #[.int .i32 r] 21 (0, 0))
def StepPost (b : Nat) (x : Option Int × Dk) (w : World) (e : Ending) (w' : World) : Prop := ∃ v, e = .returned v ∧ OneAt w' w.heap.size v x.1 ∧ DecAt w' b x.2 ∧ w.grownBy w' (some b)
theorem DecAt.lt {w : World} {b : Nat} {d : Dk} (h : DecAt w b d) : b < w.heap.size := lt_of_cell h.1.1
theorem DecAt.grown {w w' : World} {b : Nat} {d : Dk} (h : DecAt w b d) (hb : Below w.heap.size w w') : DecAt w' b d := by
  obtain ⟨h0, h1, h2, h3, h4⟩ := h
  exact ⟨hold hb h0, hold hb h1, hold hb h2, hold hb h3, hold hb h4⟩
theorem DecAt.set0 {w : World} {b : Nat} {d : Dk} (h : DecAt w b d) (x : Int) : DecAt (w.setCell ⟨b, 0, none⟩ (.int .i32 x)) b { d with n := x } := by
  obtain ⟨h0, h1, h2, h3, h4⟩ := h
  exact ⟨set_self h0, hold_set h1 (.inr (by decide)), hold_set h2 (.inr (by decide)), hold_set h3 (.inr (by decide)), hold_set h4 (.inr (by decide))⟩
theorem DecAt.set1 {w : World} {b : Nat} {d : Dk} (h : DecAt w b d) (x : Int) : DecAt (w.setCell ⟨b, 1, none⟩ (.int .i64 x)) b { d with need := x } := by
  obtain ⟨h0, h1, h2, h3, h4⟩ := h
  exact ⟨hold_set h0 (.inr (by decide)), set_self h1, hold_set h2 (.inr (by decide)), hold_set h3 (.inr (by decide)), hold_set h4 (.inr (by decide))⟩
theorem DecAt.set2 {w : World} {b : Nat} {d : Dk} (h : DecAt w b d) (x : Int) : DecAt (w.setCell ⟨b, 2, none⟩ (.int .i64 x)) b { d with hv := x } := by
  obtain ⟨h0, h1, h2, h3, h4⟩ := h
  exact ⟨hold_set h0 (.inr (by decide)), hold_set h1 (.inr (by decide)), set_self h2, hold_set h3 (.inr (by decide)), hold_set h4 (.inr (by decide))⟩
theorem DecAt.set3 {w : World} {b : Nat} {d : Dk} (h : DecAt w b d) (x : Int) : DecAt (w.setCell ⟨b, 3, none⟩ (.int .u8 x)) b { d with lo := x } := by
  obtain ⟨h0, h1, h2, h3, h4⟩ := h
  exact ⟨hold_set h0 (.inr (by decide)), hold_set h1 (.inr (by decide)), hold_set h2 (.inr (by decide)), set_self h3, hold_set h4 (.inr (by decide))⟩
theorem DecAt.set4 {w : World} {b : Nat} {d : Dk} (h : DecAt w b d) (x : Int) : DecAt (w.setCell ⟨b, 4, none⟩ (.int .u8 x)) b { d with hi := x } := by
  obtain ⟨h0, h1, h2, h3, h4⟩ := h
  exact ⟨hold_set h0 (.inr (by decide)), hold_set h1 (.inr (by decide)), hold_set h2 (.inr (by decide)), hold_set h3 (.inr (by decide)), set_self h4⟩
theorem and_masks : ∀ f : Fin 256, bits .and .i32 (f.val : Int) 31 = (f.val : Int) % 32 ∧ bits .and .i32 (f.val : Int) 15 = (f.val : Int) % 16 ∧ bits .and .i32 (f.val : Int) 7 = (f.val : Int) % 8 := by decide +kernel
theorem and_mask (c : Int) (h0 : 0 ≤ c) (h1 : c < 256) : bits .and .i32 c 31 = c % 32 ∧ bits .and .i32 c 15 = c % 16 ∧ bits .and .i32 c 7 = c % 8 := by
  have := and_masks ⟨c.toNat, by omega⟩
  rwa [show (((⟨c.toNat, by omega⟩ : Fin 256).val : Nat) : Int) = c from by show ((c.toNat : Nat) : Int) = c; omega] at this
set_option maxRecDepth 100000 in
set_option maxHeartbeats 1600000 in
theorem ubegin_any (b : Nat) (d : Dk) (c : Int) (w : World) (hd : DecAt w b d) (h : 0 ≤ c ∧ c < 128 ∨ 194 ≤ c ∧ c ≤ 244) :
    Calls Tryd.prog 93 #[.pointer (some ⟨b, 0, none⟩), .int .u8 c] w (StepPost b (if c < 128 then (some c, d) else (none, leadD c)) w) := by
  have HS := Lib.hid (fun w => usize_any c h w)
  have HB := Lib.hid (fun w => ubounds_any c w)
  have HD := Lib.hid hd
  obtain ⟨h0, h1, h2, h3, h4⟩ := hd
  have c0 := h0.1
  have c1 := h1.1
  have c2 := h2.1
  have c3 := h3.1
  have c4 := h4.1
  have f0 := h0.2
  have f1 := h1.2
  have f2 := h2.2
  have f3 := h3.2
  have f4 := h4.2
  have hw : IntKind.i32.wrap c = c := IntWalk.i32_in _ (by omega)
  by_cases hA : c < 128
  · rw [if_pos hA]
    rw [show sizeC c = 1 from if_pos hA] at HS
    clear hw h0 h1 h2 h3 h4
    go_enter Tryd.func93, Tryd.ntmps93
    go_wp2_with (go_at_call 95; (with_reducible refine (HS.out _).mono ?_); rintro e w1 ⟨rfl, rfl⟩)
    go_ret
    exact ⟨_, rfl, ⟨w.heap.size, rfl, Nat.le_refl _, hp_new rfl⟩, HD.out.grown ((Below.refl _ w).alloc (Nat.le_refl _) _), gb_alloc (gb_refl _ _) _⟩
  · rw [if_neg hA]
    have hc0 : ¬ c < 0 := by omega
    have hcc : 194 ≤ c ∧ c ≤ 244 := by omega
    have hM := and_mask c (by omega) (by omega)
    by_cases hB : c < 224
    · rw [show sizeC c = 2 from by unfold sizeC; rw [if_neg hA, if_pos hB]] at HS
      have HL := Lib.hid (show leadD c = ⟨bits .and .i32 c 31, 1, 1, loC c, hiC c⟩ from by unfold leadD loC hiC; rw [if_pos hB, hM.1]; rw [if_neg (by omega), if_neg (by omega), if_neg (by omega), if_neg (by omega)])
      generalize leadD c = L at HL ⊢
      generalize loC c = lc at HL HB
      generalize hiC c = hc at HL HB
      clear hM
      go_enter Tryd.func93, Tryd.ntmps93
      go_wp2_with (first | (go_at_call 95; (with_reducible refine (HS.out _).mono ?_); rintro e w1 ⟨rfl, rfl⟩) | (go_at_call 96; (with_reducible refine (HB.out _).mono ?_); rintro e w1 ⟨rfl, rfl⟩))
      go_ret
      rw [HL.out]
      exact ⟨_, rfl, rfl, ((((HD.out.set0 _).set1 _).set2 _).set3 _).set4 _, gb_set (gb_set (gb_set (gb_set (gb_set (gb_refl _ _) _) _) _) _) _⟩
    by_cases hC : c < 240
    · rw [show sizeC c = 3 from by unfold sizeC; rw [if_neg hA, if_neg hB, if_pos hC]] at HS
      have HL := Lib.hid (show leadD c = ⟨bits .and .i32 c 15, 2, 1, loC c, hiC c⟩ from by unfold leadD loC hiC; rw [if_neg hB, if_pos hC, hM.2.1]; rw [if_neg (show ¬ c = 240 by omega), if_neg (show ¬ c = 244 by omega)])
      generalize leadD c = L at HL ⊢
      generalize loC c = lc at HL HB
      generalize hiC c = hc at HL HB
      clear hM
      go_enter Tryd.func93, Tryd.ntmps93
      go_wp2_with (first | (go_at_call 95; (with_reducible refine (HS.out _).mono ?_); rintro e w1 ⟨rfl, rfl⟩) | (go_at_call 96; (with_reducible refine (HB.out _).mono ?_); rintro e w1 ⟨rfl, rfl⟩))
      go_ret
      rw [HL.out]
      exact ⟨_, rfl, rfl, ((((HD.out.set0 _).set1 _).set2 _).set3 _).set4 _, gb_set (gb_set (gb_set (gb_set (gb_set (gb_refl _ _) _) _) _) _) _⟩
    rw [show sizeC c = 4 from by unfold sizeC; rw [if_neg hA, if_neg hB, if_neg hC]] at HS
    have HL := Lib.hid (show leadD c = ⟨bits .and .i32 c 7, 3, 1, loC c, hiC c⟩ from by unfold leadD loC hiC; rw [if_neg hB, if_neg hC, hM.2.2]; rw [if_neg (show ¬ c = 224 by omega), if_neg (show ¬ c = 237 by omega)])
    generalize leadD c = L at HL ⊢
    generalize loC c = lc at HL HB
    generalize hiC c = hc at HL HB
    clear hM
    go_enter Tryd.func93, Tryd.ntmps93
    go_wp2_with (first | (go_at_call 95; (with_reducible refine (HS.out _).mono ?_); rintro e w1 ⟨rfl, rfl⟩) | (go_at_call 96; (with_reducible refine (HB.out _).mono ?_); rintro e w1 ⟨rfl, rfl⟩))
    go_ret
    rw [HL.out]
    exact ⟨_, rfl, rfl, ((((HD.out.set0 _).set1 _).set2 _).set3 _).set4 _, gb_set (gb_set (gb_set (gb_set (gb_set (gb_refl _ _) _) _) _) _) _⟩
end Go.Proofs.YtbllhchcccflkaaDoor

namespace Go.Proofs.YtbllhchcccflkaaDoor
open Go.RowKit
set_option maxRecDepth 100000 in
set_option maxHeartbeats 1600000 in
theorem ustep_any (b : Nat) (d : Dk) (c : Int) (w : World) (hd : DecAt w b d) (h : okD d c) :
    Calls Tryd.prog 88 #[.pointer (some ⟨b, 0, none⟩), .int .u8 c] w (StepPost b (stepD8 d c) w) := by
  have HD := Lib.hid hd
  obtain ⟨h0, h1, h2, h3, h4⟩ := hd
  have c0 := h0.1
  have c1 := h1.1
  have c2 := h2.1
  have c3 := h3.1
  have c4 := h4.1
  have f0 := h0.2
  have f1 := h1.2
  have f2 := h2.2
  have f3 := h3.2
  have f4 := h4.2
  clear h0 h1 h2 h3 h4
  obtain ⟨n, need, hv, lo, hi⟩ := d
  simp only at c0 c1 c2 c3 c4
  rcases h with ⟨e0, e1, hc⟩ | ⟨e0, e1, e2, e3, e4, e5, e6, e7, e8, e9⟩
  · simp only at e0 e1
    subst e0 e1
    have HB := Lib.hid (ubegin_any b ⟨n, 0, 0, lo, hi⟩ c w HD.out hc)
    have HX : stepD8 ⟨n, 0, 0, lo, hi⟩ c = if c < 128 then (some c, ⟨n, 0, 0, lo, hi⟩) else (none, leadD c) := by unfold stepD8; rw [if_pos rfl]
    rw [HX]
    clear HX hc
    generalize (if c < 128 then (some c, ⟨n, 0, 0, lo, hi⟩) else (none, leadD c) : Option Int × Dk) = X at HB ⊢
    go_enter Tryd.func88, Tryd.ntmps88
    go_wp2_with (go_at_call 93; (with_reducible refine HB.out.mono ?_); rintro e w1 ⟨v, rfl, hv⟩)
    go_ret
    exact ⟨_, rfl, hv⟩
  · simp only at e0 e1 e2 e3 e4 e5 e6 e7 e8 e9
    have hn0 : ¬ need = 0 := by omega
    have g1 : ¬ c < lo := by omega
    have g2 : ¬ hi < c := by omega
    have w1 : IntKind.i64.wrap (hv + 1) = hv + 1 := IntWalk.i64_in _ (by omega)
    have w2 : IntKind.i64.wrap (need - 1) = need - 1 := IntWalk.i64_in _ (by omega)
    by_cases hl : need = 1
    · subst hl
      go_enter Tryd.func88, Tryd.ntmps88
      go_wp2
      go_ret
      rw [show stepD8 ⟨n, 1, hv, lo, hi⟩ c = (some (n * 64 + c % 64), ⟨n * 64 + c % 64, 0, 0, 128, 191⟩) from by unfold stepD8; rw [if_neg (show ¬ (1 : Int) = 0 by decide), if_pos rfl]; simp only []; rw [Int.mul_comm 64 n]]
      refine ⟨_, rfl, ⟨_, rfl, ?_, hp_new (by simp [World.setCell])⟩, ((((((HD.out.set0 _).set3 _).set4 _).set2 _).set1 _).set2 _).grown ((Below.refl _ _).alloc (Nat.le_refl _) _), gb_alloc (gb_set (gb_set (gb_set (gb_set (gb_set (gb_set (gb_refl _ _) _) _) _) _) _) _) _⟩
      exact Nat.le_refl _
    · have hl1 : 0 < need - 1 := by omega
      go_enter Tryd.func88, Tryd.ntmps88
      go_wp2
      go_ret
      rw [show stepD8 ⟨n, need, hv, lo, hi⟩ c = (none, ⟨n * 64 + c % 64, need - 1, hv + 1, 128, 191⟩) from by unfold stepD8; rw [if_neg hn0, if_neg hl]; simp only []; rw [Int.mul_comm 64 n]]
      exact ⟨_, rfl, rfl, ((((HD.out.set0 _).set3 _).set4 _).set2 _).set1 _, gb_set (gb_set (gb_set (gb_set (gb_set (gb_refl _ _) _) _) _) _) _⟩
theorem uend_any (b : Nat) (d : Dk) (w : World) (hd : DecAt w b d) (h : d.hv = 0) :
    Calls Tryd.prog 89 #[.pointer (some ⟨b, 0, none⟩)] w fun e w' => e = .returned (.slice none 0 0) ∧ w = w' := by
  obtain ⟨h0, h1, h2, h3, h4⟩ := hd
  have c2 := h2.1
  rw [h] at c2
  clear h0 h1 h2 h3 h4
  go_enter Tryd.func89, Tryd.ntmps89
  go_wp2
  go_ret
  exact ⟨rfl, rfl⟩
end Go.Proofs.YtbllhchcccflkaaDoor

namespace Go.Proofs.YtbllhchcccflkaaDoor
open Go.RowKit Go
def AbD {β : Type} (d : Nat) (J : β → World → Prop) : Prop := ∀ s W W', J s W → W.grownBy W' (some d) → J s W'
def bodyD {α : Type} (Kp : World → World → Prop) (I : List α → World → Prop) (xs : List α) (W : World) : Exit → Act → World → Prop
  | .normal, _, W' => KeepsOthers W W' ∧ Kp W W' ∧ I xs W'
  | _, _, _ => False
/-- The iterator's contract: so many are handed over. -/
def SeqD {α : Type} (F : Fence) (n : Nat) (P : Program) (l g : Nat) (lb : Array Value) (encs : α → Array Value) (Kp : World → World → Prop) (d : Nat) (xs : List α) (W : World) : Prop :=
  ∀ (J : List α → World → Prop), AbD d J →
    (∀ pre x W1, J pre W1 → pre.length < xs.length → d < W1.heap.size → YieldAt F (n - 1) P l (encs x) W1 fun e W' => e = .returned (.bool true) ∧ J (pre ++ [x]) W' ∧ Kp W1 W') →
    J [] W →
    CallsIn F n P g (#[.func (.yield l) #[] #[]] ++ lb) W fun e W' => (∃ v, e = .returned v) ∧ J xs W'
variable {F : Fence} {n : Nat} {P : Program}
theorem wpIn_rangeFunc_D {α : Type} {g : Operand} {ps : Array Tmp} {assign body : Code} {Q : Exit → Act → World → Prop} {a : Act} {w : World}
    (hro : F.round = none) (h1 : 1 ≤ n) {gf : Nat} {lb : Array Value} (hg : a.eval g = .func (.func gf) #[] lb) (hFg : F.fn gf) (eg : ∀ args w, (callFunc gf args).run P w = .ok (.enter gf args) w)
    {encs : α → Array Value} {Kp : World → World → Prop} {xs : List α} {d : Nat} (hd : w.heap.size + 1 < d)
    (hseq : ∀ W, Below w.heap.size w W → W.heap.size = w.heap.size + 2 → SeqD F (n - 1) P (w.heap.size + 1) gf lb encs Kp d xs W)
    (hKt : ∀ {A B C : World}, Kp A B → Kp B C → Kp A C) (hKb : ∀ (W : World) (o' : Obj), Kp W (W.putObj (w.heap.size + 1) o')) (hps : ∀ x, (encs x).size = ps.size)
    (I : List α → World → Prop) (hI : ∀ s W W' r, I s W → W.grownBy W' (some r) → r = d ∨ r = w.heap.size + 1 → I s W') (h0 : I [] w) (a₁ : α → Act)
    (hassign : ∀ (l : Nat) (x : α) (W : World) (K : Act → World → Prop), K (a₁ x) W →
      assign.wpIn (F.inRound l) (n - 1 - 1) P (Exit.then K (fun _ _ _ => False)) { tmps := (ps.zip (encs x)).foldl (fun t (p, v) => t.setIfInBounds p v) a.tmps, defers := [] } W)
    (hbody : ∀ (l : Nat) (pre : List α) (x : α) (W : World), I pre W → pre.length < xs.length → d < W.heap.size → body.wpIn (F.inRound l) (n - 1 - 1) P (bodyD Kp I (pre ++ [x]) W) (a₁ x) W)
    (hdone : ∀ (W : World), I xs W → W.heap[w.heap.size]? = some (.deferred (some [])) → Q .normal { a with defers := { target := .collected w.heap.size, args := #[] } :: a.defers } W) :
    (Code.rangeFunc g ps assign body).wpIn F n P Q a w := by
  refine wpIn_rangeFunc ?_
  intro fn hfn
  rw [hro]
  obtain ⟨rec, hrec⟩ : ∃ rec : LoopState → Option Code → Loop, rec = fun st pe => { state := st, pending := pe, fn, tmps := a.tmps, params := ps, assign, body, defers := w.heap.size } := ⟨_, rfl⟩
  obtain ⟨W1, hW1⟩ : ∃ W1, (w.alloc (.deferred (some []))).alloc (.loop (rec .ready none)) = W1 := ⟨_, rfl⟩
  have hL1 : W1.heap[w.heap.size + 1]? = some (.loop (rec .ready none)) := by
    rw [← hW1]; have := World.alloc_heap_new (w.alloc (.deferred (some []))) (.loop (rec .ready none)); rwa [World.size_alloc] at this
  have hK1 : W1.heap[w.heap.size]? = some (.deferred (some [])) := by
    rw [← hW1]; exact (Below.heap_alloc _ _ _ (by simp)).trans (World.alloc_heap_new w _)
  have hb1 : Below w.heap.size w W1 := by
    rw [← hW1]; exact ((Below.refl _ w).alloc (Nat.le_refl _) _).alloc (by simp) _
  have hs1 : W1.heap.size = w.heap.size + 2 := by rw [← hW1]; simp
  have hg1 : w.grownBy W1 (some d) := by
    rw [← hW1]; exact ⟨rfl, rfl, rfl, by simp; omega, fun k hk _ => ((Below.heap_alloc _ _ k (by simp; omega)).trans (Below.heap_alloc w _ k hk))⟩
  have hI1 : I [] W1 := hI [] w W1 d h0 hg1 (.inl rfl)
  refine ⟨w.heap.size + 1, [{ target := .collected w.heap.size, args := #[] }], W1, { target := .fn (.func gf) lb, args := #[.func (.yield (w.heap.size + 1)) #[] #[]] }, W1, gf,
    #[.func (.yield (w.heap.size + 1)) #[] #[]] ++ lb, W1, ?_, ?_, ?_, ?_, fun _ => h1, ?_⟩
  · rw [← hW1, hrec]; exact run_enterLoop_outer _ _ _ _ _
  · simp only [resolve, hg]
    simp [go_sem]
  · intro f' hf'; simp [Target.leads] at hf'; subst hf'; exact hFg
  · simp [invoke, go_sem, eg]
  · refine (hseq W1 hb1 hs1
      (fun pre W => I pre W ∧ W.heap[w.heap.size + 1]? = some (.loop (rec .ready none)) ∧ W.heap[w.heap.size]? = some (.deferred (some [])))
      (fun s A B hs hg' => ⟨hI s A B d hs.1 hg' (.inl rfl),
        (hg'.block _ (Array.getElem?_eq_some_iff.1 hs.2.1).1 (by intro e; cases e; omega)).trans hs.2.1,
        (hg'.block _ (Array.getElem?_eq_some_iff.1 hs.2.2).1 (by intro e; cases e; omega)).trans hs.2.2⟩)
      ?_ ⟨hI1, hL1, hK1⟩).mono ?_
    · rintro pre x W ⟨hi, hl, hk⟩ hlen hdl
      have hlt : w.heap.size + 1 < W.heap.size := (Array.getElem?_eq_some_iff.1 hl).1
      have hy := run_yield (P := P) (args := encs x) hl (by rw [hrec]; exact hps x)
      rw [hrec] at hy
      refine ⟨fn, _, assign, body, hy, roundIn_of_wpIn hfn (hassign _ x W _ ⟨_, run_beginRound hl (by rw [hrec]), ?_⟩)⟩
      have hl2 : (W.putObj (w.heap.size + 1) (.loop { rec .ready none with state := .busy })).heap[w.heap.size + 1]? = some (.loop { rec .ready none with state := .busy }) := World.putObj_heap_same hlt
      have hk2 : (W.putObj (w.heap.size + 1) (.loop { rec .ready none with state := .busy })).heap[w.heap.size]? = some (.deferred (some [])) := (World.putObj_heap_other (by omega)).trans hk
      have hw2 : Kp W (W.putObj (w.heap.size + 1) (.loop { rec .ready none with state := .busy })) := hKb _ _
      refine wpIn_mono (hbody _ pre x _ (hI _ _ _ _ hi (grownBy_putObj' W (w.heap.size + 1) _) (.inr rfl)) hlen (by rw [World.putObj_size]; exact hdl)) ?_
      rintro e a3 W3 hp
      cases e with
      | normal =>
        obtain ⟨hk3, hkp3, hi3⟩ := hp
        have hl3 := hk3.same _ _ hl2 rfl
        have hr := run_endRound (P := P) none hl3
        rw [hrec] at hr hl3
        refine ⟨_, _, hr, ⟨rfl, ⟨hI _ _ _ _ hi3 (grownBy_putObj' W3 (w.heap.size + 1) _) (.inr rfl), ?_, ?_⟩, hKt (hKt hw2 hkp3) (hKb _ _)⟩⟩
        · rw [hrec]; exact World.putObj_heap_same (Array.getElem?_eq_some_iff.1 hl3).1
        · exact (World.putObj_heap_other (by omega)).trans (hk3.same _ _ hk2 rfl)
      | _ => exact hp.elim
    · rintro e W2 ⟨⟨v, rfl⟩, hi, hl, hk⟩
      exact ⟨none, _, by have := run_endLoop (P := P) hl (by rw [hrec]; simp); rw [hrec] at this; exact this, hdone _ (hI _ _ _ _ hi (grownBy_putObj' W2 (w.heap.size + 1) _) (.inr rfl)) ((World.putObj_heap_other (by omega)).trans hk)⟩
end Go.Proofs.YtbllhchcccflkaaDoor

namespace Go.Proofs.YtbllhchcccflkaaDoor
open Go.RowKit
attribute [local go_sem] Oper.semAt_some
/-- What a round keeps: the blocks up to d, but two. -/
def KpD (ob lr d : Nat) (W W' : World) : Prop := W.heap.size ≤ W'.heap.size ∧ ∀ k, k ≤ d → k ≠ ob → k ≠ lr → W'.heap[k]? = W.heap[k]?
theorem KpD.trans {ob lr d : Nat} {A B C : World} (h : KpD ob lr d A B) (k : KpD ob lr d B C) : KpD ob lr d A C := ⟨Nat.le_trans h.1 k.1, fun i a b c => (k.2 i a b c).trans (h.2 i a b c)⟩
theorem KpD.cell {ob lr d : Nat} {W W' : World} (h : KpD ob lr d W W') {b o : Nat} (hb : b ≤ d) (h1 : b ≠ ob) (h2 : b ≠ lr) : W'.cell? ⟨b, o, none⟩ = W.cell? ⟨b, o, none⟩ ∧ W'.frozen? ⟨b, o, none⟩ = W.frozen? ⟨b, o, none⟩ :=
  ⟨World.cell?_of_block (h.2 b hb h1 h2), World.frozen?_of_block (h.2 b hb h1 h2)⟩
theorem DecAt.kept {ob lr d : Nat} {W W' : World} (h : KpD ob lr d W W') {x : Dk} (h1 : d ≠ ob) (h2 : d ≠ lr) (hd : DecAt W d x) : DecAt W' d x := by
  obtain ⟨a0, a1, a2, a3, a4⟩ := hd
  have k := fun o => h.cell (b := d) (o := o) (Nat.le_refl _) h1 h2
  exact ⟨⟨(k 0).1.trans a0.1, (k 0).2.trans a0.2⟩, ⟨(k 1).1.trans a1.1, (k 1).2.trans a1.2⟩, ⟨(k 2).1.trans a2.1, (k 2).2.trans a2.2⟩, ⟨(k 3).1.trans a3.1, (k 3).2.trans a3.2⟩, ⟨(k 4).1.trans a4.1, (k 4).2.trans a4.2⟩⟩
/-- Bytes in memory, somewhere ahead of d. -/
def BsIn (W : World) (ob lr d : Nat) (A : Option Addr) (bs : List Int) : Prop := 0 < bs.length → ∃ g off, A = some ⟨g, off, none⟩ ∧ g < d ∧ g ≠ ob ∧ g ≠ lr ∧ ∀ i x, bs[i]? = some x → W.cell? ⟨g, off + i, none⟩ = some (.int .u8 x)
theorem BsIn.kept {ob lr d : Nat} {W W' : World} {A : Option Addr} {bs : List Int} (h : KpD ob lr d W W') (hb : BsIn W ob lr d A bs) : BsIn W' ob lr d A bs := fun h0 => by
  obtain ⟨g, off, e, h1, h2, h3, h4⟩ := hb h0
  exact ⟨g, off, e, h1, h2, h3, fun i x hx => (h.cell (by omega) h2 h3).1.trans (h4 i x hx)⟩
theorem BsIn.grown {ob lr d : Nat} {W W' : World} {A : Option Addr} {bs : List Int} (h : W.grownBy W' (some d)) (hb : BsIn W ob lr d A bs) : BsIn W' ob lr d A bs := fun h0 => by
  obtain ⟨g, off, e, h1, h2, h3, h4⟩ := hb h0
  exact ⟨g, off, e, h1, h2, h3, fun i x hx => (World.cell?_of_block (h.block g (lt_of_cell (h4 i x hx)) (by intro e; cases e; omega))).trans (h4 i x hx)⟩
theorem cell_gb {W W' : World} {b d o : Nat} {v : Value} (h : W.grownBy W' (some d)) (hb : b ≠ d) (hc : W.cell? ⟨b, o, none⟩ = some v) : W'.cell? ⟨b, o, none⟩ = some v :=
  (World.cell?_of_block (h.block b (lt_of_cell hc) (by intro e; cases e; exact hb rfl))).trans hc
theorem runD_len (d : Dk) (l : List Int) (k : Nat) : (runD d (l.take k)).1.length ≤ (runD d l).1.length := by
  have := runD_append d (l.take k) (l.drop k)
  rw [List.take_append_drop] at this
  rw [this]
  simp
theorem run_getElem? {bs : List Int} {k : Nat} (h : k < bs.length) : bs[k]? = some bs[k] := List.getElem?_eq_getElem h
set_option maxRecDepth 100000 in
set_option maxHeartbeats 3200000 in
theorem uread1_in (n : Nat) (hn : 1 ≤ n) (l ob bb ca : Nat) (A : Option Addr) (bs L : List Int) (hok : ∀ d : Dk, d.need = 0 ∧ d.hv = 0 → okRun d bs ∧ (runD d bs).1 = L ∧ (runD d bs).2.need = 0 ∧ (runD d bs).2.hv = 0) (hz : bs.length ≤ 10000)
    (W : World) (hob : ob < W.heap.size) (hl : l < W.heap.size) (hbb : bb ≠ ob) (hbl : bb ≠ l) (hb : W.cell? ⟨bb, 0, none⟩ = some (.slice A bs.length ca)) (hbs : BsIn W ob l W.heap.size A bs) :
    SeqD Fence.wide n Tryd.prog l 87 #[.pointer (some ⟨bb, 0, none⟩)] (fun x : Int => #[Value.int .i32 x]) (KpD ob l W.heap.size) W.heap.size L W := by
  intro J hJ hY h0
  obtain ⟨hok1, hL, hnd, hhv⟩ := hok ⟨0, 0, 0, 0, 0⟩ ⟨rfl, rfl⟩
  have HOK := Lib.hid hok1
  have HL := Lib.hid hL
  have HBS := Lib.hid hbs
  have HEND := Lib.hid (⟨hnd, hhv⟩ : (runD ⟨0, 0, 0, 0, 0⟩ bs).2.need = 0 ∧ (runD ⟨0, 0, 0, 0, 0⟩ bs).2.hv = 0)
  clear hok hok1 hL hbs hnd hhv
  have hbW := lt_of_cell hb
  have hD0 : DecAt (W.alloc (.cells #[.int .i32 0, .int .i64 0, .int .i64 0, .int .u8 0, .int .u8 0] 126)) W.heap.size ⟨0, 0, 0, 0, 0⟩ := ⟨at_ (hp_new rfl) 0 _ rfl, at_ (hp_new rfl) 1 _ rfl, at_ (hp_new rfl) 2 _ rfl, at_ (hp_new rfl) 3 _ rfl, at_ (hp_new rfl) 4 _ rfl⟩
  have hg0 := gb_alloc (gb_refl W (some W.heap.size)) (.cells #[.int .i32 0, .int .i64 0, .int .i64 0, .int .u8 0, .int .u8 0] 126)
  have hb1 := cell_gb hg0 (by omega) hb
  have HB1 := Lib.hid (⟨hD0, HBS.out.grown hg0, hJ _ _ _ h0 hg0, hb1⟩ : DecAt (W.alloc (.cells #[.int .i32 0, .int .i64 0, .int .i64 0, .int .u8 0, .int .u8 0] 126)) W.heap.size ⟨0, 0, 0, 0, 0⟩ ∧ BsIn (W.alloc (.cells #[.int .i32 0, .int .i64 0, .int .i64 0, .int .u8 0, .int .u8 0] 126)) ob l W.heap.size A bs ∧ J [] (W.alloc (.cells #[.int .i32 0, .int .i64 0, .int .i64 0, .int .u8 0, .int .u8 0] 126)) ∧ (W.alloc (.cells #[.int .i32 0, .int .i64 0, .int .i64 0, .int .u8 0, .int .u8 0] 126)).cell? ⟨bb, 0, none⟩ = some (.slice A bs.length ca))
  clear hD0 hg0 hb h0
  obtain ⟨d, hd⟩ : ∃ d, d = W.heap.size := ⟨_, rfl⟩
  refine callsIn_of_wp Tryd.func87 rfl trivial ?_ rfl
  simp only [Tryd.ntmps87, List.size_toArray, List.length_cons, List.length_nil, Nat.reduceAdd, Nat.reduceSub, Array.replicate_succ, Array.replicate_zero, List.push_toArray, List.append_toArray, List.nil_append, List.cons_append]
  gi_wp2
  gi_loopw [12] (fun i wr => ∃ k : Nat, k ≤ bs.length ∧ i = .int .i64 k ∧ DecAt wr W.heap.size (runD ⟨0, 0, 0, 0, 0⟩ (bs.take k)).2 ∧ BsIn wr ob l W.heap.size A bs ∧ J (runD ⟨0, 0, 0, 0, 0⟩ (bs.take k)).1 wr) (fun i _ => bs.length - (intOf i).toNat)
  case atStart => exact ⟨0, Nat.zero_le _, rfl, HB1.out.1, HB1.out.2.1, HB1.out.2.2.1⟩
  case round =>
    obtain ⟨k, hk, rfl, hdec, hbk, hj⟩ := hrel
    by_cases hlt : k < bs.length
    · obtain ⟨g, off, rfl, hg1, hg2, hg3, hcs⟩ := hbk (by omega)
      have hc := hcs k _ (run_getElem? hlt)
      have hokk := okRun_at HOK.out hlt
      have HT := Lib.hid (runD_take_succ ⟨0, 0, 0, 0, 0⟩ bs hlt)
      have HLEN := Lib.hid (runD_len ⟨0, 0, 0, 0, 0⟩ bs (k + 1))
      have HS := Lib.hid (ustep_any W.heap.size _ _ wr hdec hokk)
      have HBK := Lib.hid hbk
      have HJ := Lib.hid hj
      clear hdec hokk hbk hj hcs
      rw [HT.out, HL.out] at HLEN
      generalize hx : bs[k] = x at hc HS HT HLEN
      generalize (runD ⟨0, 0, 0, 0, 0⟩ (bs.take k)).2 = D at HS HT HLEN
      generalize (runD ⟨0, 0, 0, 0, 0⟩ (bs.take k)).1 = P at HJ HT HLEN
      generalize stepD8 D x = X at HS HT HLEN
      obtain ⟨x1, D'⟩ := X
      clear hx
      rcases x1 with _ | r
      · gi_wp2_with (refine ⟨trivial, ?_⟩; gi_at_call 88; refine (callsIn_wide.2 HS.out).mono ?_; rintro e W1 ⟨v, rfl, rfl, hd1, hgr⟩)
        refine wpIn_loop_rounds 1 ?_
        rw [roundsIn_succ]
        gi_wp2
        go_roundw
        case rel => exact ⟨k + 1, by omega, by simp, by rw [HT.out]; exact hd1, HBK.out.grown hgr, by rw [HT.out]; simpa using hJ _ _ _ HJ.out hgr⟩
        case measure => simp [intOf]; omega
      · gi_wp2_with (refine ⟨trivial, ?_⟩; gi_at_call 88; refine (callsIn_wide.2 HS.out).mono ?_; rintro e W1 ⟨v, rfl, ⟨g', rfl, hg', hcell⟩, hd1, hgr⟩)
        have hj1 := hJ _ _ _ HJ.out hgr
        have hc1 := (at_ hcell 0 _ rfl).1
        obtain ⟨fn, tmps, assign, body, hy, hR⟩ := hY _ r W1 hj1 (by have := HLEN.out; simp at this; omega) hd1.lt
        clear hj1
        refine wpIn_loop_rounds 2 ?_
        rw [roundsIn_succ]
        gi_wp2
        refine hR.mono ?_
        rintro e W3 ⟨rfl, hJ3, hk3⟩
        have HJ3 := Lib.hid hJ3
        have HK3 := Lib.hid hk3
        clear hJ3 hk3
        gi_wp2
        rw [roundsIn_succ]
        gi_wp2
        go_roundw
        case rel => exact ⟨k + 1, by omega, by simp, by rw [HT.out]; exact hd1.kept HK3.out (by omega) (by omega), (HBK.out.grown hgr).kept HK3.out, by rw [HT.out]; exact HJ3.out⟩
        case measure => simp [intOf]; omega
    · obtain rfl : k = bs.length := by omega
      rw [List.take_length] at hdec hj
      have HE := Lib.hid (uend_any W.heap.size _ wr hdec HEND.out.2)
      have HJ := Lib.hid hj
      clear hdec hj
      gi_wp2_with (refine ⟨trivial, ?_⟩; gi_at_call 89; refine (callsIn_wide.2 HE.out).mono ?_; rintro e W1 ⟨rfl, rfl⟩)
      refine wpIn_loop_rounds 1 ?_
      rw [roundsIn_succ]
      gi_wp2
      go_end0
      exact ⟨⟨_, rfl⟩, by rw [← HL.out]; exact HJ.out⟩
end Go.Proofs.YtbllhchcccflkaaDoor
