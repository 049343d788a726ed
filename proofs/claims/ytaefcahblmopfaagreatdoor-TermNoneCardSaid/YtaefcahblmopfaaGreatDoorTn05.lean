/- Joined by a tool of this claim out of smaller texts. Conditions: as stated. -/
import Derived.Test.YtaefcahblmopfaaGreatDoorTn04
import Derived.Laws.BytesArg
import Derived.Laws.BitsAllLaws
set_option linter.unusedVariables false
set_option linter.unusedSimpArgs false
namespace Go.Proofs.YtaefcahblmopfaaGreatDoor
open Go.RowKit
set_option maxRecDepth 100000 in
theorem scalar_any (r : Int) (w : World) : Calls Tryz.prog 170 #[.int .i32 r] w fun e w' => e = .returned (.bool (isScal r)) ∧ w = w' := by
  unfold isScal
  by_cases h1 : 0 ≤ r <;> by_cases h2 : r ≤ 1114111 <;> by_cases h3 : r < 55296 <;>
  · go_enter Tryz.func170, Tryz.ntmps170
    go_wp2
    go_ret
    refine ⟨?_, rfl⟩
    simp [h1, h2, h3]
    try omega
def tailV (r : Int) : Nat → Int
  | 0 => 128 + r % 64
  | 1 => 128 + r / 64 % 64
  | _ => 128 + r / 4096 % 64
set_option maxRecDepth 100000 in
theorem tail1_any (r : Int) (k g : Nat) (hk : k ≤ 2) (h0 : 0 ≤ r) (h1 : r ≤ 1114111) (w : World) (hg : w.cell? ⟨g, 0, none⟩ = some (.int .i32 r)) : Calls Tryz.prog 169 #[.int .i64 k, .pointer (some ⟨g, 0, none⟩)] w fun e w' => e = .returned (.int .u8 (tailV r k)) ∧ w = w' := by
  rcases k with _ | _ | _ | k
  · go_enter Tryz.func169, Tryz.ntmps169
    go_wp2
    go_ret
    exact ⟨rfl, rfl⟩
  · go_enter Tryz.func169, Tryz.ntmps169
    go_wp2
    go_ret
    exact ⟨rfl, rfl⟩
  · go_enter Tryz.func169, Tryz.ntmps169
    go_wp2
    go_ret
    exact ⟨rfl, rfl⟩
  · omega
theorem or_lead (h i : Nat) (x : Int) (hh : h < 256) (hx0 : 0 ≤ x) (hx1 : x < 256) (hd : h % 2 ^ i = 0) (hx : x.toNat < 2 ^ i) : bits .or .u8 (h : Int) x = h + x := by
  rw [u8_or _ _ (by omega) (by omega) hx0 hx1, Int.toNat_natCast, nat_join i _ _ hd hx]
  omega
theorem conv_at (xs : List Int) (n c g : Nat) (w : World) (t : TypeId) (h : w.heap[g]? = some (.cells (xs.map (Value.int .u8)).toArray t (0, 0))) (hn : xs.length = n) :
    (convert 23 9 (.slice (some ⟨g, 0, none⟩) n c)).run Tryz.prog w = .ok (.string (strOfNums xs)) w := by
  refine run_convert_bytes_arg w 23 5 Tryz.underlying23 Tryz.underlying5 g 0 n c xs hn (fun i hi => ?_) 9 Tryz.underlying9
  rw [Nat.zero_add]
  refine (at_ h i _ ?_).1
  rw [List.getElem?_toArray, List.getElem?_map, List.getElem?_eq_getElem (by omega)]
  simp [List.getD, List.getElem?_eq_getElem (show i < xs.length by omega)]
set_option maxRecDepth 100000 in
set_option maxHeartbeats 1600000 in
theorem uput_any (r : Int) (w : World) : Calls Tryz.prog 102 #[.int .i32 r] w fun e w' => e = .returned (.string (putB r)) ∧ Below w.heap.size w w' := by
  have HS := Lib.hid (fun w => scalar_any r w)
  cases hs : isScal r with
  | false =>
    have HV := Lib.hid (show putB r = ByteArray.empty from by unfold putB; rw [hs]; rfl)
    rw [hs] at HS
    clear hs
    go_enter Tryz.func102, Tryz.ntmps102
    go_wp2_with (go_at_call 170; refine (HS.out _).mono ?_; rintro e w1 ⟨rfl, rfl⟩)
    go_ret
    rw [HV.out]
    exact ⟨rfl, below_allocs (Below.refl _ _) _⟩
  | true =>
    rw [hs] at HS
    have hr : 0 ≤ r ∧ r ≤ 1114111 := by unfold isScal at hs; simp at hs; omega
    obtain ⟨hr0, hr1⟩ := hr
    by_cases hA : r < 128
    · have HV := Lib.hid (show putB r = ⟨#[r.toNat.toUInt8]⟩ from by unfold putB; rw [hs, if_pos rfl, if_pos hA])
      clear hs
      have hcv := conv_at [r] 1 1 (w.heap.size + 1) ((w.alloc (.cells #[.int .i32 r] 21)).alloc (.cells #[.int .u8 r] 5)) 5 (hp_new (by simp)) rfl
      go_enter Tryz.func102, Tryz.ntmps102
      go_wp2_with (go_at_call 170; refine (HS.out _).mono ?_; rintro e w1 ⟨rfl, rfl⟩)
      go_ret
      rw [HV.out]
      exact ⟨rfl, below_allocs (below_allocs (Below.refl _ _) _) _⟩
    have x0 : (w.alloc (.cells #[.int .i32 r] 21)).cell? ⟨w.heap.size, 0, none⟩ = some (.int .i32 r) := (at_ (hp_new rfl) 0 _ rfl).1
    have HX0 := Lib.hid x0
    have HB0 := Lib.hid (below_allocs (Below.refl w.heap.size w) (.cells #[.int .i32 r] 21))
    clear x0
    have HT : Hid (∀ (k : Nat), k ≤ 2 → ∀ (w2 : World), w2.cell? ⟨w.heap.size, 0, none⟩ = some (.int .i32 r) → Calls Tryz.prog 169 #[.int .i64 k, .pointer (some ⟨w.heap.size, 0, none⟩)] w2 fun e w' => e = .returned (.int .u8 (tailV r k)) ∧ w2 = w') := Lib.hid (fun k hk w2 h => tail1_any r k w.heap.size hk hr0 hr1 w2 h)
    by_cases hB : r < 2048
    · have HV := Lib.hid (show putB r = ⟨#[(192 + r / 64).toNat.toUInt8, (128 + r % 64).toNat.toUInt8]⟩ from by unfold putB; rw [hs, if_pos rfl, if_neg (show ¬ r < 0x80 from hA), if_pos hB])
      clear hs
      have hw8 : IntKind.u8.wrap (r / 64) = r / 64 := by rw [IntKind.wrap_u8']; omega
      have hor : bits .or .u8 192 (r / 64) = 192 + r / 64 := or_lead 192 5 (r / 64) (by omega) (by omega) (by omega) (by decide) (by omega)
      go_enter Tryz.func102, Tryz.ntmps102
      go_upto_region 7 with (go_at_call 170; refine (HS.out _).mono ?_; rintro e w1 ⟨rfl, rfl⟩)
      generalize World.alloc _ _ = W at HX0 HB0 ⊢
      have x0 := HX0.out
      refine wp_region_u 6 (fun w' => Below W.heap.size W w' ∧ w'.cell? ⟨w.heap.size, 0, none⟩ = some (.int .i32 r)) (by kernel_rfl) (by kernel_rfl) ?_ ?_
      · exact ⟨(Below.refl _ _).drew, x0⟩
      simp only [List.take_succ_cons, List.take_zero, List.drop_succ_cons, List.drop_zero]
      repeat (
        (first
         | refine seqU_skip (by rfl) ?_
         | (refine seqU_call 169 #[.int .i64 0, .pointer (some ⟨w.heap.size, 0, none⟩)] (.int .u8 (128 + r % 64)) (by rfl) ?_ (fun w' hS => (HT.out 0 (by omega) w' hS.2).mono (fun e w'' h => ⟨h.1, h.2 ▸ hS⟩)) ?_; (focus (intro w2; go_simp; done)))
         | (refine seqU_val ?_ (by rfl) ?_ ?_; rotate_left; (focus (intro w' hS; obtain ⟨_, _⟩ := hS; go_simp; first | done | with_reducible rfl))))
        simp only [Act.put, List.setIfInBounds_toArray, List.set_cons_zero, List.set_cons_succ])
      refine seqU_nil (fun w' hS => ?_)
      have HB1 := Lib.hid (below_tail HB0.out hS.1)
      have hcv := conv_at [192 + r / 64, 128 + r % 64] 2 2 w'.heap.size (w'.alloc (.cells #[.int .u8 (192 + r / 64), .int .u8 (128 + r % 64)] 5)) 5 (hp_new rfl) rfl
      clear hS x0 hw8 hor
      go_wp2
      go_ret
      rw [HV.out]
      exact ⟨rfl, below_allocs HB1.out _⟩
    by_cases hC : r < 65536
    · have HV := Lib.hid (show putB r = ⟨#[(224 + r / 4096).toNat.toUInt8, (128 + r / 64 % 64).toNat.toUInt8, (128 + r % 64).toNat.toUInt8]⟩ from by unfold putB; rw [hs, if_pos rfl, if_neg (show ¬ r < 0x80 from hA), if_neg (show ¬ r < 0x800 from hB), if_pos hC])
      clear hs
      have hw8 : IntKind.u8.wrap (r / 4096) = r / 4096 := by rw [IntKind.wrap_u8']; omega
      have hor : bits .or .u8 224 (r / 4096) = 224 + r / 4096 := or_lead 224 4 (r / 4096) (by omega) (by omega) (by omega) (by decide) (by omega)
      go_enter Tryz.func102, Tryz.ntmps102
      go_upto_region 9 with (go_at_call 170; refine (HS.out _).mono ?_; rintro e w1 ⟨rfl, rfl⟩)
      generalize World.alloc _ _ = W at HX0 HB0 ⊢
      have x0 := HX0.out
      refine wp_region_u 8 (fun w' => Below W.heap.size W w' ∧ w'.cell? ⟨w.heap.size, 0, none⟩ = some (.int .i32 r)) (by kernel_rfl) (by kernel_rfl) ?_ ?_
      · exact ⟨(Below.refl _ _).drew, x0⟩
      simp only [List.take_succ_cons, List.take_zero, List.drop_succ_cons, List.drop_zero]
      repeat (
        (first
         | refine seqU_skip (by rfl) ?_
         | (refine seqU_call 169 #[.int .i64 1, .pointer (some ⟨w.heap.size, 0, none⟩)] (.int .u8 (128 + r / 64 % 64)) (by rfl) ?_ (fun w' hS => (HT.out 1 (by omega) w' hS.2).mono (fun e w'' h => ⟨h.1, h.2 ▸ hS⟩)) ?_; (focus (intro w2; go_simp; done)))
         | (refine seqU_call 169 #[.int .i64 0, .pointer (some ⟨w.heap.size, 0, none⟩)] (.int .u8 (128 + r % 64)) (by rfl) ?_ (fun w' hS => (HT.out 0 (by omega) w' hS.2).mono (fun e w'' h => ⟨h.1, h.2 ▸ hS⟩)) ?_; (focus (intro w2; go_simp; done)))
         | (refine seqU_val ?_ (by rfl) ?_ ?_; rotate_left; (focus (intro w' hS; obtain ⟨_, _⟩ := hS; go_simp; first | done | with_reducible rfl))))
        simp only [Act.put, List.setIfInBounds_toArray, List.set_cons_zero, List.set_cons_succ])
      refine seqU_nil (fun w' hS => ?_)
      have HB1 := Lib.hid (below_tail HB0.out hS.1)
      have hcv := conv_at [224 + r / 4096, 128 + r / 64 % 64, 128 + r % 64] 3 3 w'.heap.size (w'.alloc (.cells #[.int .u8 (224 + r / 4096), .int .u8 (128 + r / 64 % 64), .int .u8 (128 + r % 64)] 5)) 5 (hp_new rfl) rfl
      clear hS x0 hw8 hor
      go_wp2
      go_ret
      rw [HV.out]
      exact ⟨rfl, below_allocs HB1.out _⟩
    · have HV := Lib.hid (show putB r = ⟨#[(240 + r / 262144).toNat.toUInt8, (128 + r / 4096 % 64).toNat.toUInt8, (128 + r / 64 % 64).toNat.toUInt8, (128 + r % 64).toNat.toUInt8]⟩ from by unfold putB; rw [hs, if_pos rfl, if_neg (show ¬ r < 0x80 from hA), if_neg (show ¬ r < 0x800 from hB), if_neg (show ¬ r < 0x10000 from hC)])
      clear hs
      have hw8 : IntKind.u8.wrap (r / 262144) = r / 262144 := by rw [IntKind.wrap_u8']; omega
      have hor : bits .or .u8 240 (r / 262144) = 240 + r / 262144 := or_lead 240 3 (r / 262144) (by omega) (by omega) (by omega) (by decide) (by omega)
      go_enter Tryz.func102, Tryz.ntmps102
      go_upto_region 10 with (go_at_call 170; refine (HS.out _).mono ?_; rintro e w1 ⟨rfl, rfl⟩)
      generalize World.alloc _ _ = W at HX0 HB0 ⊢
      have x0 := HX0.out
      refine wp_region_u 10 (fun w' => Below W.heap.size W w' ∧ w'.cell? ⟨w.heap.size, 0, none⟩ = some (.int .i32 r)) (by kernel_rfl) (by kernel_rfl) ?_ ?_
      · exact ⟨(Below.refl _ _).drew, x0⟩
      simp only [List.take_succ_cons, List.take_zero, List.drop_succ_cons, List.drop_zero]
      repeat (
        (first
         | refine seqU_skip (by rfl) ?_
         | (refine seqU_call 169 #[.int .i64 2, .pointer (some ⟨w.heap.size, 0, none⟩)] (.int .u8 (128 + r / 4096 % 64)) (by rfl) ?_ (fun w' hS => (HT.out 2 (by omega) w' hS.2).mono (fun e w'' h => ⟨h.1, h.2 ▸ hS⟩)) ?_; (focus (intro w2; go_simp; done)))
         | (refine seqU_call 169 #[.int .i64 1, .pointer (some ⟨w.heap.size, 0, none⟩)] (.int .u8 (128 + r / 64 % 64)) (by rfl) ?_ (fun w' hS => (HT.out 1 (by omega) w' hS.2).mono (fun e w'' h => ⟨h.1, h.2 ▸ hS⟩)) ?_; (focus (intro w2; go_simp; done)))
         | (refine seqU_call 169 #[.int .i64 0, .pointer (some ⟨w.heap.size, 0, none⟩)] (.int .u8 (128 + r % 64)) (by rfl) ?_ (fun w' hS => (HT.out 0 (by omega) w' hS.2).mono (fun e w'' h => ⟨h.1, h.2 ▸ hS⟩)) ?_; (focus (intro w2; go_simp; done)))
         | (refine seqU_val ?_ (by rfl) ?_ ?_; rotate_left; (focus (intro w' hS; obtain ⟨_, _⟩ := hS; go_simp; first | done | with_reducible rfl))))
        simp only [Act.put, List.setIfInBounds_toArray, List.set_cons_zero, List.set_cons_succ])
      refine seqU_nil (fun w' hS => ?_)
      have HB1 := Lib.hid (below_tail HB0.out hS.1)
      have hcv := conv_at [240 + r / 262144, 128 + r / 4096 % 64, 128 + r / 64 % 64, 128 + r % 64] 4 4 w'.heap.size (w'.alloc (.cells #[.int .u8 (240 + r / 262144), .int .u8 (128 + r / 4096 % 64), .int .u8 (128 + r / 64 % 64), .int .u8 (128 + r % 64)] 5)) 5 (hp_new rfl) rfl
      clear hS x0 hw8 hor
      go_wp2
      go_ret
      rw [HV.out]
      exact ⟨rfl, below_allocs HB1.out _⟩
end Go.Proofs.YtaefcahblmopfaaGreatDoor
namespace Go.Proofs.YtaefcahblmopfaaGreatDoor
open Go.RowKit
def markO (o : List Cl) (x r : Int) : List Cl :=
  match o[x.toNat]? with
  | none => o
  | some c =>
    if x < 0 ∨ c.r = 0 ∨ widOf r ≠ 0 ∨ 32 < (c.more ++ putB r).size then o
    else
      let m := c.more ++ putB r
      let o1 := if c.half = 1 then o.modify (x.toNat + 1) (withMore m) else if c.half = 2 then o.modify (x.toNat - 1) (withMore m) else o
      o1.modify x.toNat (withMore m)
theorem markO_len (o : List Cl) (x r : Int) : (markO o x r).length = o.length := by
  unfold markO
  split
  · rfl
  split
  · rfl
  · simp only [List.length_modify]
    split
    · simp
    split <;> simp
theorem markL_O (l : List Cl) (x r : Int) : mendL (markO (mendL l) x r) = markL l x r := by
  unfold markO markL
  simp only []
  cases (mendL l)[x.toNat]? with
  | none => exact mendL_idem l
  | some c =>
    simp only []
    split
    · exact mendL_idem l
    · rfl
/-- What is true of each cell of a mended row: a left half has one behind it, a right half one ahead. -/
theorem mend_halves : ∀ (l : List Cl) (k : Nat) (c : Cl), (mendL l)[k]? = some c → (c.half = 1 → k + 1 < (mendL l).length) ∧ (c.half = 2 → 1 ≤ k)
  | [], k, c, h => by simp [mendL] at h
  | [d], k, c, h => by
    rw [mendL_one] at h ⊢
    split at h
    · next hd =>
      have : k = 0 := by have := (List.getElem?_eq_some_iff.1 h).1; simpa using this
      subst this
      simp at h
      subst h
      exact ⟨fun e => by omega, fun e => by omega⟩
    · have : k = 0 := by have := (List.getElem?_eq_some_iff.1 h).1; simpa using this
      subst this
      simp at h
      subst h
      exact ⟨fun e => by simp [emptyC, emptyA, mkCl] at e, fun e => by simp [emptyC, emptyA, mkCl] at e⟩
  | d :: e :: l, k, c, h => by
    rw [mendL_cons] at h ⊢
    split at h
    · next hd =>
      rw [if_pos hd]
      match k with
      | 0 =>
        simp at h
        subst h
        exact ⟨fun e => by omega, fun e => by omega⟩
      | k + 1 =>
        have := mend_halves (e :: l) k c (by simpa using h)
        exact ⟨fun h => by have := this.1 h; simp; omega, fun h => by omega⟩
    · next hd =>
      rw [if_neg hd]
      split at h
      · next hp =>
        rw [if_pos hp]
        match k with
        | 0 =>
          simp at h
          subst h
          refine ⟨fun e => by simp, fun e => ?_⟩
          unfold pairB at hp
          simp only [Bool.and_eq_true, decide_eq_true_eq] at hp
          omega
        | 1 =>
          simp at h
          subst h
          refine ⟨fun e => ?_, fun e => by omega⟩
          unfold pairB at hp
          simp only [Bool.and_eq_true, decide_eq_true_eq] at hp
          omega
        | k + 2 =>
          have := mend_halves l k c (by simpa using h)
          exact ⟨fun h => by have := this.1 h; simp; omega, fun h => by omega⟩
      · next hp =>
        rw [if_neg hp]
        match k with
        | 0 =>
          simp at h
          subst h
          exact ⟨fun e => by simp [emptyC, emptyA, mkCl] at e, fun e => by simp [emptyC, emptyA, mkCl] at e⟩
        | k + 1 =>
          have := mend_halves (e :: l) k c (by simpa using h)
          exact ⟨fun h => by have := this.1 h; simp; omega, fun h => by omega⟩
theorem CrO.more {w : World} {base g cap : Nat} {l : List Cl} (h : CrO w base g cap l) {i : Nat} (hi : i < l.length) (m : ByteArray) :
    CrO (w.setCell ⟨g, i * 8 + 1, none⟩ (.string m)) base g cap (l.modify i (withMore m)) := by
  have h1 := owns_set1 h (i * 8 + 1) (.string m)
  have hc : l[i]? = some l[i] := List.getElem?_eq_getElem hi
  rw [flat_set1 encCl_len l i l[i] (withMore m l[i]) 1 (.string m) hc (by decide) rfl] at h1
  unfold CrO
  rw [List.length_modify, show l.modify i (withMore m) = l.set i (withMore m l[i]) from by
    haveI : Inhabited Cl := ⟨zeroC⟩
    rw [List.modify_eq_set]; simp [hc]]
  exact h1
end Go.Proofs.YtaefcahblmopfaaGreatDoor
namespace Go.Proofs.YtaefcahblmopfaaGreatDoor
open Go.RowKit
theorem putB_size (r : Int) : (putB r).size ≤ 32 := by
  unfold putB
  split
  · split
    · exact (by decide : 1 ≤ 32)
    split
    · exact (by decide : 2 ≤ 32)
    split
    · exact (by decide : 3 ≤ 32)
    · exact (by decide : 4 ≤ 32)
  · exact Nat.zero_le _
theorem CrO.holdMore {w : World} {base g cap : Nat} {l : List Cl} (h : CrO w base g cap l) {i : Nat} {c : Cl} (hc : l[i]? = some c) : w.cell? ⟨g, i * 8 + 1, none⟩ = some (.string c.more) ∧ w.frozen? ⟨g, i * 8 + 1, none⟩ = false :=
  owns_hold h (i := i * 8 + 1) (by rw [flat_at2 encCl_len l i c 1 hc (by decide)]; rfl)
theorem CrO.len {w : World} {base g cap : Nat} {l : List Cl} {n : Nat} (h : CrO w base g cap l) (hn : l.length = n) : w.ownsRow base 65 8 (.slice (some ⟨g, 0, none⟩) n cap) n (flat encCl l) := by subst hn; exact h
set_option maxRecDepth 100000 in
set_option maxHeartbeats 3200000 in
theorem mark1_any (base g cap : Nat) (o : List Cl) (bx br : Nat) (x r : Int) (w : World) (h : CrO w base g cap o) (hz : o.length ≤ 10000) (hx : w.cell? ⟨bx, 0, none⟩ = some (.int .i64 x)) (hr : w.cell? ⟨br, 0, none⟩ = some (.int .i32 r)) (hb1 : bx < base) (hb2 : br < base)
    (hM : ∀ c ∈ o, c.more.size ≤ 32) (hH : ∀ (k : Nat) (c : Cl), o[k]? = some c → (c.half = 1 → k + 1 < o.length) ∧ (c.half = 2 → 1 ≤ k)) :
    Calls Tryz.prog 378 #[.slice (some ⟨g, 0, none⟩) o.length cap, .pointer (some ⟨bx, 0, none⟩), .pointer (some ⟨br, 0, none⟩)] w (MendPost base g cap (markO o x r) w) := by
  have HW := Lib.hid (fun w => widOf_any r w)
  have HU := Lib.hid (fun w => uput_any r w)
  have H := Lib.hid h
  have hgb := h.lt
  have HX := Lib.hid hx
  have HR := Lib.hid hr
  by_cases hx0 : x < 0
  · have HV := Lib.hid (show markO o x r = o from by
      unfold markO
      split
      · rfl
      · rw [if_pos (Or.inl hx0)])
    clear h hH hM
    go_enter Tryz.func378, Tryz.ntmps378
    go_wp2
    go_end0
    rw [HV.out]
    exact H.out.mend_post
  obtain ⟨k, rfl⟩ : ∃ k : Nat, x = (k : Int) := ⟨x.toNat, by omega⟩
  by_cases hxl : (o.length : Int) ≤ (k : Int)
  · have HV := Lib.hid (show markO o k r = o from by unfold markO; rw [Int.toNat_natCast, List.getElem?_eq_none (by omega)])
    clear h hH hM
    go_enter Tryz.func378, Tryz.ntmps378
    go_wp2
    go_end0
    rw [HV.out]
    exact H.out.mend_post
  have hkl : k < o.length := by omega
  have hklI : (k : Int) < (o.length : Int) := by omega
  obtain ⟨c, hc⟩ : ∃ c, o[k]? = some c := ⟨o[k], List.getElem?_eq_getElem hkl⟩
  have HRG := Lib.hid (h.range hc)
  have q0 : w.cell? ⟨g, k * 8, none⟩ = some (.int .i32 c.r) := HRG.out 0 _ rfl
  have HV0 : Hid (markO o k r = if (k : Int) < 0 ∨ c.r = 0 ∨ widOf r ≠ 0 ∨ 32 < (c.more ++ putB r).size then o else (if c.half = 1 then o.modify (k + 1) (withMore (c.more ++ putB r)) else if c.half = 2 then o.modify (k - 1) (withMore (c.more ++ putB r)) else o).modify k (withMore (c.more ++ putB r))) := Lib.hid (by unfold markO; rw [Int.toNat_natCast, hc])
  have HH := Lib.hid (hH k c hc)
  have hm32 : c.more.size ≤ 32 := hM c (List.mem_of_getElem? hc)
  have hp32 : (putB r).size ≤ 32 := putB_size r
  generalize markO o k r = RES at HV0
  have HC := Lib.hid hc
  clear hH hM h hc
  by_cases hr0 : c.r = 0
  · have hr0b : (c.r == 0) = true := beq_iff_eq.2 hr0
    go_enter Tryz.func378, Tryz.ntmps378
    go_wp2
    go_end0
    rw [HV0.out, if_pos (.inr (.inl hr0))]
    exact H.out.mend_post
  have hr0b : (c.r == 0) = false := beq_eq_false_iff_ne.2 hr0
  have HC0 := Lib.hid hr0
  generalize hwd : widOf r = wd at HW HV0
  by_cases hw0 : wd = 0
  rotate_left
  · have hw0b : (wd == 0) = false := beq_eq_false_iff_ne.2 hw0
    clear hwd
    go_enter Tryz.func378, Tryz.ntmps378
    go_wp2_with (go_at_call 162; refine (HW.out _).mono ?_; rintro e w1 ⟨rfl, hb⟩; have HB := Lib.hid hb; clear hb)
    go_end0
    rw [HV0.out, if_pos (.inr (.inr (.inl hw0)))]
    exact ⟨rfl, H.out.below HB.out, Mod.of_below HB.out⟩
  subst hw0
  clear hwd
  generalize putB r = pr at HU HV0 hp32
  obtain ⟨m, hm⟩ : ∃ m, c.more ++ pr = m := ⟨_, rfl⟩
  rw [hm] at HV0
  have hsz : ¬ 9223372036854775807 < c.more.size + pr.size := by omega
  clear hm32 hp32
  go_enter Tryz.func378, Tryz.ntmps378
  go_upto_region 1 with (go_at_call 162; refine (HW.out _).mono ?_; rintro e w1 ⟨rfl, hb⟩; have HB := Lib.hid hb; have x1 := holda hb HX.out; have r1 := holda hb HR.out; have m1 : w1.cell? ⟨g, k * 8 + 1, none⟩ = some (.string c.more) := range_below HRG.out hb 1 _ rfl; clear hx hr hb q0)
  clear hx0 hxl hr0 hr0b
  refine wp_region_u 8 (fun w' => Below w1.heap.size w1 w' ∧ w'.cell? ⟨bx, 0, none⟩ = some (.int .i64 k) ∧ w'.cell? ⟨br, 0, none⟩ = some (.int .i32 r) ∧ w'.cell? ⟨g, k * 8 + 1, none⟩ = some (.string c.more)) (by kernel_rfl) (by kernel_rfl) ?_ ?_
  · exact ⟨(Below.refl _ _).drew, x1, r1, m1⟩
  simp only [List.take_succ_cons, List.take_zero, List.drop_succ_cons, List.drop_zero]
  repeat (
    (first
     | refine seqU_skip (by rfl) ?_
     | (refine seqU_call 102 #[.int .i32 r] (.string pr) (by rfl) ?_ (fun w' hS => (HU.out w').mono (fun e w'' h => ⟨h.1, below_tail hS.1 h.2, holda h.2 hS.2.1, holda h.2 hS.2.2.1, holda h.2 hS.2.2.2⟩)) ?_; (focus (intro w2; go_simp; done)))
     | (refine seqU_val ?_ (by rfl) ?_ ?_; rotate_left; (focus (intro w' hS; obtain ⟨_, _, _, _⟩ := hS; go_simp; first | done | with_reducible rfl))))
    simp only [Act.put, List.setIfInBounds_toArray, List.set_cons_zero, List.set_cons_succ])
  refine seqU_nil (fun w' hS => ?_)
  have HB2 := Lib.hid (below_tail HB.out hS.1)
  have x2 := hS.2.1
  have h2 : w'.cell? ⟨g, k * 8 + 2, none⟩ = some (.int .i64 c.half) := range_below HRG.out HB2.out 2 _ rfl
  clear hS x1 r1 m1
  have HO := Lib.hid (H.out.below HB2.out)
  clear HRG H
  have HM := Lib.hid hm
  have wv := Mod.of_below (X := [g]) HB2.out
  have HMB := Lib.hid wv
  clear wv hm
  by_cases hbig : 32 < m.size
  · have hbI : (32 : Int) < (m.size : Int) := by omega
    go_wp2
    go_end0
    rw [HV0.out, if_pos (.inr (.inr (.inr hbig)))]
    exact ⟨rfl, HO.out, HMB.out⟩
  have hbI : ¬ (32 : Int) < (m.size : Int) := by omega
  have HNB := Lib.hid hbig
  clear hbig hsz
  obtain ⟨km, hkm⟩ := HO.out.holdMore (i := k) (c := c) HC.out
  by_cases h1 : c.half = 1
  · have hj1 := HH.out.1 h1
    obtain ⟨j, hj⟩ : ∃ j : Nat, j = k + 1 := ⟨_, rfl⟩
    have HJ := Lib.hid hj
    have hjI : (k : Int) + 1 = (j : Int) := by omega
    have hwj : IntKind.i64.wrap (j : Int) = (j : Int) := IntWalk.i64_in _ (by omega)
    have hjl : (j : Int) < (o.length : Int) := by omega
    have hjN : j < o.length := by omega
    obtain ⟨d, hd⟩ : ∃ d, o[j]? = some d := ⟨o[j], List.getElem?_eq_getElem hjN⟩
    obtain ⟨dm, hdm⟩ := HO.out.holdMore hd
    have h1b : (c.half == 1) = true := beq_iff_eq.2 h1
    clear hd hj km hkm
    rw [h1] at h2
    go_upto_region 8 with fail
    have HO2 := Lib.hid (HO.out.more hjN m)
    have HM2 := Lib.hid (HMB.out.setCell (a := ⟨g, j * 8 + 1, none⟩) (.inl (by simp)) (.string m))
    have X2 := Lib.hid (HM2.out.cell (by simp; omega) HX.out)
    have HC2 : Hid ((o.modify j (withMore m))[k]? = some c) := Lib.hid (by rw [List.getElem?_modify, HC.out]; have := HJ.out; simp [show j ≠ k by omega])
    generalize World.setCell _ _ _ = W2 at HO2 HM2 X2 ⊢
    obtain ⟨em, hem⟩ := HO2.out.holdMore HC2.out
    have x3 := X2.out
    clear x2 h2 dm hdm
    go_wp2
    go_end0
    rw [HV0.out, if_neg (by have := HNB.out; have := HC0.out; simp; omega), if_pos h1, ← HJ.out]
    exact ⟨rfl, HO2.out.more (by rw [List.length_modify]; exact hkl) m |>.len (by simp), HM2.out.setCell (a := ⟨g, k * 8 + 1, none⟩) (.inl (by simp)) (.string m)⟩
  have h1b : (c.half == 1) = false := beq_eq_false_iff_ne.2 h1
  by_cases h22 : c.half = 2
  · have hj1 := HH.out.2 h22
    obtain ⟨j, hj⟩ : ∃ j : Nat, j = k - 1 := ⟨_, rfl⟩
    have HJ := Lib.hid hj
    have hjI : (k : Int) - 1 = (j : Int) := by omega
    have hjS : k - 1 = j := hj.symm
    have hwj : IntKind.i64.wrap (j : Int) = (j : Int) := IntWalk.i64_in _ (by omega)
    have hjl : (j : Int) < (o.length : Int) := by omega
    have hjN : j < o.length := by omega
    obtain ⟨d, hd⟩ : ∃ d, o[j]? = some d := ⟨o[j], List.getElem?_eq_getElem hjN⟩
    obtain ⟨dm, hdm⟩ := HO.out.holdMore hd
    have h2b : (c.half == 2) = true := beq_iff_eq.2 h22
    clear hd hj km hkm
    rw [h22] at h2
    go_upto_region 8 with fail
    have HO2 := Lib.hid (HO.out.more hjN m)
    have HM2 := Lib.hid (HMB.out.setCell (a := ⟨g, j * 8 + 1, none⟩) (.inl (by simp)) (.string m))
    have X2 := Lib.hid (HM2.out.cell (by simp; omega) HX.out)
    have HC2 : Hid ((o.modify j (withMore m))[k]? = some c) := Lib.hid (by rw [List.getElem?_modify, HC.out]; have := HJ.out; simp [show j ≠ k by omega])
    generalize World.setCell _ _ _ = W2 at HO2 HM2 X2 ⊢
    obtain ⟨em, hem⟩ := HO2.out.holdMore HC2.out
    have x3 := X2.out
    clear x2 h2 dm hdm
    go_wp2
    go_end0
    rw [HV0.out, if_neg (by have := HNB.out; have := HC0.out; simp; omega), if_neg h1, if_pos h22, ← HJ.out]
    exact ⟨rfl, HO2.out.more (by rw [List.length_modify]; exact hkl) m |>.len (by simp), HM2.out.setCell (a := ⟨g, k * 8 + 1, none⟩) (.inl (by simp)) (.string m)⟩
  have h2b : (c.half == 2) = false := beq_eq_false_iff_ne.2 h22
  go_wp2
  go_end0
  rw [HV0.out, if_neg (by have := HNB.out; have := HC0.out; simp; omega), if_neg h1, if_neg h22]
  exact ⟨rfl, HO.out.more hkl m, HMB.out.setCell (a := ⟨g, k * 8 + 1, none⟩) (.inl (by simp)) (.string m)⟩
end Go.Proofs.YtaefcahblmopfaaGreatDoor
namespace Go.Proofs.YtaefcahblmopfaaGreatDoor
open Go.RowKit
/-- Cells with no more than 32 bytes of marks each. -/
def Fine (l : List Cl) : Prop := ∀ c ∈ l, c.more.size ≤ 32
theorem fine_empty (c : Cl) : (emptyC c).more.size ≤ 32 := Nat.zero_le _
theorem Fine.mend : ∀ {l : List Cl}, Fine l → Fine (mendL l)
  | [], h => h
  | [c], h => by
    rw [mendL_one]
    split
    · exact h
    · intro d hd; rw [List.mem_singleton.1 hd]; exact fine_empty c
  | c :: d :: l, h => by
    rw [mendL_cons]
    have hc := h c (by simp)
    have hd := h d (by simp)
    have h1 : Fine (d :: l) := fun x hx => h x (by simp [List.mem_cons.1 hx])
    have h2 : Fine l := fun x hx => h x (by simp [hx])
    have i1 := Fine.mend h1
    have i2 := Fine.mend h2
    split
    · intro x hx
      rcases List.mem_cons.1 hx with rfl | hx
      · exact hc
      · exact i1 x hx
    split
    · intro x hx
      rcases List.mem_cons.1 hx with rfl | hx
      · exact hc
      rcases List.mem_cons.1 hx with rfl | hx
      · exact hd
      · exact i2 x hx
    · intro x hx
      rcases List.mem_cons.1 hx with rfl | hx
      · exact fine_empty c
      · exact i1 x hx
theorem Fine.set {l : List Cl} (h : Fine l) (i : Nat) {c : Cl} (hc : c.more.size ≤ 32) : Fine (l.set i c) := fun x hx => by
  rcases List.mem_or_eq_of_mem_set hx with hx | rfl
  · exact h x hx
  · exact hc
theorem Fine.append {l m : List Cl} (h : Fine l) (h2 : Fine m) : Fine (l ++ m) := fun x hx => by
  rcases List.mem_append.1 hx with hx | hx
  · exact h x hx
  · exact h2 x hx
theorem Fine.take {l : List Cl} (h : Fine l) (n : Nat) : Fine (l.take n) := fun x hx => h x (List.mem_of_mem_take hx)
theorem Fine.drop {l : List Cl} (h : Fine l) (n : Nat) : Fine (l.drop n) := fun x hx => h x (List.mem_of_mem_drop hx)
theorem fine_rep (n : Nat) (b : Col) : Fine (List.replicate n (blankC b)) := fun x hx => by rw [(List.mem_replicate.1 hx).2]; exact Nat.zero_le _
theorem Fine.wipe {l : List Cl} (h : Fine l) (off n : Nat) (b : Col) : Fine (wipeO l off n b) := ((h.take _).append (fine_rep _ _)).append (h.drop _)
theorem Fine.put {l : List Cl} (h : Fine l) (x r : Int) (a : Atr) : Fine (putL l x r a) := by
  rw [← putL_O]
  refine Fine.mend ?_
  unfold putO
  have hz : ∀ hf, (mkCl r ByteArray.empty hf a).more.size ≤ 32 := fun _ => Nat.zero_le _
  split
  · exact h.mend.set _ (hz _)
  split
  · exact (h.mend.set _ (hz _)).set _ (hz _)
  · exact h.mend
theorem Fine.close {l : List Cl} (h : Fine l) : Fine (closeL l) := (h.mend.set _ (show padC.more.size ≤ 32 from Nat.zero_le _)).mend
theorem Fine.insert {l : List Cl} (h : Fine l) (x n : Int) (b : Col) : Fine (insertL l x n b) := by
  rw [← insertL_O]
  refine Fine.mend ?_
  unfold insertO
  split
  · exact h.mend
  · exact ((h.mend.take _).append ((h.mend.drop _).take _)).wipe _ _ _
theorem mem_modify' {α : Type} {f : α → α} {y : α} {l : List α} {i : Nat} (h : y ∈ l.modify i f) : y ∈ l ∨ ∃ x, y = f x := by
  rcases mem_modify h with h | ⟨x, -, e⟩
  · exact .inl h
  · exact .inr ⟨x, e⟩
theorem Fine.mod {l : List Cl} (h : Fine l) (i : Nat) {m : ByteArray} (hm : m.size ≤ 32) : Fine (l.modify i (withMore m)) := fun x hx => by
  rcases mem_modify' hx with hx | ⟨y, rfl⟩
  · exact h x hx
  · exact hm
theorem Fine.mark {l : List Cl} (h : Fine l) (x r : Int) : Fine (markL l x r) := by
  rw [← markL_O]
  refine Fine.mend ?_
  unfold markO
  split
  · exact h.mend
  · split
    · exact h.mend
    · next hc =>
      have hm := Nat.not_lt.1 (fun hh => hc (.inr (.inr (.inr hh))))
      simp only []
      refine Fine.mod ?_ _ hm
      split
      · exact h.mend.mod _ hm
      split
      · exact h.mend.mod _ hm
      · exact h.mend
set_option maxRecDepth 100000 in
set_option maxHeartbeats 3200000 in
theorem cMark_any (A : Option Addr) (l : List Cl) (ca : Nat) (x r : Int) (w : World) (hl : GrAt encCl 8 w A l) (h0 : 0 < l.length) (hz : l.length ≤ 10000) (hf : Fine l) :
    Calls Tryz.prog 340 #[.slice A l.length ca, .int .i64 x, .int .i32 r] w (WithPost (markL l x r) w) := by
  have hb0 : Below w.heap.size w ((w.alloc (.cells #[.int .i64 x] 3)).alloc (.cells #[.int .i32 r] 21)) := below_allocs (below_allocs (Below.refl w.heap.size w) _) _
  have hp0 : ((w.alloc (.cells #[.int .i64 x] 3)).alloc (.cells #[.int .i32 r] 21)).heap[w.heap.size]? = some (.cells #[.int .i64 x] 3 (0, 0)) := hp_old (hp_new rfl)
  have hp1 : ((w.alloc (.cells #[.int .i64 x] 3)).alloc (.cells #[.int .i32 r] 21)).heap[w.heap.size + 1]? = some (.cells #[.int .i32 r] 21 (0, 0)) := hp_new (by simp)
  have HB0 := Lib.hid hb0
  have HW := Lib.hid (cwith_any A l ca 378 #[.pointer (some ⟨w.heap.size, 0, none⟩), .pointer (some ⟨w.heap.size + 1, 0, none⟩)] (fun o => markO o x r) ((w.alloc (.cells #[.int .i64 x] 3)).alloc (.cells #[.int .i32 r] 21)) (hl.below hb0) h0 hz (by rw [markO_len, mendL_len]) (fun args w => by kernel_rfl) (fun g cap w' hc hb => by
    have := mark1_any _ g cap (mendL l) _ _ x r w' hc (by rw [mendL_len]; exact hz) (holda hb (range_box hp0 0 _ rfl)) (holda hb (range_box hp1 0 _ rfl)) (by simp <;> omega) (by simp <;> omega) hf.mend (fun k c hk => mend_halves l k c hk)
    rwa [mendL_len] at this))
  have HL := Lib.hid (markL_O l x r)
  rw [HL.out] at HW
  clear hl hb0 hp0 hp1
  go_enter Tryz.func340, Tryz.ntmps340
  go_wp2_with (go_at_call 104; refine HW.out.mono ?_; intro e w1 hp; obtain ⟨g, cap, rfl, hc, hb⟩ := WithPost.rebase HB0.out hp; have HC := Lib.hid hc; clear hc hp)
  go_ret
  exact ⟨g, cap, rfl, HC.out, hb⟩
end Go.Proofs.YtaefcahblmopfaaGreatDoor
