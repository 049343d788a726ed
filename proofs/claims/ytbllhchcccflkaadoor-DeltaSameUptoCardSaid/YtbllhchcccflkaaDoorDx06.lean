/- Joined by a tool of this claim out of smaller texts. Conditions: as stated. -/
import Derived.Test.YtbllhchcccflkaaDoorDx05
set_option linter.unusedVariables false
set_option linter.unusedSimpArgs false
namespace Go.Proofs.YtbllhchcccflkaaDoor
open Go.RowKit
def lowT (n : Nat) : Int := if n = 2 then 192 else if n = 3 then 224 else 240
def limT (n : Nat) : Int := if n = 2 then 32 else if n = 3 then 16 else 8
def numL : Int → List Int → Int
  | r, [] => r
  | r, y :: ys => if y < 128 ∨ 191 < y then -1 else numL (64 * r + y - 128) ys
/-- What bytes say. -/
def numB (xs : List Int) : Int :=
  if xs.length = 0 ∨ 4 < xs.length then -1
  else if xs.length = 1 then xs.headD 0
  else if xs.headD 0 - lowT xs.length < 0 ∨ limT xs.length ≤ xs.headD 0 - lowT xs.length then -1
  else numL (xs.headD 0 - lowT xs.length) (xs.drop 1)
def capR (k : Nat) : Int := if k = 1 then 32 else if k = 2 then 2048 else if k = 3 then 131072 else 8388608
theorem numL_range (ys : List Int) : ∀ (r : Int) (k : Nat), 1 ≤ k → k + ys.length ≤ 4 → 0 ≤ r → r < capR k → -1 ≤ numL r ys ∧ numL r ys < 8388608 := by
  induction ys with
  | nil =>
    intro r k h1 h2 h3 h4
    simp only [numL]
    unfold capR at h4
    refine ⟨by omega, ?_⟩
    split at h4
    · omega
    · split at h4
      · omega
      · split at h4 <;> omega
  | cons y ys ih =>
    intro r k h1 h2 h3 h4
    simp only [numL]
    rw [List.length_cons] at h2
    split
    · omega
    · refine ih _ (k + 1) (by omega) (by omega) (by omega) ?_
      unfold capR at h4 ⊢
      obtain rfl | rfl | rfl : k = 1 ∨ k = 2 ∨ k = 3 := by omega
      all_goals
        simp at h4 ⊢
        omega
theorem numB_range (xs : List Int) (h : ∀ x ∈ xs, 0 ≤ x ∧ x < 256) : -1 ≤ numB xs ∧ numB xs < 8388608 := by
  unfold numB
  split
  · omega
  · split
    · have hx : xs.headD 0 = 0 ∨ xs.headD 0 ∈ xs := by cases xs <;> simp
      rcases hx with hx | hx
      · omega
      · have := h _ hx; omega
    · split
      · omega
      · refine numL_range _ _ 1 (Nat.le_refl _) (by rw [List.length_drop]; omega) (by omega) ?_
        unfold capR
        rw [if_pos rfl]
        have : limT xs.length ≤ 32 := by unfold limT; split <;> (try split) <;> omega
        omega
/-- The bytes that a slice shows. -/
def BsS (w : World) (g off : Nat) (xs : List Int) : Prop := ∀ i x, xs[i]? = some x → w.cell? ⟨g, off + i, none⟩ = some (.int .u8 x)
theorem BsS.below {w w' : World} {g off : Nat} {xs : List Int} (h : BsS w g off xs) (hb : Below w.heap.size w w') : BsS w' g off xs := fun i x hx => holda hb (h i x hx)
theorem BsS.at_ {w : World} {g off : Nat} {xs : List Int} (h : BsS w g off xs) {i : Nat} (hi : i < xs.length) : w.cell? ⟨g, off + i, none⟩ = some (.int .u8 xs[i]) := h i _ (List.getElem?_eq_getElem hi)
set_option maxRecDepth 100000 in
set_option maxHeartbeats 3200000 in
theorem rnumber_any (g off ca : Nat) (xs : List Int) (w : World) (hx : ∀ x ∈ xs, 0 ≤ x ∧ x < 256) (h0 : 0 < xs.length) (h4 : xs.length ≤ 4) (hb : BsS w g off xs) :
    Calls Tryd.prog 62 #[.slice (some ⟨g, off, none⟩) xs.length ca] w fun e w' => e = .returned (.int .i32 (numB xs)) ∧ Below w.heap.size w w' := by
  have hc0 := hb.at_ h0
  have hh : xs.headD 0 = xs[0] := by cases xs <;> first | rfl | (simp at h0)
  have hr0 := hx _ (List.getElem_mem h0)
  rw [Nat.add_zero] at hc0
  by_cases h1 : xs.length = 1
  · have hv : numB xs = xs[0] := by unfold numB; rw [if_neg (by omega), if_pos h1, hh]
    rw [hv, h1]
    generalize xs[0] = x0 at hc0 hr0
    have hw : IntKind.i32.wrap x0 = x0 := IntWalk.i32_in _ (by omega)
    clear hv hh
    go_enter Tryd.func62, Tryd.ntmps62
    go_wp2
    go_ret
    exact ⟨rfl, Below.refl _ _⟩
  · have hv : numB xs = if xs[0] - lowT xs.length < 0 ∨ limT xs.length ≤ xs[0] - lowT xs.length then -1 else numL (xs[0] - lowT xs.length) (xs.drop 1) := by unfold numB; rw [if_neg (by omega), if_neg h1, hh]
    obtain ⟨n, hn⟩ : ∃ n, n = xs.length := ⟨_, rfl⟩
    have HB : Hid (∀ i, i < n → ∃ x, w.cell? ⟨g, off + i, none⟩ = some (.int .u8 x) ∧ 0 ≤ x ∧ x < 256 ∧ xs.drop i = x :: xs.drop (i + 1)) := Lib.hid (fun i hi => ⟨_, hb.at_ (i := i) (by omega), (hx _ (List.getElem_mem _)).1, (hx _ (List.getElem_mem _)).2, List.drop_eq_getElem_cons (by omega)⟩)
    have HDN : Hid (xs.drop n = []) := Lib.hid (by rw [hn]; exact List.drop_length)
    clear hx hb hh
    generalize xs[0] = x0 at hc0 hr0 hv
    rw [← hn] at hv h0 h4 h1 ⊢
    clear hn
    have hlen : n = 2 ∨ n = 3 ∨ n = 4 := by omega
    obtain ⟨lo, hlo⟩ : ∃ lo, lowT n = lo := ⟨_, rfl⟩
    obtain ⟨lm, hlm⟩ : ∃ lm, limT n = lm := ⟨_, rfl⟩
    rw [hlo, hlm] at hv
    have hlc : (n = 2 ∧ lo = 192 ∧ lm = 32) ∨ (n = 3 ∧ lo = 224 ∧ lm = 16) ∨ (n = 4 ∧ lo = 240 ∧ lm = 8) := by
      subst hlo hlm
      rcases hlen with rfl | rfl | rfl
      · exact .inl ⟨rfl, rfl, rfl⟩
      · exact .inr (.inl ⟨rfl, rfl, rfl⟩)
      · exact .inr (.inr ⟨rfl, rfl, rfl⟩)
    clear hlo hlm
    have hw1 : IntKind.i32.wrap x0 = x0 := IntWalk.i32_in _ (by omega)
    have hw2 : IntKind.i32.wrap (x0 - lo) = x0 - lo := IntWalk.i32_in _ (by omega)
    have hg := lt_of_cell hc0
    have hgn : ¬ w.heap.size = g := by omega
    have hgn2 : ¬ g = w.heap.size := by omega
    by_cases hA : x0 - lo < 0
    · rw [if_pos (.inl hA)] at hv
      rw [hv]
      clear hv HB HDN hlen
      rcases hlc with ⟨rfl, rfl, rfl⟩ | ⟨rfl, rfl, rfl⟩ | ⟨rfl, rfl, rfl⟩
      all_goals
        go_enter Tryd.func62, Tryd.ntmps62
        go_wp2
        go_ret
        exact ⟨rfl, by repeat (first | exact Below.refl _ _ | refine below_allocs ?_ _)⟩
    · by_cases hC : lm ≤ x0 - lo
      · rw [if_pos (.inr hC)] at hv
        rw [hv]
        clear hv HB HDN hlen
        rcases hlc with ⟨rfl, rfl, rfl⟩ | ⟨rfl, rfl, rfl⟩ | ⟨rfl, rfl, rfl⟩
        all_goals
          go_enter Tryd.func62, Tryd.ntmps62
          go_wp2
          go_ret
          exact ⟨rfl, by repeat (first | exact Below.refl _ _ | refine below_allocs ?_ _)⟩
      · rw [if_neg (by omega)] at hv
        have HV := Lib.hid hv
        clear hv hlen
        obtain ⟨V, hV⟩ : ∃ V, numB xs = V := ⟨_, rfl⟩
        rw [hV] at HV ⊢
        clear hV
        have hA' : 0 ≤ x0 - lo := by omega
        have hC' : x0 - lo < lm := by omega
        have hfin : Hid (∀ (W1 W2 : World) (o1 o2 : Obj), W1 = (w.alloc o1).alloc o2 → Below w.heap.size w W1) := Lib.hid (fun W1 _ o1 o2 h => h ▸ below_allocs (below_allocs (Below.refl _ _) _) _)
        rcases hlc with ⟨rfl, rfl, rfl⟩ | ⟨rfl, rfl, rfl⟩ | ⟨rfl, rfl, rfl⟩
        · go_enter Tryd.func62, Tryd.ntmps62
          go_wp2
          go_loopw [6, 5] (fun i r wr => ∃ (k : Nat) (rv : Int), 1 ≤ k ∧ k ≤ 2 ∧ i = .int .i64 k ∧ r = .int .i32 rv ∧ 0 ≤ rv ∧ rv < capR k ∧ Hid (V = numL rv (xs.drop k)) ∧ Below w.heap.size w wr) (fun i _ _ => 2 - (intOf i).toNat)
          case atStart => exact ⟨1, _, Nat.le_refl _, by omega, rfl, rfl, hA', by unfold capR; rw [if_pos rfl]; omega, HV, hfin.out _ w _ _ rfl⟩
          case round =>
            obtain ⟨k, rv, hk1, hk2, rfl, rfl, hv0, hv1, HVk, hB⟩ := hrel
            by_cases hlt : k < 2
            · obtain ⟨x, hxc, hx0, hx1, hxd⟩ := HB.out k hlt
              have hc := holda hB hxc
              have HXD := Lib.hid hxd
              clear hxc hxd
              have hcap : rv < 131072 ∧ 64 * rv + x < 8388864 ∧ 64 * rv + 64 ≤ capR (k + 1) := by
                unfold capR at hv1 ⊢
                obtain rfl | rfl | rfl : k = 1 ∨ k = 2 ∨ k = 3 := by omega
                all_goals
                  simp at hv1 ⊢
                  omega
              obtain ⟨hq1, hq2, hq3⟩ := hcap
              have z1 : IntKind.i32.wrap (64 * rv) = 64 * rv := IntWalk.i32_in _ (by omega)
              have z2 : IntKind.i32.wrap x = x := IntWalk.i32_in _ (by omega)
              have z3 : IntKind.i32.wrap (64 * rv + x) = 64 * rv + x := IntWalk.i32_in _ (by omega)
              have z4 : IntKind.i32.wrap (64 * rv + x - 128) = 64 * rv + x - 128 := IntWalk.i32_in _ (by omega)
              by_cases hl : x < 128 ∨ 191 < x
              · have hV : V = -1 := by rw [HVk.out, HXD.out]; simp only [numL]; rw [if_pos hl]
                have HVV := Lib.hid hV
                clear hV hq1 hq2 hq3
                rcases hl with hl | hl
                · go_wp2
                  go_ret
                  exact ⟨by rw [HVV.out]; rfl, hB⟩
                · have hl2 : ¬ x < 128 := by omega
                  go_wp2
                  go_ret
                  exact ⟨by rw [HVV.out]; rfl, hB⟩
              · have hl1 : ¬ x < 128 := by omega
                have hl2 : ¬ 191 < x := by omega
                have HN2 : Hid (V = numL (64 * rv + x - 128) (xs.drop (k + 1))) := Lib.hid (by rw [HVk.out, HXD.out]; simp only [numL]; rw [if_neg hl])
                clear hl
                go_wp2
                go_roundw
                case rel => exact ⟨k + 1, _, by omega, by omega, by go_num, rfl, by omega, by omega, HN2, hB⟩
                case measure => simp [intOf]; omega
            · obtain rfl : k = 2 := by omega
              go_wp2
              go_ret
              refine ⟨?_, hB⟩
              have := HVk.out
              rw [HDN.out] at this
              rw [this]
              rfl
        · go_enter Tryd.func62, Tryd.ntmps62
          go_wp2
          go_loopw [6, 5] (fun i r wr => ∃ (k : Nat) (rv : Int), 1 ≤ k ∧ k ≤ 3 ∧ i = .int .i64 k ∧ r = .int .i32 rv ∧ 0 ≤ rv ∧ rv < capR k ∧ Hid (V = numL rv (xs.drop k)) ∧ Below w.heap.size w wr) (fun i _ _ => 3 - (intOf i).toNat)
          case atStart => exact ⟨1, _, Nat.le_refl _, by omega, rfl, rfl, hA', by unfold capR; rw [if_pos rfl]; omega, HV, hfin.out _ w _ _ rfl⟩
          case round =>
            obtain ⟨k, rv, hk1, hk2, rfl, rfl, hv0, hv1, HVk, hB⟩ := hrel
            by_cases hlt : k < 3
            · obtain ⟨x, hxc, hx0, hx1, hxd⟩ := HB.out k hlt
              have hc := holda hB hxc
              have HXD := Lib.hid hxd
              clear hxc hxd
              have hcap : rv < 131072 ∧ 64 * rv + x < 8388864 ∧ 64 * rv + 64 ≤ capR (k + 1) := by
                unfold capR at hv1 ⊢
                obtain rfl | rfl | rfl : k = 1 ∨ k = 2 ∨ k = 3 := by omega
                all_goals
                  simp at hv1 ⊢
                  omega
              obtain ⟨hq1, hq2, hq3⟩ := hcap
              have z1 : IntKind.i32.wrap (64 * rv) = 64 * rv := IntWalk.i32_in _ (by omega)
              have z2 : IntKind.i32.wrap x = x := IntWalk.i32_in _ (by omega)
              have z3 : IntKind.i32.wrap (64 * rv + x) = 64 * rv + x := IntWalk.i32_in _ (by omega)
              have z4 : IntKind.i32.wrap (64 * rv + x - 128) = 64 * rv + x - 128 := IntWalk.i32_in _ (by omega)
              by_cases hl : x < 128 ∨ 191 < x
              · have hV : V = -1 := by rw [HVk.out, HXD.out]; simp only [numL]; rw [if_pos hl]
                have HVV := Lib.hid hV
                clear hV hq1 hq2 hq3
                rcases hl with hl | hl
                · go_wp2
                  go_ret
                  exact ⟨by rw [HVV.out]; rfl, hB⟩
                · have hl2 : ¬ x < 128 := by omega
                  go_wp2
                  go_ret
                  exact ⟨by rw [HVV.out]; rfl, hB⟩
              · have hl1 : ¬ x < 128 := by omega
                have hl2 : ¬ 191 < x := by omega
                have HN2 : Hid (V = numL (64 * rv + x - 128) (xs.drop (k + 1))) := Lib.hid (by rw [HVk.out, HXD.out]; simp only [numL]; rw [if_neg hl])
                clear hl
                go_wp2
                go_roundw
                case rel => exact ⟨k + 1, _, by omega, by omega, by go_num, rfl, by omega, by omega, HN2, hB⟩
                case measure => simp [intOf]; omega
            · obtain rfl : k = 3 := by omega
              go_wp2
              go_ret
              refine ⟨?_, hB⟩
              have := HVk.out
              rw [HDN.out] at this
              rw [this]
              rfl
        · go_enter Tryd.func62, Tryd.ntmps62
          go_wp2
          go_loopw [6, 5] (fun i r wr => ∃ (k : Nat) (rv : Int), 1 ≤ k ∧ k ≤ 4 ∧ i = .int .i64 k ∧ r = .int .i32 rv ∧ 0 ≤ rv ∧ rv < capR k ∧ Hid (V = numL rv (xs.drop k)) ∧ Below w.heap.size w wr) (fun i _ _ => 4 - (intOf i).toNat)
          case atStart => exact ⟨1, _, Nat.le_refl _, by omega, rfl, rfl, hA', by unfold capR; rw [if_pos rfl]; omega, HV, hfin.out _ w _ _ rfl⟩
          case round =>
            obtain ⟨k, rv, hk1, hk2, rfl, rfl, hv0, hv1, HVk, hB⟩ := hrel
            by_cases hlt : k < 4
            · obtain ⟨x, hxc, hx0, hx1, hxd⟩ := HB.out k hlt
              have hc := holda hB hxc
              have HXD := Lib.hid hxd
              clear hxc hxd
              have hcap : rv < 131072 ∧ 64 * rv + x < 8388864 ∧ 64 * rv + 64 ≤ capR (k + 1) := by
                unfold capR at hv1 ⊢
                obtain rfl | rfl | rfl : k = 1 ∨ k = 2 ∨ k = 3 := by omega
                all_goals
                  simp at hv1 ⊢
                  omega
              obtain ⟨hq1, hq2, hq3⟩ := hcap
              have z1 : IntKind.i32.wrap (64 * rv) = 64 * rv := IntWalk.i32_in _ (by omega)
              have z2 : IntKind.i32.wrap x = x := IntWalk.i32_in _ (by omega)
              have z3 : IntKind.i32.wrap (64 * rv + x) = 64 * rv + x := IntWalk.i32_in _ (by omega)
              have z4 : IntKind.i32.wrap (64 * rv + x - 128) = 64 * rv + x - 128 := IntWalk.i32_in _ (by omega)
              by_cases hl : x < 128 ∨ 191 < x
              · have hV : V = -1 := by rw [HVk.out, HXD.out]; simp only [numL]; rw [if_pos hl]
                have HVV := Lib.hid hV
                clear hV hq1 hq2 hq3
                rcases hl with hl | hl
                · go_wp2
                  go_ret
                  exact ⟨by rw [HVV.out]; rfl, hB⟩
                · have hl2 : ¬ x < 128 := by omega
                  go_wp2
                  go_ret
                  exact ⟨by rw [HVV.out]; rfl, hB⟩
              · have hl1 : ¬ x < 128 := by omega
                have hl2 : ¬ 191 < x := by omega
                have HN2 : Hid (V = numL (64 * rv + x - 128) (xs.drop (k + 1))) := Lib.hid (by rw [HVk.out, HXD.out]; simp only [numL]; rw [if_neg hl])
                clear hl
                go_wp2
                go_roundw
                case rel => exact ⟨k + 1, _, by omega, by omega, by go_num, rfl, by omega, by omega, HN2, hB⟩
                case measure => simp [intOf]; omega
            · obtain rfl : k = 4 := by omega
              go_wp2
              go_ret
              refine ⟨?_, hB⟩
              have := HVk.out
              rw [HDN.out] at this
              rw [this]
              rfl
end Go.Proofs.YtbllhchcccflkaaDoor

namespace Go.Proofs.YtbllhchcccflkaaDoor
open Go.RowKit
theorem conv_bs {w : World} {g off : Nat} {xs : List Int} (h : BsS w g off xs) (ca : Nat) : (convert 51 9 (.slice (some ⟨g, off, none⟩) xs.length ca)).run Tryd.prog w = .ok (.string (strOfNums xs)) w := by
  refine run_convert_bytes_arg w 51 5 Tryd.underlying51 Tryd.underlying5 g off xs.length ca xs rfl (fun i hi => ?_) 9 Tryd.underlying9
  rw [h.at_ hi, List.getD_eq_getElem?_getD, List.getElem?_eq_getElem hi]
  rfl
def PutV (b : ByteArray) (v : Value) (w : World) : Prop := ∃ ys, BytesAt w v ys ∧ strOfNums ys = b
theorem PutV.pers (b : ByteArray) (v : Value) : Pers (PutV b v) := fun w w' ⟨ys, h, e⟩ hb => ⟨ys, h.below hb, e⟩
theorem PutV.conv {b : ByteArray} {v : Value} {w : World} (h : PutV b v w) : (convert 51 9 v).run Tryd.prog w = .ok (.string b) w := by
  obtain ⟨ys, h, e⟩ := h
  rw [conv_bytes h, e]
def IsPost (xs : List Int) (w : World) (e : Ending) (w' : World) : Prop := ∃ t : Bool, e = .returned (.bool t) ∧ (t = true → 0 ≤ numB xs ∧ putB (numB xs) = strOfNums xs) ∧ Below w.heap.size w w'
set_option maxRecDepth 100000 in
set_option maxHeartbeats 3200000 in
theorem ris_any (g off ca : Nat) (xs : List Int) (w : World) (hx : ∀ x ∈ xs, 0 ≤ x ∧ x < 256) (h0 : 0 < xs.length) (h4 : xs.length ≤ 4) (hb : BsS w g off xs) :
    Calls Tryd.prog 61 #[.slice (some ⟨g, off, none⟩) xs.length ca] w (IsPost xs w) := by
  have HN := Lib.hid (rnumber_any g off ca xs w hx h0 h4 hb)
  have HX := Lib.hid hb
  have hrg := numB_range xs hx
  unfold IsPost
  obtain ⟨n, hn⟩ : ∃ n, n = xs.length := ⟨_, rfl⟩
  have HCV : Hid (∀ w', BsS w' g off xs → (convert 51 9 (.slice (some ⟨g, off, none⟩) n ca)).run Tryd.prog w' = .ok (.string (strOfNums xs)) w') := Lib.hid (fun w' h => by rw [hn]; exact conv_bs h ca)
  rw [← hn] at HN ⊢
  clear hx hb hn h0 h4
  generalize numB xs = v at HN hrg ⊢
  by_cases hv : v < 0
  · obtain rfl : v = -1 := by omega
    go_enter Tryd.func61, Tryd.ntmps61
    go_upto_region 2 with (go_at_call 62; (with_reducible refine HN.out.mono ?_); rintro e w1 ⟨rfl, hb1⟩)
    refine wp_region_n 8 (fun w' => Below w1.heap.size w1 w') (by kernel_rfl) (by kernel_rfl) ?_ ?_ ?_
    · exact fun w1 w2 hS hb => below_tail hS hb
    · exact (Below.refl _ _).drew
    refine AtN.go 0 ?_
    iterate 8 (refine AtC.take (o := ⟨_, _, _, _, _, _⟩) (v := ?_) (by kernel_rfl) rfl (by simp) (by kernel_rfl) (by kernel_rfl) ?_ ?_; rotate_left; (focus (first | (refine StabN.skip ?_; rfl) | (refine StabN.val (by rfl) ?_; intro w' hS; obtain hS0 := hS; go_simp; first | done | with_reducible rfl))); simp only [Act.put, List.setIfInBounds_toArray, List.set_cons_zero, List.set_cons_succ])
    refine AtC.back ?_
    refine AtN.done (by kernel_rfl) (fun w' hS => ?_)
    go_wp2
    go_ret
    exact ⟨_, rfl, fun h => by simp at h, below_tail hb1 hS⟩
  · have hv' : 0 ≤ v := by omega
    have HU := Lib.hid (fun w => rPutB_any v w)
    go_enter Tryd.func61, Tryd.ntmps61
    go_upto_region 2 with (go_at_call 62; (with_reducible refine HN.out.mono ?_); rintro e w1 ⟨rfl, hb1⟩)
    refine wp_region_n 8 (fun w' => Below w1.heap.size w1 w' ∧ BsS w' g off xs) (by kernel_rfl) (by kernel_rfl) ?_ ?_ ?_
    · exact fun w1 w2 hS hb => ⟨below_tail hS.1 hb, hS.2.below hb⟩
    · exact ⟨(Below.refl _ _).drew, HX.out.below ((below_tail hb1 (Below.refl _ _).drew))⟩
    refine AtN.go 0 ?_
    iterate 4 (refine AtC.take (o := ⟨_, _, _, _, _, _⟩) (v := ?_) (by kernel_rfl) rfl (by simp) (by kernel_rfl) (by kernel_rfl) ?_ ?_; rotate_left; (focus (first | exact StabN.skip (by rfl) | (refine StabN.val (by rfl) ?_; intro w' hS; obtain ⟨_, _⟩ := hS; go_simp; first | done | with_reducible rfl))); simp only [Act.put, List.setIfInBounds_toArray, List.set_cons_zero, List.set_cons_succ])
    refine AtC.back ?_
    refine AtN.take 6 (o := ⟨_, _, _, _, _, _⟩) (v := ?_) (by kernel_rfl) rfl (by simp) (by kernel_rfl) (by kernel_rfl) ?_ ?_; rotate_left
    · first | exact StabN.skip (by rfl) | (refine StabN.val (by rfl) ?_; intro w' hS; obtain ⟨_, _⟩ := hS; go_simp; first | done | with_reducible rfl)
    simp only [Act.put, List.setIfInBounds_toArray, List.set_cons_zero, List.set_cons_succ]
    refine AtN.take 7 (o := ⟨_, _, _, _, _, _⟩) (v := .string (strOfNums xs)) (by kernel_rfl) rfl (by simp) (by kernel_rfl) (by kernel_rfl) (StabN.val (by rfl) (fun w' hS => by have hcv := HCV.out w' hS.2; go_simp)) ?_
    simp only [Act.put, List.setIfInBounds_toArray, List.set_cons_zero, List.set_cons_succ]
    refine AtN.one 4 (o := ⟨_, _, _, _, _, _⟩) (fun _ => True) (PutV (putB v)) (by simp) (by kernel_rfl) rfl (PutV.pers _) (StabN.call 41 #[.int .i32 v] _ _ (by rfl) (by intro w'; go_simp; done) (fun w' hS => (HU.out w').mono (fun e w2 ⟨u, ys, he, hu, hy, hb⟩ => ⟨u, he, ⟨trivial, ys, hu, hy⟩, hb⟩))) ?_
    rintro U hU
    simp only [Act.put, List.setIfInBounds_toArray, List.set_cons_zero, List.set_cons_succ]
    refine AtN.take 5 (o := ⟨_, _, _, _, _, _⟩) (v := .string (putB v)) (by kernel_rfl) rfl (by simp) (by kernel_rfl) (by kernel_rfl) (StabN.val (by rfl) (fun w' hS => by have hcv := hS.2.conv; go_simp)) ?_
    simp only [Act.put, List.setIfInBounds_toArray, List.set_cons_zero, List.set_cons_succ]
    refine AtN.done (by kernel_rfl) (fun w' hS => ?_)
    go_wp2
    go_ret
    exact ⟨_, rfl, fun h => ⟨hv', WideShapes.bytes_inj (by rw [← ByteArray.toList_eq, ← ByteArray.toList_eq]; simpa using h)⟩, below_tail hb1 hS.1.1⟩
end Go.Proofs.YtbllhchcccflkaaDoor
