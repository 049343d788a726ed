/- Joined by a tool of this claim out of smaller texts. Conditions: as stated. -/
import Derived.Test.YtbllhchcccflkaaDoorDx11
import Derived.Deep.LoopGhost
import Derived.Deep.QuietTactic
import Derived.BigQuiet
import Derived.Deep.DeepCutAuto
set_option linter.unusedVariables false
set_option linter.unusedSimpArgs false
namespace Go.Proofs.YtbllhchcccflkaaDoor
open Go.RowKit
theorem rfits_any (r c : Nat) (w : World) : Calls Tryd.prog 11 #[.int .i64 r, .int .i64 c] w fun e w' => e = .returned (.bool (decide (0 < r ∧ r ≤ 1000 ∧ 1 < c ∧ c ≤ 1000))) ∧ w = w' := by
  by_cases h1 : 0 < r
  · by_cases h2 : r ≤ 1000
    · by_cases h3 : 1 < c
      · have h3' : (1 : Int) < c := by omega
        by_cases h4 : c ≤ 1000
        · have h4' : (c : Int) ≤ 1000 := by omega
          rw [decide_eq_true ⟨h1, h2, h3, h4⟩]
          go_enter Tryd.func11, Tryd.ntmps11
          go_wp2
          go_ret
          exact ⟨rfl, rfl⟩
        · have h4' : (1000 : Int) < c := by omega
          rw [decide_eq_false (fun h => h4 h.2.2.2)]
          go_enter Tryd.func11, Tryd.ntmps11
          go_wp2
          go_ret
          refine ⟨?_, rfl⟩
          simp
          omega
      · have h3' : (c : Int) ≤ 1 := by omega
        rw [decide_eq_false (fun h => h3 h.2.2.1)]
        go_enter Tryd.func11, Tryd.ntmps11
        go_wp2
        go_ret
        exact ⟨rfl, rfl⟩
    · have h2' : (1000 : Int) < r := by omega
      rw [decide_eq_false (fun h => h2 h.2.1)]
      go_enter Tryd.func11, Tryd.ntmps11
      go_wp2
      go_ret
      exact ⟨rfl, rfl⟩
  · obtain rfl : r = 0 := by omega
    rw [decide_eq_false (fun h => h1 h.1)]
    go_enter Tryd.func11, Tryd.ntmps11
    go_wp2
    go_ret
    exact ⟨rfl, rfl⟩
def RowOk (cols : Nat) (r : Rw) : Prop := r.cs.length = cols ∧ mendL r.cs = r.cs ∧ ∀ c ∈ r.cs, DrawOk c
def R28Post (l : List Rw) (w : World) (e : Ending) (w' : World) : Prop := ∃ t : Bool, e = .returned (.bool t) ∧ (t = true → ∃ cols, RowsOk l cols) ∧ Below w.heap.size w w'
theorem take_allR {P : Rw → Prop} {l : List Rw} {k : Nat} (h : ∀ c ∈ l.take k, P c) (hk : k < l.length) (hp : P l[k]) : ∀ c ∈ l.take (k + 1), P c := fun c hc => by
  rw [List.take_succ_eq_append_getElem hk] at hc
  rcases List.mem_append.1 hc with h' | h'
  · exact h c h'
  · rw [List.mem_singleton.1 h']; exact hp
set_option maxRecDepth 100000 in
set_option maxHeartbeats 6400000 in
theorem right28_any (A : Option Addr) (l : List Rw) (ca : Nat) (w : World) (hl : RwsAt w A l) (hz : l.length ≤ 400) (hmz : ∀ r ∈ l, ∀ c ∈ r.cs, c.more.size ≤ 1048576) :
    Calls Tryd.prog 5 #[.slice A l.length ca] w (R28Post l w) := by
  rcases Nat.eq_zero_or_pos l.length with h0 | h0
  · rw [h0]
    clear hl
    go_enter Tryd.func5, Tryd.ntmps5
    go_wp2
    go_ret
    exact ⟨_, rfl, fun h => by simp at h, Below.refl _ _⟩
  · have hn0 : ¬ (l.length : Int) = 0 := by omega
    have hbeq : ((l.length : Int) == 0) = false := beq_eq_false_iff_ne.2 hn0
    obtain ⟨b, off, rfl, hr⟩ := hl h0
    obtain ⟨⟨z0, -⟩, -, hzz⟩ := hr 0 _ (List.getElem?_eq_getElem h0)
    rw [Nat.zero_mul, Nat.add_zero] at z0
    have HR := Lib.hid hr
    have HMZ := Lib.hid hmz
    clear hl hr hmz
    obtain ⟨cols, hcols⟩ : ∃ n, n = l[0].cs.length := ⟨_, rfl⟩
    rw [← hcols] at z0 hzz
    obtain ⟨B0, hB0⟩ : ∃ B, B = l[0].A := ⟨_, rfl⟩
    obtain ⟨c0, hc0⟩ : ∃ B, B = l[0].cap := ⟨_, rfl⟩
    rw [← hB0, ← hc0] at z0
    clear hB0 hc0 hcols
    have HF := Lib.hid (fun w => rfits_any l.length cols w)
    by_cases hf : 0 < l.length ∧ l.length ≤ 1000 ∧ 1 < cols ∧ cols ≤ 1000
    rotate_left
    · rw [decide_eq_false hf] at HF
      clear hf
      go_enter Tryd.func5, Tryd.ntmps5
      go_wp2_with (go_at_call 11; (with_reducible refine (HF.out _).mono ?_); rintro e w1 ⟨rfl, rfl⟩)
      go_ret
      exact ⟨_, rfl, fun h => by simp at h, Below.refl _ _⟩
    rw [decide_eq_true hf] at HF
    obtain ⟨-, -, hf3, hf4⟩ := hf
    go_enter Tryd.func5, Tryd.ntmps5
    go_wp2_with (go_at_call 11; (with_reducible refine (HF.out _).mono ?_); rintro e w1 ⟨rfl, rfl⟩)
    go_loopw [3] (fun i wr => ∃ k : Nat, k ≤ l.length ∧ i = .int .i64 k ∧ (∀ r ∈ l.take k, RowOk cols r) ∧ Below w.heap.size w wr) (fun i _ => l.length - (intOf i).toNat)
    case atStart => exact ⟨0, Nat.zero_le _, rfl, by simp, Below.refl _ _⟩
    case round =>
      obtain ⟨k, hk, rfl, hok, hB⟩ := hrel
      have HOK := Lib.hid hok
      clear hok
      by_cases hlt : k < l.length
      · obtain ⟨⟨d0, d1⟩, hcl, hcz⟩ := (HR.out k _ (List.getElem?_eq_getElem hlt)).below hB
        have hmz := HMZ.out _ (List.getElem_mem hlt)
        have HT := Lib.hid (fun hp => take_allR (P := RowOk cols) HOK.out hlt hp)
        have z0' := holda hB z0
        generalize l[k] = r at d0 d1 hcl hcz hmz HT
        obtain ⟨B, cs, cap, cont⟩ := r
        simp only at d0 d1 hcl hcz hmz
        by_cases hlen : cs.length = cols
        rotate_left
        · have hli : ¬ (cs.length : Int) = (cols : Int) := by omega
          go_wp2
          go_ret
          exact ⟨_, rfl, fun h => by simp at h, hB⟩
        have HR7 := Lib.hid (fun w h => rright7_any B cs cap w h (by omega) (by omega) hmz)
        have HCL := Lib.hid hcl
        have HLEN := Lib.hid hlen
        rw [hlen] at d0 HR7
        clear hlen hcl hcz hmz
        go_wp2_with (go_at_call 12; (with_reducible refine (HR7.out _ HCL.out).mono ?_); rintro e w2 ⟨t, rfl, ht, hb2⟩; have HT2 := Lib.hid ht; have HB2 := Lib.hid (below_tail hB hb2); have HC2 := Lib.hid (HCL.out.below hb2); clear ht hb2; cases t)
        · go_ret
          exact ⟨_, rfl, fun h => by simp at h, HB2.out⟩
        · have HT3 : Hid (mendL cs = cs ∧ ∀ c ∈ cs, Ok7 c) := Lib.hid (HT2.out (by first | rfl | trivial))
          go_loopw [5] (fun i w5 => ∃ j : Nat, j ≤ cols ∧ i = .int .i64 j ∧ (∀ c ∈ cs.take j, DrawOk c) ∧ Below w.heap.size w w5 ∧ Below w2.heap.size w2 w5) (fun i _ => cols - (intOf i).toNat)
          case atStart => exact ⟨0, Nat.zero_le _, rfl, by simp, HB2.out, Below.refl _ _⟩
          case round =>
            obtain ⟨j, hj, rfl, hdr, hB5, hb5⟩ := hrel
            have HDR := Lib.hid hdr
            clear hdr
            by_cases hjl : j < cols
            · have hjc : j < cs.length := by have := HLEN.out; omega
              obtain ⟨b', off', c, rfl, hcg, hca⟩ := HC2.out.at_ hjc
              obtain ⟨hcl, hce⟩ := List.getElem?_eq_some_iff.1 hcg
              have h7 := HT3.out.2 c (List.mem_of_getElem? hcg)
              have HTC := Lib.hid (fun hp => take_all (P := DrawOk) HDR.out hcl (by rw [hce]; exact hp))
              have hca := hca.below hb5
              clear hcg hcl hce
              obtain ⟨r0, r1, r2, r3, r4, r5, r6, r7⟩ := hca
              obtain ⟨cr, cm, ch, c3, c4, c5, c6, c7⟩ := c
              simp only at r0 r1 r2 r3 r4 r5 r6 r7
              have HA := Lib.hid (fun w => rRight5_any c3 c4 c5 c6 c7 w)
              have HBX := Lib.hid (below_allocs hB5 (.cells #[.int .i64 c3, .int .i64 c4, .int .i64 c5, .int .i64 c6, .int .i64 c7] 42))
              have HBY := Lib.hid (below_allocs hb5 (.cells #[.int .i64 c3, .int .i64 c4, .int .i64 c5, .int .i64 c6, .int .i64 c7] 42))
              have q0 := holda ((Below.refl wr.heap.size wr).alloc (Nat.le_refl _) (.cells #[.int .i64 c3, .int .i64 c4, .int .i64 c5, .int .i64 c6, .int .i64 c7] 42)) r0
              have hgl := lt_of_cell r0
              have hgn : ¬ wr.heap.size = b' := by omega
              have hgn2 : ¬ b' = wr.heap.size := by omega
              by_cases h3 : ch = 3
              · subst h3
                go_wp2
                go_ret
                exact ⟨_, rfl, fun h => by simp at h, HBX.out⟩
              have HCO : Hid (CellOk ⟨cr, cm, ch, c3, c4, c5, c6, c7⟩) := Lib.hid (by
                rcases h7 with h | h
                · exact absurd h h3
                · exact h)
              clear h7
              obtain ⟨ta, hta⟩ : ∃ ta, attB c3 c4 c5 c6 c7 = ta := ⟨_, rfl⟩
              rw [hta] at HA
              have HAT := Lib.hid hta
              clear hta
              cases ta
              · go_wp2_with (go_at_call 13; (with_reducible refine (HA.out _).mono ?_); rintro e w6 ⟨rfl, hb6⟩; have y0 := holda hb6 q0; have x0 := (at_new hb6 (hp_new rfl) 0 _ rfl).1; have x1 := (at_new hb6 (hp_new rfl) 1 _ rfl).1; have x4 := (at_new hb6 (hp_new rfl) 4 _ rfl).1; have HB6 := Lib.hid (below_tail HBX.out hb6); have HB7 := Lib.hid (below_tail HBY.out hb6); clear hb6)
                go_ret
                exact ⟨_, rfl, fun h => by simp at h, HB6.out⟩
              by_cases hr0 : cr = 0
              rotate_left
              · go_wp2_with (go_at_call 13; (with_reducible refine (HA.out _).mono ?_); rintro e w6 ⟨rfl, hb6⟩; have y0 := holda hb6 q0; have x0 := (at_new hb6 (hp_new rfl) 0 _ rfl).1; have x1 := (at_new hb6 (hp_new rfl) 1 _ rfl).1; have x4 := (at_new hb6 (hp_new rfl) 4 _ rfl).1; have HB6 := Lib.hid (below_tail HBX.out hb6); have HB7 := Lib.hid (below_tail HBY.out hb6); clear hb6)
                go_roundw
                case rel => exact ⟨j + 1, by omega, by go_num, HTC.out (⟨HCO.out, HAT.out, fun h => absurd h hr0⟩), HB6.out, HB7.out⟩
                case measure => simp [intOf]; omega
              subst hr0
              by_cases hfl : c7 = 0
              rotate_left
              · go_wp2_with (go_at_call 13; (with_reducible refine (HA.out _).mono ?_); rintro e w6 ⟨rfl, hb6⟩; have y0 := holda hb6 q0; have x0 := (at_new hb6 (hp_new rfl) 0 _ rfl).1; have x1 := (at_new hb6 (hp_new rfl) 1 _ rfl).1; have x4 := (at_new hb6 (hp_new rfl) 4 _ rfl).1; have HB6 := Lib.hid (below_tail HBX.out hb6); have HB7 := Lib.hid (below_tail HBY.out hb6); clear hb6)
                go_ret
                exact ⟨_, rfl, fun h => by simp at h, HB6.out⟩
              subst hfl
              by_cases hfk : c3 = 0
              rotate_left
              · go_wp2_with (go_at_call 13; (with_reducible refine (HA.out _).mono ?_); rintro e w6 ⟨rfl, hb6⟩; have y0 := holda hb6 q0; have x0 := (at_new hb6 (hp_new rfl) 0 _ rfl).1; have x1 := (at_new hb6 (hp_new rfl) 1 _ rfl).1; have x4 := (at_new hb6 (hp_new rfl) 4 _ rfl).1; have HB6 := Lib.hid (below_tail HBX.out hb6); have HB7 := Lib.hid (below_tail HBY.out hb6); clear hb6)
                go_ret
                exact ⟨_, rfl, fun h => by simp at h, HB6.out⟩
              subst hfk
              by_cases hfn : c4 = 0
              rotate_left
              · go_wp2_with (go_at_call 13; (with_reducible refine (HA.out _).mono ?_); rintro e w6 ⟨rfl, hb6⟩; have y0 := holda hb6 q0; have x0 := (at_new hb6 (hp_new rfl) 0 _ rfl).1; have x1 := (at_new hb6 (hp_new rfl) 1 _ rfl).1; have x4 := (at_new hb6 (hp_new rfl) 4 _ rfl).1; have HB6 := Lib.hid (below_tail HBX.out hb6); have HB7 := Lib.hid (below_tail HBY.out hb6); clear hb6)
                go_ret
                exact ⟨_, rfl, fun h => by simp at h, HB6.out⟩
              subst hfn
              go_wp2_with (go_at_call 13; (with_reducible refine (HA.out _).mono ?_); rintro e w6 ⟨rfl, hb6⟩; have y0 := holda hb6 q0; have x0 := (at_new hb6 (hp_new rfl) 0 _ rfl).1; have x1 := (at_new hb6 (hp_new rfl) 1 _ rfl).1; have x4 := (at_new hb6 (hp_new rfl) 4 _ rfl).1; have HB6 := Lib.hid (below_tail HBX.out hb6); have HB7 := Lib.hid (below_tail HBY.out hb6); clear hb6)
              go_roundw
              case rel => exact ⟨j + 1, by omega, by go_num, HTC.out (⟨HCO.out, HAT.out, fun _ => ⟨rfl, rfl, rfl⟩⟩), HB6.out, HB7.out⟩
              case measure => simp [intOf]; omega
            · obtain rfl : j = cols := by omega
              have hall : ∀ c ∈ cs, DrawOk c := fun c hc => HDR.out c (by rw [← HLEN.out, List.take_length]; exact hc)
              have HN := Lib.hid (HT.out ⟨HLEN.out, HT3.out.1, hall⟩)
              clear hall
              go_wp2
              go_roundw
              case rel => exact ⟨k + 1, by omega, by go_num, HN.out, hB5⟩
              case measure => simp [intOf]; omega
      · obtain rfl : k = l.length := by omega
        rw [List.take_length] at HOK
        go_wp2
        go_ret
        exact ⟨_, rfl, fun _ => ⟨cols, h0, hz, hf3, hf4, HOK.out⟩, hB⟩
end Go.Proofs.YtbllhchcccflkaaDoor

namespace Go.Proofs.YtbllhchcccflkaaDoor
open Go.RowKit
def encRq (r : Rw) : List Value := [.slice r.A r.cs.length r.cap, .bool false]
def unCont (r : Rw) : Rw := { r with cont := false }
theorem info_rowy : (Tryd.prog.info? 28).map (fun i => (i.zero, i.size, i.bytes)) = some (some (.agg #[.slice none 0 0, .bool false]), 2, 32) := by kernel_rfl
theorem encRq_len : ∀ r, (encRq r).length = 2 := fun _ => rfl
theorem rows_of_own {w : World} {base g c : Nat} {l : List Rw} (h : w.ownsRow base 28 2 (.slice (some ⟨g, 0, none⟩) l.length c) l.length (flat encRq l)) (hc : ∀ r ∈ l, ClsAt w r.A r.cs ∧ r.cs.length ≤ 9223372036854775807) : RwsAt w (some ⟨g, 0, none⟩) (l.map unCont) := fun _ => by
  refine ⟨g, 0, rfl, fun i r hr => ?_⟩
  rw [List.getElem?_map] at hr
  obtain ⟨q, hq, rfl⟩ := Option.map_eq_some_iff.1 hr
  have hcell : ∀ j v, (encRq q)[j]? = some v → w.cell? ⟨g, i * 2 + j, none⟩ = some v := fun j v hj =>
    (owns_hold h (i := i * 2 + j) (by rw [flat_at2 encRq_len l i q j hq (by have := (List.getElem?_eq_some_iff.1 hj).1; rw [encRq_len] at this; exact this)]; exact hj)).1
  rw [Nat.zero_add]
  exact ⟨⟨hcell 0 _ rfl, hcell 1 _ rfl⟩, hc q (List.mem_of_getElem? hq)⟩
theorem cell_two_new (W : World) (x y : Value) (t : TypeId) : ∀ j u, [x, y][j]? = some u → (W.alloc (.cells #[x, y] t)).cell? ((⟨W.heap.size, 0, none⟩ : Addr).add j) = some u := fun j u hj => by
  have h : (W.alloc (.cells #[x, y] t)).heap[W.heap.size]? = some (.cells #[x, y] t (0, 0)) := hp_new rfl
  rcases j with _ | _ | j
  · simp at hj; subst hj; exact (at_ h 0 _ rfl).1
  · simp at hj; subst hj; exact (at_ h 1 _ rfl).1
  · simp at hj
theorem one_row (A : Option Addr) (n c : Nat) : ∀ u ∈ [Value.slice A n c, Value.bool false], u.oneCell' = true := fun u hu => by
  rcases List.mem_cons.1 hu with rfl | hu
  · rfl
  · rw [List.mem_singleton.1 hu]; rfl
def PartedPost (l : List Rw) (w : World) (e : Ending) (w' : World) : Prop := ∃ A c, e = .returned (.slice A l.length c) ∧ RwsAt w' A (l.map unCont) ∧ Below w.heap.size w w'
set_option maxRecDepth 100000 in
set_option maxHeartbeats 3200000 in
theorem parted_any (A : Option Addr) (l : List Rw) (ca : Nat) (w : World) (hl : RwsAt w A l) (h0 : 0 < l.length) (hz : l.length ≤ 400) :
    Calls Tryd.prog 8 #[.slice A l.length ca] w (PartedPost l w) := by
  obtain ⟨b, off, rfl, hr⟩ := hl h0
  have HR := Lib.hid hr
  obtain ⟨i0, hi, hz0, hz1, hz2⟩ := info_parts info_rowy
  clear hl hr
  go_enter Tryd.func8, Tryd.ntmps8
  go_wp2_with fail
  go_loopw [3, 4] (fun o i wr => ∃ k : Nat, k ≤ l.length ∧ i = .int .i64 k ∧ wr.ownsRow w.heap.size 28 2 o (l.take k).length (flat encRq (l.take k)) ∧ Below w.heap.size w wr) (fun _ i _ => l.length - (intOf i).toNat)
  case atStart => exact ⟨0, Nat.zero_le _, rfl, World.ownsRow_nil _ _ _ _, Below.refl _ _⟩
  case round =>
    obtain ⟨k, hk, rfl, ho, hB⟩ := hrel
    by_cases hlt : k < l.length
    · obtain ⟨⟨d0, d1⟩, -, -⟩ := (HR.out k _ (List.getElem?_eq_getElem hlt)).below hB
      have HT : Hid (flat encRq (l.take (k + 1)) = flat encRq (l.take k) ++ encRq l[k] ∧ (l.take (k + 1)).length = (l.take k).length + 1) := Lib.hid ⟨by rw [List.take_succ_eq_append_getElem hlt]; simp only [flat, List.flatMap_append, List.flatMap_cons, List.flatMap_nil, List.append_nil], by rw [List.length_take, List.length_take]; omega⟩
      have htl : (l.take k).length ≤ 400 := by rw [List.length_take]; omega
      obtain ⟨rA, rn, rc, he⟩ : ∃ A n c, encRq l[k] = [.slice A n c, .bool false] ∧ Value.slice l[k].A l[k].cs.length l[k].cap = .slice A n c := ⟨_, _, _, rfl, rfl⟩
      rw [he.2] at d0
      have HE := Lib.hid he.1
      have ho1 := ho.alloc (.cells #[.slice rA rn rc, .bool false] 28)
      have HO := Lib.hid ho
      have HB := Lib.hid hB
      clear he d1 ho hB
      go_wp2_with (at_builtin; refine wpList_append_gP rfl _ _ 22 rfl w.heap.size 28 i0 _ 2 32 Tryd.underlying22 hi hz0 hz1 hz2 rfl (by decide) _ (l.take k).length _ rfl ho1 ⟨wr.heap.size, 0, none⟩ 1 1 [.slice rA rn rc, .bool false] rfl rfl (cell_two_new _ _ _ _) (one_row _ _ _) (by unfold maxLen; omega) (by omega) (by have := HB.out.size; simp; omega) ?_; intro v' w2 hown' hgrow _; have HB2 := Lib.hid (show Below w.heap.size w w2 from (HB.out.alloc HB.out.size _).grown hgrow (by have := HB.out.size; simp; omega) (fun k hk => (ho1.lt k hk).1)); have HO2 := Lib.hid hown'; clear hown' hgrow)
      go_roundw
      case rel => exact ⟨k + 1, by omega, by go_num, by rw [HT.out.1, HT.out.2, HE.out]; exact HO2.out, HB2.out⟩
      case measure => simp [intOf]; omega
    · obtain rfl : k = l.length := by omega
      rw [List.take_length] at ho
      obtain ⟨g, c, rfl⟩ := own_formP ho h0
      go_wp2
      go_ret
      refine ⟨_, _, rfl, rows_of_own ho (fun r hr => ?_), hB⟩
      obtain ⟨i, hi, rfl⟩ := List.getElem_of_mem hr
      have := (HR.out i _ (List.getElem?_eq_getElem hi)).below hB
      exact ⟨this.2.1, this.2.2⟩
end Go.Proofs.YtbllhchcccflkaaDoor

namespace Go.Proofs.YtbllhchcccflkaaDoor
open Go.RowKit
def halfB (x y : Cl) (k : Int) : Bool := x.half == k || y.half == k
set_option maxHeartbeats 800000 in
theorem half_any (i : Nat) (kk : Int) (bf bt : Nat) (b b' off off' : Nat) (ca cb n m : Nat) (x y : Cl) (w : World) (hf : w.cell? ⟨bf, 0, none⟩ = some (.slice (some ⟨b, off, none⟩) n ca)) (ht : w.cell? ⟨bt, 0, none⟩ = some (.slice (some ⟨b', off', none⟩) m cb))
    (hx : w.cell? ⟨b, off + i * 8 + 2, none⟩ = some (.int .i64 x.half)) (hy : w.cell? ⟨b', off' + i * 8 + 2, none⟩ = some (.int .i64 y.half)) (hin : i < n) (him : i < m) :
    Calls Tryd.prog 30 #[.int .i64 i, .int .i64 kk, .pointer (some ⟨bf, 0, none⟩), .pointer (some ⟨bt, 0, none⟩)] w fun e w' => e = .returned (.bool (halfB x y kk)) ∧ w = w' := by
  unfold halfB
  cases hh : (x.half == kk)
  · go_enter Tryd.func30, Tryd.ntmps30
    go_wp2
    go_ret
    exact ⟨by simp, rfl⟩
  · go_enter Tryd.func30, Tryd.ntmps30
    go_wp2
    go_ret
    exact ⟨by simp, rfl⟩
theorem ClsAt.cell {w : World} {b off : Nat} {l : List Cl} {k : Nat} {c : Cl} (h : ClsAt w (some ⟨b, off, none⟩) l) (hk : l[k]? = some c) : ClAt w b (off + k * 8) c := by
  obtain ⟨b1, off1, e, hc⟩ := h (by have := (List.getElem?_eq_some_iff.1 hk).1; omega)
  injection e with e
  injection e with e1 e2 _
  subst e1 e2
  exact hc k c hk
/-- Where the first and the last cell lie that differ. -/
structure Diffs (l m : List Cl) (fst lst : Nat) : Prop where
  len : l.length = m.length
  le : fst ≤ lst
  lt : lst < l.length
  f : l[fst]? ≠ m[fst]?
  g : l[lst]? ≠ m[lst]?
  before : ∀ i, i < fst → l[i]? = m[i]?
  behind : ∀ i, lst < i → l[i]? = m[i]?
def partA (fst : Nat) (h : Bool) : Int := if 0 < fst ∧ h = true then (fst : Int) - 1 else fst
def partB (lst len : Nat) (h : Bool) : Int := if lst + 1 < len ∧ h = true then (lst : Int) + 2 else (lst : Int) + 1
def noPart : Value := .tuple #[.int .i64 0, .int .i64 0, .bool false]
theorem EqualCells_hid (A B : Option Addr) (l m : List Cl) (ca cb : Nat) (hz : l.length ≤ 9223372036854775807) (hz2 : m.length ≤ 9223372036854775807) :
    Hid (∀ w : World, ClsAt w A l → ClsAt w B m → Calls Tryd.prog 29 #[.slice A l.length ca, .slice B m.length cb] w fun e w' => e = .returned (.bool (decide (l = m))) ∧ Below w.heap.size w w') :=
  Lib.hid fun w hl hm => EqualCells_any A B l m ca cb w hl hm hz hz2
set_option maxHeartbeats 800000 in
theorem Part_none (A B : Option Addr) (l m : List Cl) (ca cb : Nat) (w : World) (hl : ClsAt w A l) (hm : ClsAt w B m) (hz : l.length ≤ 9223372036854775807) (hz2 : m.length ≤ 9223372036854775807) (h : l.length ≠ m.length ∨ l = m) :
    Calls Tryd.prog 14 #[.slice A l.length ca, .slice B m.length cb] w fun e w' => e = .returned noPart ∧ Below w.heap.size w w' := by
  have HL := Lib.hid (hl.below ((Below.refl _ _).alloc (Nat.le_refl _) (.cells #[.slice A l.length ca] 26)))
  have HM := Lib.hid (hm.below ((Below.refl _ _).alloc (Nat.le_refl _) (.cells #[.slice A l.length ca] 26)))
  clear hl hm
  have HE := EqualCells_hid A B l m ca cb hz hz2
  unfold noPart
  by_cases hlen : l.length = m.length
  rotate_left
  · have h' : ((l.length : Int) != (m.length : Int)) = true := by simp; omega
    clear hlen h HE
    go_enter Tryd.func14, Tryd.ntmps14
    go_wp2
    go_ret3
    exact ⟨rfl, below_allocs (below_allocs (Below.refl _ _) _) _⟩
  · obtain rfl : l = m := by
      rcases h with h | h
      · exact absurd hlen h
      · exact h
    rw [show decide (l = l) = true from by simp] at HE
    clear hlen h
    go_enter Tryd.func14, Tryd.ntmps14
    go_wp2_with (go_at_call 29; refine (HE.out _ (HL.out.below ((Below.refl _ _).alloc (Nat.le_refl _) _)) (HM.out.below ((Below.refl _ _).alloc (Nat.le_refl _) _))).mono ?_; rintro e w1 ⟨rfl, hb1⟩; have hB := below_tail (show Below w.heap.size w _ from by repeat (first | exact Below.refl _ _ | refine below_allocs ?_ _)) hb1)
    go_ret3
    exact ⟨rfl, hB⟩
set_option maxRecDepth 100000 in
set_option maxHeartbeats 1600000 in
theorem Part_some (b b' off off' : Nat) (l m : List Cl) (ca cb fst lst : Nat) (x y x2 y2 : Cl) (w : World) (hl : ClsAt w (some ⟨b, off, none⟩) l) (hm : ClsAt w (some ⟨b', off', none⟩) m) (hz : l.length ≤ 9223372036854775807) (hz2 : m.length ≤ 9223372036854775807) (hd : Diffs l m fst lst)
    (hx : l[fst]? = some x) (hy : m[fst]? = some y) (hx2 : l[lst]? = some x2) (hy2 : m[lst]? = some y2) :
    Calls Tryd.prog 14 #[.slice (some ⟨b, off, none⟩) l.length ca, .slice (some ⟨b', off', none⟩) m.length cb] w fun e w' => e = .returned (.tuple #[.int .i64 (partA fst (halfB x y 2)), .int .i64 (partB lst l.length (halfB x2 y2 1)), .bool true]) ∧ Below w.heap.size w w' := by
  have hne : decide (l = m) = false := by
    simp; rintro rfl; exact hd.f rfl
  have HL := Lib.hid (hl.below ((Below.refl _ _).alloc (Nat.le_refl _) (.cells #[.slice (some ⟨b, off, none⟩) l.length ca] 26)))
  have HM := Lib.hid (hm.below ((Below.refl _ _).alloc (Nat.le_refl _) (.cells #[.slice (some ⟨b, off, none⟩) l.length ca] 26)))
  clear hl hm
  have HE := EqualCells_hid (some ⟨b, off, none⟩) (some ⟨b', off', none⟩) l m ca cb hz hz2
  rw [hne] at HE
  clear hne
  have HD := Lib.hid hd
  have h' : ((l.length : Int) != (m.length : Int)) = false := by have := hd.len; simp; omega
  have d1 := hd.le
  have d2 := hd.lt
  have d3 : lst < m.length := by have := hd.len; omega
  have X1 := Lib.hid hx
  have Y1 := Lib.hid hy
  have X2 := Lib.hid hx2
  have Y2 := Lib.hid hy2
  clear hd hx hy hx2 hy2
  go_enter Tryd.func14, Tryd.ntmps14
  go_wp2_with (go_at_call 29; refine (HE.out _ (HL.out.below ((Below.refl _ _).alloc (Nat.le_refl _) _)) (HM.out.below ((Below.refl _ _).alloc (Nat.le_refl _) _))).mono ?_; rintro e w1 ⟨rfl, hb1⟩; have hB := below_tail (show Below w.heap.size w _ from by repeat (first | exact Below.refl _ _ | refine below_allocs ?_ _ | refine below_drewNs ?_ _ | refine Below.drew ?_)) hb1; have p := at_new (b := w.heap.size) hb1 (by repeat (first | (refine hp_new ?_; simp; done) | refine hp_old ?_ | refine hp_drewN ?_ | refine hp_drew ?_)) 0 (.slice (some ⟨b, off, none⟩) l.length ca) rfl; have q := at_new (b := w.heap.size + 1) hb1 (by repeat (first | (refine hp_new ?_; simp; done) | refine hp_old ?_ | refine hp_drewN ?_ | refine hp_drew ?_)) 0 (.slice (some ⟨b', off', none⟩) m.length cb) rfl)
  have HL1 := Lib.hid ((HL.out.below ((Below.refl _ _).alloc (Nat.le_refl _) _)).below hb1)
  have HM1 := Lib.hid ((HM.out.below ((Below.refl _ _).alloc (Nat.le_refl _) _)).below hb1)
  clear HL HM HE hb1
  go_quiet (fail)
  replace p := (show (w1.drewN nq).cell? _ = _ ∧ (w1.drewN nq).frozen? _ = _ from p)
  replace q := (show (w1.drewN nq).cell? _ = _ ∧ (w1.drewN nq).frozen? _ = _ from q)
  have HL2 := Lib.hid (HL1.out.below (below_drewNs (Below.refl _ _) nq))
  have HM2 := Lib.hid (HM1.out.below (below_drewNs (Below.refl _ _) nq))
  replace hB := below_drewNs hB nq
  clear HL1 HM1
  generalize w1.drewN nq = w2 at p q HL2 HM2 hB ⊢
  go_wp2_with fail
  go_loopw [7] (fun s7 wr => ∃ k : Nat, k ≤ fst ∧ s7 = .int .i64 k ∧ Below w2.heap.size w2 wr) (fun s7 _ => fst - (intOf s7).toNat)
  case atStart => exact ⟨0, Nat.zero_le _, rfl, Below.refl _ _⟩
  case round =>
    obtain ⟨k, hk, rfl, hB2⟩ := hrel
    have hkl : k < l.length := by omega
    have hkm : k < m.length := by omega
    obtain ⟨u, hu⟩ : ∃ u, l[k]? = some u := ⟨l[k], List.getElem?_eq_getElem hkl⟩
    obtain ⟨v, hv⟩ : ∃ v, m[k]? = some v := ⟨m[k], List.getElem?_eq_getElem hkm⟩
    have cx := (HL2.out.cell hu).below hB2
    have cy := (HM2.out.cell hv).below hB2
    unfold ClAt at cx cy
    have U := Lib.hid hu
    have V := Lib.hid hv
    clear hu hv
    have p2 := hold hB2 p
    have q2 := hold hB2 q
    go_wp2_with fail
    refine wp_region_u 8 (fun w' => (Below wr.heap.size wr w' ∧ w'.cell? ⟨w.heap.size, 0, none⟩ = some (.slice (some ⟨b, off, none⟩) l.length ca) ∧ w'.cell? ⟨w.heap.size + 1, 0, none⟩ = some (.slice (some ⟨b', off', none⟩) m.length cb)) ∧ (w'.cell? ⟨b, off + k * 8, none⟩ = some (.int .i32 u.r) ∧ w'.cell? ⟨b, off + k * 8 + 1, none⟩ = some (.string u.more) ∧ w'.cell? ⟨b, off + k * 8 + 2, none⟩ = some (.int .i64 u.half) ∧ w'.cell? ⟨b, off + k * 8 + 3, none⟩ = some (.int .i64 u.fk) ∧ w'.cell? ⟨b, off + k * 8 + 4, none⟩ = some (.int .i64 u.fn) ∧ w'.cell? ⟨b, off + k * 8 + 5, none⟩ = some (.int .i64 u.bk) ∧ w'.cell? ⟨b, off + k * 8 + 6, none⟩ = some (.int .i64 u.bn) ∧ w'.cell? ⟨b, off + k * 8 + 7, none⟩ = some (.int .i64 u.fl)) ∧ (w'.cell? ⟨b', off' + k * 8, none⟩ = some (.int .i32 v.r) ∧ w'.cell? ⟨b', off' + k * 8 + 1, none⟩ = some (.string v.more) ∧ w'.cell? ⟨b', off' + k * 8 + 2, none⟩ = some (.int .i64 v.half) ∧ w'.cell? ⟨b', off' + k * 8 + 3, none⟩ = some (.int .i64 v.fk) ∧ w'.cell? ⟨b', off' + k * 8 + 4, none⟩ = some (.int .i64 v.fn) ∧ w'.cell? ⟨b', off' + k * 8 + 5, none⟩ = some (.int .i64 v.bk) ∧ w'.cell? ⟨b', off' + k * 8 + 6, none⟩ = some (.int .i64 v.bn) ∧ w'.cell? ⟨b', off' + k * 8 + 7, none⟩ = some (.int .i64 v.fl))) (by kernel_rfl) (by kernel_rfl) ?_ ?_
    · exact ⟨⟨(Below.refl _ _).drew, p2.1, q2.1⟩, cx, cy⟩
    simp only [List.take_succ_cons, List.take_zero, List.drop_succ_cons, List.drop_zero]
    repeat (refine seqU_val ?_ (by rfl) ?_ ?_; rotate_left; · (intro w' hS; obtain ⟨_, _, _⟩ := hS; go_simp; first | done | with_reducible rfl)
            simp only [Act.put, List.setIfInBounds_toArray, List.set_cons_zero, List.set_cons_succ])
    refine seqU_nil (fun w' hS => ?_)
    have hB4 := hS.1.1
    clear hS cx cy p2 q2
    refine wpList_val (.bool (decide (u = v))) rfl (exec_eql_cell _ _ _ _ _ _ _ _ u v rfl rfl w') ?_
    by_cases hkf : k < fst
    · have huv : u = v := by
        have h1 := HD.out.before k hkf
        rw [U.out, V.out] at h1
        injection h1
      rw [show decide (u = v) = true from by simp [huv]]
      simp only [Act.put, List.setIfInBounds_toArray, List.set_cons_zero, List.set_cons_succ]
      have HUV := Lib.hid huv
      clear huv
      go_wp2
      go_roundw
      case rel => exact ⟨k + 1, by omega, by go_num, below_tail hB2 hB4⟩
      case measure => simp [intOf]; omega
    obtain rfl : k = fst := by omega
    have huv : u ≠ v := by
      intro e
      apply HD.out.f
      rw [U.out, V.out, e]
    rw [show decide (u = v) = false from by simp [huv]]
    simp only [Act.put, List.setIfInBounds_toArray, List.set_cons_zero, List.set_cons_succ]
    clear huv U V hkf
    have hB3 := below_tail hB2 hB4
    clear hB2 hB4
    go_wp2_with fail
    go_loopw [8] (fun s8 wr2 => ∃ j : Nat, lst ≤ j ∧ j < l.length ∧ s8 = .int .i64 ((j : Int) + 1) ∧ Below w2.heap.size w2 wr2) (fun s8 _ => (intOf s8).toNat)
    case atStart =>
      have := HD.out.len
      refine ⟨l.length - 1, by omega, by omega, ?_, hB3⟩
      congr 1; omega
    case round =>
      obtain ⟨j, hj, hjl, rfl, hB5⟩ := hrel
      have hjm : j < m.length := by have := HD.out.len; omega
      obtain ⟨u2, hu⟩ : ∃ u, l[j]? = some u := ⟨l[j], List.getElem?_eq_getElem hjl⟩
      obtain ⟨v2, hv⟩ : ∃ v, m[j]? = some v := ⟨m[j], List.getElem?_eq_getElem hjm⟩
      have cx := (HL2.out.cell hu).below hB5
      have cy := (HM2.out.cell hv).below hB5
      unfold ClAt at cx cy
      have U := Lib.hid hu
      have V := Lib.hid hv
      clear hu hv
      have p2 := hold hB5 p
      have q2 := hold hB5 q
      have hw : IntKind.i64.wrap (j : Int) = (j : Int) := IntWalk.i64_in _ (by omega)
      go_wp2_with fail
      refine wp_region_u 10 (fun w' => (Below wr.heap.size wr w' ∧ w'.cell? ⟨w.heap.size, 0, none⟩ = some (.slice (some ⟨b, off, none⟩) l.length ca) ∧ w'.cell? ⟨w.heap.size + 1, 0, none⟩ = some (.slice (some ⟨b', off', none⟩) m.length cb)) ∧ (w'.cell? ⟨b, off + j * 8, none⟩ = some (.int .i32 u2.r) ∧ w'.cell? ⟨b, off + j * 8 + 1, none⟩ = some (.string u2.more) ∧ w'.cell? ⟨b, off + j * 8 + 2, none⟩ = some (.int .i64 u2.half) ∧ w'.cell? ⟨b, off + j * 8 + 3, none⟩ = some (.int .i64 u2.fk) ∧ w'.cell? ⟨b, off + j * 8 + 4, none⟩ = some (.int .i64 u2.fn) ∧ w'.cell? ⟨b, off + j * 8 + 5, none⟩ = some (.int .i64 u2.bk) ∧ w'.cell? ⟨b, off + j * 8 + 6, none⟩ = some (.int .i64 u2.bn) ∧ w'.cell? ⟨b, off + j * 8 + 7, none⟩ = some (.int .i64 u2.fl)) ∧ (w'.cell? ⟨b', off' + j * 8, none⟩ = some (.int .i32 v2.r) ∧ w'.cell? ⟨b', off' + j * 8 + 1, none⟩ = some (.string v2.more) ∧ w'.cell? ⟨b', off' + j * 8 + 2, none⟩ = some (.int .i64 v2.half) ∧ w'.cell? ⟨b', off' + j * 8 + 3, none⟩ = some (.int .i64 v2.fk) ∧ w'.cell? ⟨b', off' + j * 8 + 4, none⟩ = some (.int .i64 v2.fn) ∧ w'.cell? ⟨b', off' + j * 8 + 5, none⟩ = some (.int .i64 v2.bk) ∧ w'.cell? ⟨b', off' + j * 8 + 6, none⟩ = some (.int .i64 v2.bn) ∧ w'.cell? ⟨b', off' + j * 8 + 7, none⟩ = some (.int .i64 v2.fl))) (by kernel_rfl) (by kernel_rfl) ?_ ?_
      · exact ⟨⟨(Below.refl _ _).drew, p2.1, q2.1⟩, cx, cy⟩
      simp only [List.take_succ_cons, List.take_zero, List.drop_succ_cons, List.drop_zero]
      repeat (refine seqU_val ?_ (by rfl) ?_ ?_; rotate_left; · (intro w' hS; obtain ⟨_, _, _⟩ := hS; go_simp; first | done | with_reducible rfl)
              simp only [Act.put, List.setIfInBounds_toArray, List.set_cons_zero, List.set_cons_succ])
      refine seqU_nil (fun w' hS => ?_)
      have hB6 := hS.1.1
      clear hS cx cy p2 q2
      refine wpList_val (.bool (decide (u2 = v2))) rfl (exec_eql_cell _ _ _ _ _ _ _ _ u2 v2 rfl rfl w') ?_
      by_cases hjl2 : lst < j
      · have huv : u2 = v2 := by
          have h1 := HD.out.behind j hjl2
          rw [U.out, V.out] at h1
          injection h1
        rw [show decide (u2 = v2) = true from by simp [huv]]
        simp only [Act.put, List.setIfInBounds_toArray, List.set_cons_zero, List.set_cons_succ]
        have HUV := Lib.hid huv
        clear huv
        go_wp2
        go_roundw
        case rel =>
          exact ⟨j - 1, by omega, by omega, by first | go_num | (congr 1; omega), below_tail hB5 hB6⟩
        case measure => simp [intOf]
      obtain rfl : j = lst := by omega
      have huv : u2 ≠ v2 := by
        intro e
        apply HD.out.g
        rw [U.out, V.out, e]
      rw [show decide (u2 = v2) = false from by simp [huv]]
      simp only [Act.put, List.setIfInBounds_toArray, List.set_cons_zero, List.set_cons_succ]
      clear huv U V hjl2
      have hB7 := below_tail hB5 hB6
      clear hB5 hB6 hB3
      replace p := hold hB7 p
      replace q := hold hB7 q
      have cx := (HL2.out.cell X1.out).below hB7
      have cy := (HM2.out.cell Y1.out).below hB7
      have cx2 := (HL2.out.cell X2.out).below hB7
      have cy2 := (HM2.out.cell Y2.out).below hB7
      have G1 : Hid (Calls Tryd.prog 30 #[.int .i64 k, .int .i64 2, .pointer (some ⟨w.heap.size, 0, none⟩), .pointer (some ⟨w.heap.size + 1, 0, none⟩)] w' fun e w'' => e = .returned (.bool (halfB x y 2)) ∧ w' = w'') :=
        Lib.hid (half_any k 2 _ _ b b' off off' ca cb _ _ x y w' p.1 q.1 cx.2.2.1 cy.2.2.1 (by omega) (by omega))
      have G2 : Hid (Calls Tryd.prog 30 #[.int .i64 j, .int .i64 1, .pointer (some ⟨w.heap.size, 0, none⟩), .pointer (some ⟨w.heap.size + 1, 0, none⟩)] w' fun e w'' => e = .returned (.bool (halfB x2 y2 1)) ∧ w' = w'') :=
        Lib.hid (half_any j 1 _ _ b b' off off' ca cb _ _ x2 y2 w' p.1 q.1 cx2.2.2.1 cy2.2.2.1 (by omega) (by omega))
      clear cx cy cx2 cy2 X1 X2 Y1 Y2 HL2 HM2
      have hfin := below_tail hB hB7
      have hB8 := Lib.hid hfin
      clear hfin hB hB7
      have hmf : ∀ (fn : Fn) (first cap : Array Value) (w : World), (Instr.makeFunc fn first cap).run Tryd.prog w = .ok (.func fn first cap) w := fun _ _ _ _ => rfl
      have hlm := HD.out.len
      have hlm1 : l.length ≤ m.length := by omega
      have hlm2 : m.length ≤ l.length := by omega
      clear hlm hw HD
      cases hha : halfB x y 2 <;> cases hhb : halfB x2 y2 1
      all_goals
        rw [hha] at G1
        rw [hhb] at G2
        have HA := Lib.hid hha
        have HB := Lib.hid hhb
        clear hha hhb
        by_cases hk0 : 0 < k <;> by_cases hj1 : j + 1 < m.length
        all_goals
          go_wp2_with (first | (go_at_call 30; (with_reducible refine (G1.out).mono ?_); rintro e w3 ⟨rfl, rfl⟩) | (go_at_call 30; (with_reducible refine (G2.out).mono ?_); rintro e w3 ⟨rfl, rfl⟩))
          go_ret3
          refine ⟨?_, hB8.out⟩
          rw [HA.out, HB.out]
          simp [partA, partB]
          try omega
end Go.Proofs.YtbllhchcccflkaaDoor

namespace Go.Proofs.YtbllhchcccflkaaDoor
open Go.RowKit
def litC (r : Int) : Cl := ⟨r, ByteArray.empty, 0, 0, 0, 0, 0, 0⟩
theorem ClsAt_two {W w1 : World} {b : Nat} {t : TypeId} {r0 r1 : Int} (hb : Below W.heap.size W w1) (h : W.heap[b]? = some (.cells #[.int .i32 r0, .string ByteArray.empty, .int .i64 0, .int .i64 0, .int .i64 0, .int .i64 0, .int .i64 0, .int .i64 0, .int .i32 r1, .string ByteArray.empty, .int .i64 0, .int .i64 0, .int .i64 0, .int .i64 0, .int .i64 0, .int .i64 0] t (0, 0))) : ClsAt w1 (some ⟨b, 0, none⟩) [litC r0, litC r1] := by
  intro _
  refine ⟨b, 0, rfl, fun i s hs => ?_⟩
  match i, hs with
  | 0, hs =>
    obtain rfl : litC r0 = s := by simpa using hs
    exact ⟨(at_new hb h 0 _ rfl).1, (at_new hb h 1 _ rfl).1, (at_new hb h 2 _ rfl).1, (at_new hb h 3 _ rfl).1, (at_new hb h 4 _ rfl).1, (at_new hb h 5 _ rfl).1, (at_new hb h 6 _ rfl).1, (at_new hb h 7 _ rfl).1⟩
  | 1, hs =>
    obtain rfl : litC r1 = s := by simpa using hs
    exact ⟨(at_new hb h 8 _ rfl).1, (at_new hb h 9 _ rfl).1, (at_new hb h 10 _ rfl).1, (at_new hb h 11 _ rfl).1, (at_new hb h 12 _ rfl).1, (at_new hb h 13 _ rfl).1, (at_new hb h 14 _ rfl).1, (at_new hb h 15 _ rfl).1⟩
  | i + 2, hs => simp at hs
theorem Part_two (b b' : Nat) (w : World) (hl : ClsAt w (some ⟨b, 0, none⟩) [litC 97, litC 98]) (hm : ClsAt w (some ⟨b', 0, none⟩) [litC 97, litC 99]) :
    Calls Tryd.prog 14 #[.slice (some ⟨b, 0, none⟩) 2 2, .slice (some ⟨b', 0, none⟩) 2 2] w fun e w' => e = .returned (.tuple #[.int .i64 1, .int .i64 2, .bool true]) ∧ Below w.heap.size w w' := by
  have hd : Diffs [litC 97, litC 98] [litC 97, litC 99] 1 1 := by
    refine ⟨rfl, Nat.le_refl _, by simp, by simp [litC], by simp [litC], fun i hi => ?_, fun i hi => ?_⟩
    · obtain rfl : i = 0 := by omega
      rfl
    · rw [List.getElem?_eq_none (by simp; omega), List.getElem?_eq_none (by simp; omega)]
  have := Part_some b b' 0 0 [litC 97, litC 98] [litC 97, litC 99] 2 2 1 1 (litC 98) (litC 99) (litC 98) (litC 99) w hl hm (by simp) (by simp) hd rfl rfl rfl rfl
  exact this
set_option maxHeartbeats 800000 in
theorem awake29 (w : World) : Calls Tryd.prog 6 #[] w fun e w' => e = .returned (.bool true) ∧ Below w.heap.size w w' := by
  go_enter Tryd.func6, Tryd.ntmps6
  go_wp2_with (go_at_call 14; refine (Part_two _ _ _ ?_ ?_).mono ?_; · (exact ClsAt_two ((Below.refl _ _).alloc (Nat.le_refl _) _) (hp_new rfl))
               · (exact ClsAt_two (Below.refl _ _) (hp_new (by simp)))
               rintro e w1 ⟨rfl, hb1⟩; have hB := below_tail (show Below w.heap.size w _ from by repeat (first | exact Below.refl _ _ | refine below_allocs ?_ _)) hb1)
  go_ret
  exact ⟨by simp, hB⟩
end Go.Proofs.YtbllhchcccflkaaDoor

namespace Go.Proofs.YtbllhchcccflkaaDoor
open Go.RowKit
set_option maxRecDepth 100000 in
set_option maxHeartbeats 3200000 in
theorem each_same (A B : Option Addr) (l : List Rw) (ca cb : Nat) (f : Value) (w : World) (hl : RwsAt w A l) (hm : RwsAt w B (l.map unCont)) (h0 : 0 < l.length) (hz : l.length ≤ 400) (hc : ∀ r ∈ l, r.cs.length ≤ 1000) :
    Calls Tryd.prog 17 #[.slice A l.length ca, .slice B l.length cb, f] w fun e w' => e = .returned (.tuple #[]) ∧ Below w.heap.size w w' := by
  obtain ⟨b, off, rfl, hr⟩ := hl h0
  obtain ⟨b', off', rfl, hr'⟩ := hm (by rw [List.length_map]; exact h0)
  have HR := Lib.hid hr
  have HR2 := Lib.hid hr'
  have HC := Lib.hid hc
  clear hl hm hr hr' hc
  go_enter Tryd.func17, Tryd.ntmps17
  go_wp2_with fail
  go_loopw [17] (fun i wr => ∃ k : Nat, k ≤ l.length ∧ i = .int .i64 k ∧ Below w.heap.size w wr) (fun i _ => l.length - (intOf i).toNat)
  case atStart => exact ⟨0, Nat.zero_le _, rfl, Below.refl _ _⟩
  case round =>
    obtain ⟨k, hk, rfl, hB⟩ := hrel
    by_cases hlt : k < l.length
    · obtain ⟨⟨d0, -⟩, hcl, -⟩ := (HR.out k _ (List.getElem?_eq_getElem hlt)).below hB
      obtain ⟨⟨e0, -⟩, hcl2, -⟩ := (HR2.out k (unCont l[k]) (by rw [List.getElem?_map, List.getElem?_eq_getElem hlt]; rfl)).below hB
      have hcz := HC.out _ (List.getElem_mem hlt)
      generalize l[k] = r at d0 hcl e0 hcl2 hcz
      obtain ⟨rA, cs, cap, cont⟩ := r
      simp only [unCont] at d0 hcl e0 hcl2 hcz
      have HP : Hid (∀ w', Below wr.heap.size wr w' → Calls Tryd.prog 14 #[.slice rA cs.length cap, .slice rA cs.length cap] w' fun e w2 => e = .returned (.tuple #[.int .i64 0, .int .i64 0, .bool false]) ∧ Below w'.heap.size w' w2) := Lib.hid (fun w' h => Part_none rA rA cs cs cap cap w' (hcl.below h) (hcl.below h) (by omega) (by omega) (.inr rfl))
      clear hcl hcl2 hcz
      go_upto_region 3 with fail
      refine wp_region_u 11 (fun w' => Below wr.heap.size wr w' ∧ w'.cell? ⟨b, off + k * 2, none⟩ = some (.slice rA cs.length cap) ∧ w'.cell? ⟨b', off' + k * 2, none⟩ = some (.slice rA cs.length cap)) (by kernel_rfl) (by kernel_rfl) ?_ ?_
      · exact ⟨(Below.refl _ _).drew, d0, e0⟩
      simp only [List.take_succ_cons, List.take_zero, List.drop_succ_cons, List.drop_zero]
      repeat (
        (first
         | refine seqU_skip (by rfl) ?_
         | (refine seqU_val ?_ (by rfl) ?_ ?_; rotate_left; (focus (intro w' hS; obtain ⟨_, _, _⟩ := hS; go_simp; first | done | with_reducible rfl))))
        simp only [Act.put, List.setIfInBounds_toArray, List.set_cons_zero, List.set_cons_succ])
      refine seqU_nil (fun w' hS => ?_)
      obtain ⟨hb3, _, _⟩ := hS
      have HB3 := Lib.hid (below_tail hB hb3)
      go_wp2_with (go_at_call 14; (with_reducible refine (HP.out _ hb3).mono ?_); rintro e w4 ⟨rfl, hb4⟩)
      go_roundw
      case rel => exact ⟨k + 1, by omega, by go_num, below_tail HB3.out hb4⟩
      case measure => simp [intOf]; omega
    · obtain rfl : k = l.length := by omega
      go_wp2
      go_end0
      exact ⟨rfl, hB⟩
end Go.Proofs.YtbllhchcccflkaaDoor
