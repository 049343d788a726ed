/- The document's store of points: List, Places. Conditions: as stated. -/
import Derived.Test.YtfadcmjdlfobhaaPrA
namespace Go.Proofs.Ytfadcmjdlfobhaa
open Go.RowKit Go.Sort

/-- A list of places so far, in a row of its own. -/
def PosSt (w : World) (l : List P2) (v : Value) (wr : World) : Prop := wr.ownsRow w.heap.size 30 2 v l.length (flat encP l) ∧ Below w.heap.size w wr
theorem PosSt.add {w wr wm w1 : World} {l : List P2} {v v1 : Value} {y : P2} {o : Obj} (h : PosSt w l v wr) (hm : Below wr.heap.size wr wm) (hown : w1.ownsRow w.heap.size 30 2 v1 (l.length + 1) (flat encP l ++ encP y)) (hg : (wm.alloc o).grownBy w1 v.ownBlock) : PosSt w (l ++ [y]) v1 w1 := by
  refine ⟨?_, ?_⟩
  · rw [← flat_snoc, List.length_append]; exact hown
  · have hB1 := below_allocs (below_tail h.2 hm) o
    exact hB1.grown hg hB1.size (fun k hk => (h.1.lt k hk).1)
theorem PosSt.below {w wr w1 : World} {l : List P2} {v : Value} (h : PosSt w l v wr) (hb : Below wr.heap.size wr w1) : PosSt w l v w1 := ⟨owns_bl h.1 hb, below_tail h.2 hb⟩
set_option maxRecDepth 100000 in
set_option maxHeartbeats 1600000 in
theorem PrList_any (q : Nat) (G : List Nat) (most next : Int) (M : List PA) (w : World) (h : PrSt w q G most next M) (hz : M.length ≤ 100000) :
    Calls Try.prog 20 #[.pointer (some ⟨q, 0, none⟩)] w (PosPost w (M.map (·.1))) := by
  obtain ⟨j0, hj, gz0, gz1, gz2⟩ := info_parts info_pos
  obtain ⟨v, -, -, -, h2, ho⟩ := h
  obtain ⟨A, n, rfl, -, -, -, hgr⟩ := gr_of_owns encA_len ho rfl
  have HGR := Lib.hid hgr
  clear hgr ho
  go_enter Try.func20, Try.ntmps20
  go_wp2_with fail
  go_loopw [3, 4] (fun s3 s4 wr => ∃ k : Nat, k ≤ M.length ∧ s4 = .int .i64 k ∧ PosSt w ((M.take k).map (·.1)) s3 wr) (fun _ i _ => M.length - (intOf i).toNat)
  case atStart => exact ⟨0, Nat.zero_le _, rfl, World.ownsRow_nil _ _ _ _, Below.refl _ _⟩
  case round =>
    obtain ⟨k, hk, rfl, hst⟩ := hrel
    have hB := hst.2
    have HST := Lib.hid hst
    obtain ⟨A3, c3, hs3⟩ := row_form hst.1
    subst hs3
    replace h2 := hold hB h2
    by_cases hlt : k < M.length
    rotate_left
    · obtain rfl : k = M.length := by omega
      have hst2 := hst
      rw [List.take_length] at hst2
      have HST2 := Lib.hid hst2
      clear hst hst2
      go_wp2
      go_ret
      refine ⟨_, rfl, ?_, HST2.out.2⟩
      have := HST2.out.1
      simpa using this
    · obtain ⟨b, off, y, hA, hy, cy⟩ := (HGR.out.below hB).at_ hlt
      have hlen : ((M.take k).map (·.1)).length = k := by simp; omega
      have HTK := Lib.hid (show (M.take (k + 1)).map (·.1) = (M.take k).map (·.1) ++ [y.1] by rw [takeA_snoc hy]; simp)
      obtain ⟨⟨y1, y2⟩, y3⟩ := y
      subst hA
      have c0 : wr.cell? ⟨b, off + k * 3, none⟩ = some (.int .i64 y1) := cy 0 _ rfl
      have c1 := cy 1 _ rfl
      have hown := HST.out.1
      generalize (M.take k).map (·.1) = l at HST HTK hlen hown
      subst hlen
      have HOW := Lib.hid hown
      have hlz : l.length < M.length := hlt
      clear cy hy hst hown
      go_wp2_with (at_builtin; refine wpList_append_own _ rfl (.tmp 14) (.tmp 23) _ rfl w.heap.size 30 j0 (.agg #[.int .i64 0, .int .i64 0]) 2 16 Try.underlying40 hj gz0 gz1 gz2 rfl (by decide) _ _ _ rfl (HOW.out.alloc _) ⟨wr.heap.size, 0, none⟩ 1 1 [.int .i64 y1, .int .i64 y2] rfl rfl (cell_two_new _ _ _ _) (by simp [Value.oneCell']) (by simp only [maxLen]; omega) (by omega) (by have := hB.size; simp; omega) ?_; intro v1 w1 hown1 hg1 _; have HO1 := Lib.hid hown1; have HG1 := Lib.hid hg1; clear hown1 hg1)
      go_roundw
      case rel => exact ⟨l.length + 1, by omega, by go_num, by rw [HTK.out]; exact HST.out.add (Below.refl _ _) HO1.out HG1.out⟩
      case measure => simp [intOf]; omega
/-- Those of the age a + 1 among the first i. -/
def ageTo (M : List PA) (a i : Nat) : List P2 := byAge M a ++ ((M.take i).filter (fun x => decide (x.2 = (a : Int) + 1))).map (·.1)
theorem ageTo_zero (M : List PA) (a : Nat) : ageTo M a 0 = byAge M a := by simp [ageTo]
theorem ageTo_all (M : List PA) (a : Nat) : ageTo M a M.length = byAge M (a + 1) := by rw [ageTo, List.take_length]; rfl
theorem ageTo_snoc {M : List PA} {a i : Nat} {y : PA} (hy : M[i]? = some y) : ageTo M a (i + 1) = if y.2 = (a : Int) + 1 then ageTo M a i ++ [y.1] else ageTo M a i := by
  unfold ageTo
  rw [takeA_snoc hy, List.filter_append, List.map_append, ← List.append_assoc]
  by_cases h : y.2 = (a : Int) + 1 <;> simp [h]
theorem byAge_len (M : List PA) : ∀ a, (byAge M a).length ≤ a * M.length
  | 0 => by simp [byAge]
  | a + 1 => by
    have h1 := byAge_len M a
    have h2 := List.length_filter_le (fun x : PA => decide (x.2 = (a : Int) + 1)) M
    rw [byAge, List.length_append, List.length_map, Nat.add_mul]
    omega
theorem ageTo_len (M : List PA) (a i : Nat) : (ageTo M a i).length ≤ (a + 1) * M.length := by
  have h1 := byAge_len M a
  have h2 := List.length_filter_le (fun x : PA => decide (x.2 = (a : Int) + 1)) (M.take i)
  rw [List.length_take] at h2
  rw [ageTo, List.length_append, List.length_map, Nat.add_mul]
  omega
set_option maxRecDepth 100000 in
set_option maxHeartbeats 1600000 in
theorem PrPlaces_any (q : Nat) (G : List Nat) (most : Int) (N : Nat) (M : List PA) (w : World) (h : PrSt w q G most (N : Int) M) (hz : M.length ≤ 1000) (hn : N ≤ 100) :
    Calls Try.prog 22 #[.pointer (some ⟨q, 0, none⟩)] w (PosPost w (byAge M N)) := by
  obtain ⟨j0, hj, gz0, gz1, gz2⟩ := info_parts info_pos
  obtain ⟨v, -, -, h1, h2, ho⟩ := h
  obtain ⟨A, n, rfl, -, -, -, hgr⟩ := gr_of_owns encA_len ho rfl
  have HGR := Lib.hid hgr
  clear hgr ho
  go_enter Try.func22, Try.ntmps22
  go_wp2_with fail
  go_loopw [3, 4, 5] (fun s3 s4 _ wr => ∃ a : Nat, a ≤ N ∧ s4 = .int .i64 ((a : Int) + 1) ∧ PosSt w (byAge M a) s3 wr) (fun _ s4 _ _ => N + 1 - (intOf s4).toNat)
  case atStart => exact ⟨0, Nat.zero_le _, rfl, World.ownsRow_nil _ _ _ _, Below.refl _ _⟩
  case round =>
    obtain ⟨a, ha, rfl, hst⟩ := hrel
    have hB := hst.2
    have HST := Lib.hid hst
    obtain ⟨A3, c3, hs3⟩ := row_form hst.1
    subst hs3
    have h1' := hold hB h1
    clear hst
    by_cases hlt : a < N
    rotate_left
    · obtain rfl : a = N := by omega
      go_wp2
      go_ret
      exact ⟨_, rfl, HST.out.1, HST.out.2⟩
    · have hle : (a : Int) + 1 ≤ (N : Int) := by omega
      go_wp2_with fail
      go_loopw [3, 5] (fun s3 s5 wi => ∃ i : Nat, i ≤ M.length ∧ s5 = .int .i64 i ∧ PosSt w (ageTo M a i) s3 wi) (fun _ s5 _ => M.length - (intOf s5).toNat)
      case atStart => exact ⟨0, Nat.zero_le _, rfl, by rw [ageTo_zero]; exact HST.out⟩
      case round =>
        obtain ⟨i, hi, rfl, hst2⟩ := hrel
        have hB2 := hst2.2
        have HS2 := Lib.hid hst2
        obtain ⟨A4, c4, hs4⟩ := row_form hst2.1
        subst hs4
        have h2' := hold hB2 h2
        by_cases hlt2 : i < M.length
        rotate_left
        · obtain rfl : i = M.length := by omega
          clear hst2
          go_wp2
          go_roundw
          case rel => exact ⟨a + 1, by omega, by go_num, by rw [← ageTo_all]; exact HS2.out⟩
          case measure => simp [intOf]; omega
        · obtain ⟨b, off, y, hA, hy, cy⟩ := (HGR.out.below hB2).at_ hlt2
          have HTK := Lib.hid (ageTo_snoc (a := a) hy)
          have hlen := ageTo_len M a i
          have hlen2 : (a + 1) * M.length ≤ 100 * 1000 := Nat.mul_le_mul (by omega) hz
          obtain ⟨⟨y1, y2⟩, y3⟩ := y
          subst hA
          have c0 : wr.cell? ⟨b, off + i * 3, none⟩ = some (.int .i64 y1) := cy 0 _ rfl
          have c1 := cy 1 _ rfl
          have c2 := cy 2 _ rfl
          have hlz : (ageTo M a i).length ≤ 100000 := by omega
          generalize ageTo M a i = l at HS2 HTK hlz hst2
          have HOW := Lib.hid hst2.1
          clear cy hy hst2 hlen hlen2
          by_cases hage : y3 = (a : Int) + 1
          · subst hage
            have HTK2 := Lib.hid (HTK.out.trans (if_pos rfl))
            clear HTK
            go_wp2_with (at_builtin; refine wpList_append_own _ rfl (.tmp 33) (.tmp 42) _ rfl w.heap.size 30 j0 (.agg #[.int .i64 0, .int .i64 0]) 2 16 Try.underlying40 hj gz0 gz1 gz2 rfl (by decide) _ _ _ rfl (HOW.out.alloc _) ⟨wr.heap.size, 0, none⟩ 1 1 [.int .i64 y1, .int .i64 y2] rfl rfl (cell_two_new _ _ _ _) (by simp [Value.oneCell']) (by simp only [maxLen]; omega) (by omega) (by have := hB2.size; simp; omega) ?_; intro v1 w1 hown1 hg1 _; have HO1 := Lib.hid hown1; have HG1 := Lib.hid hg1; clear hown1 hg1)
            go_roundw
            case rel => exact ⟨i + 1, by omega, by go_num, by rw [HTK2.out]; exact HS2.out.add (Below.refl _ _) HO1.out HG1.out⟩
            case measure => simp [intOf]; omega
          · have hage' : (y3 == (a : Int) + 1) = false := by simpa using hage
            have HTK2 := Lib.hid (HTK.out.trans (if_neg hage))
            clear HTK hage
            go_wp2
            go_roundw
            case rel => exact ⟨i + 1, by omega, by go_num, by rw [HTK2.out]; exact HS2.out⟩
            case measure => simp [intOf]; omega
end Go.Proofs.Ytfadcmjdlfobhaa
