/- The document's Sorted; numbers that are the same. Conditions: as stated. -/
import Derived.Test.YtfadcmjdlfobhaaJuB
namespace Go.Proofs.Ytfadcmjdlfobhaa
open Go.RowKit

def OwnPost (w : World) (xs : List Int) (e : Ending) (w' : World) : Prop := ∃ v : Value, e = .returned v ∧ w'.ownsRow w.heap.size 3 1 v xs.length (vals xs) ∧ Below w.heap.size w w'
theorem below_grown {B : Nat} {W w1 w : World} {base size n : Nat} {e : TypeId} {v : Value} {xs : List Value} (h : Below B w W) (ho : W.ownsRow base e size v n xs) (hg : W.grownBy w1 v.ownBlock) (hb : B ≤ base) (hB : B ≤ W.heap.size) : Below B w w1 :=
  h.grown hg hB (fun k hk => by have := (ho.lt k hk).1; omega)
theorem owns_below {w w' : World} {base : Nat} {e : TypeId} {size : Nat} {v : Value} {n : Nat} {xs : List Value} (h : w.ownsRow base e size v n xs) (hb : Below w.heap.size w w') : w'.ownsRow base e size v n xs := by
  obtain ⟨h1, h2 | ⟨g, cap, cur, e1, e2, e3, e4⟩⟩ := h
  · exact ⟨h1, .inl h2⟩
  · refine ⟨h1, .inr ⟨g, cap, cur, e1, e2, ?_, e4⟩⟩
    rw [hb.block g ?_]; exact e3
    rcases Nat.lt_or_ge g w.heap.size with h | h
    · exact h
    · rw [Array.getElem?_eq_none h] at e3; cases e3
def lenV : Value → Nat
  | .slice _ n _ => n
  | _ => 0
theorem lenV_owns {w : World} {base : Nat} {e : TypeId} {size : Nat} {v : Value} {n : Nat} {xs : List Value} (h : w.ownsRow base e size v n xs) : lenV v = n := by
  rcases h.2 with ⟨rfl, rfl⟩ | ⟨g, cap, cur, rfl, _⟩ <;> rfl
/-- What 'Sorted' holds between its steps. -/
def SrSt (w : World) (l : List Int) (least : Int) (v : Value) (wr : World) : Prop := ∃ out : List Int, wr.ownsRow w.heap.size 3 1 v out.length (vals out) ∧ SoFar l least out ∧ Below w.heap.size w wr
theorem srSt_add {w wr w1 : World} {l out : List Int} {n : Int} {v v1 : Value} {o : Obj} (hown : wr.ownsRow w.heap.size 3 1 v out.length (vals out)) (hB : Below w.heap.size w wr) (hs : SoFar l n (out ++ [n]))
    (hown1 : w1.ownsRow w.heap.size 3 1 v1 (out.length + 1) (vals out ++ [Value.int .i64 n])) (hg : (wr.alloc o).grownBy w1 v.ownBlock) : SrSt w l n v1 w1 := by
  refine ⟨out ++ [n], ?_, hs, ?_⟩
  · rw [← vals_snoc, List.length_append]; exact hown1
  · have hB1 := below_allocs hB o
    exact hB1.grown hg hB1.size (fun k hk => (hown.lt k hk).1)
set_option maxRecDepth 100000 in
set_option maxHeartbeats 1600000 in
theorem Sorted_any (A : Option Addr) (l : List Int) (ca : Nat) (w : World) (hl : IntsAt w A l) (hz : l.length ≤ 1000000) (hok : ∀ x ∈ l, -9223372036854775808 ≤ x) :
    Calls Try.prog 36 #[.slice A l.length ca] w (OwnPost w (srtd l)) := by
  obtain ⟨i0, hi, hz0, hz1, hz2⟩ := info_parts info_int
  have HL := Lib.hid hl
  have HS0 := Lib.hid (soFar_start l hok)
  clear hl hok
  go_enter Try.func36, Try.ntmps36
  go_upto_block 0 with fail
  go_cut [3] (fun s3 w' => SrSt w l (-9223372036854775808) s3 w')
  case first =>
    go_wp2_with fail
    go_loopw [3, 5] (fun s3 i wr => ∃ k : Nat, k ≤ l.length ∧ i = .int .i64 k ∧ s3 = .slice none 0 0 ∧ Below w.heap.size w wr ∧ ∀ x ∈ l.take k, x ≠ -9223372036854775808) (fun _ i _ => l.length - (intOf i).toNat)
    case atStart => exact ⟨0, Nat.zero_le _, rfl, rfl, Below.refl _ _, by simp⟩
    case round =>
      obtain ⟨k, hk, rfl, rfl, hB, hno⟩ := hrel
      have HNO := Lib.hid hno
      clear hno
      by_cases hlt : k < l.length
      rotate_left
      · obtain rfl : k = l.length := by omega
        go_wp2
        go_meet
        have h := HNO.out
        rw [List.take_length] at h
        have h2 := HS0.out
        rw [if_neg (fun hm => h _ hm rfl)] at h2
        exact ⟨[], World.ownsRow_nil _ _ _ _, h2, hB⟩
      · obtain ⟨b, off, x, rfl, hx, c0⟩ := HL.out.at_ hlt
        replace c0 := holda hB c0
        have HX := Lib.hid hx
        clear hx
        by_cases he : x = -9223372036854775808
        · subst he
          have HS1 := Lib.hid (HS0.out)
          go_wp2_with (at_builtin; refine wpList_append_own _ rfl (.tmp 20) (.tmp 22) _ rfl w.heap.size 3 i0 (.int .i64 0) 1 8 Try.underlying53 hi hz0 hz1 hz2 rfl (by decide) _ 0 [] rfl (World.ownsRow_nil _ _ _ _) ⟨wr.heap.size, 0, none⟩ 1 1 [.int .i64 (-9223372036854775808)] rfl rfl (cell_one_new _ _ _) (by simp [Value.oneCell']) (by simp only [maxLen]; omega) (by omega) (by have := hB.size; simp; omega) ?_; intro v1 w1 hown1 hg1 _; have HO1 := Lib.hid hown1; have HG1 := Lib.hid hg1; clear hown1 hg1)
          go_meet
          have h2 := HS1.out
          rw [if_pos (List.mem_of_getElem? HX.out)] at h2
          exact srSt_add (out := []) (World.ownsRow_nil _ _ _ _) hB h2 HO1.out HG1.out
        · have he' : (x == -9223372036854775808) = false := by simpa using he
          have HE := Lib.hid he
          clear he
          go_wp2
          go_roundw
          case rel =>
            refine ⟨k + 1, by omega, by go_num, rfl, hB, fun y hy => ?_⟩
            have hk2 := List.getElem?_eq_some_iff.1 HX.out
            rw [List.take_succ_eq_append_getElem hk2.1] at hy
            rcases List.mem_append.1 hy with hy | hy
            · exact HNO.out y hy
            · rw [List.mem_singleton.1 hy, hk2.2]; exact HE.out
          case measure => simp [intOf]; omega
  obtain ⟨out, hown, hsf, hB⟩ := hcut
  have HST : Hid (SrSt w l (-9223372036854775808) u3 wc) := Lib.hid ⟨out, hown, hsf, hB⟩
  clear hown hsf hB HS0
  go_wp2_with fail
  go_loopw [3, 4] (fun s3 s4 wr => ∃ least : Int, s4 = .int .i64 least ∧ SrSt w l least s3 wr) (fun s3 _ _ => l.length + 1 - lenV s3)
  case atStart => exact ⟨_, rfl, HST.out⟩
  case round =>
    obtain ⟨least, rfl, out, hown, hsf, hB⟩ := hrel
    have hlen := hsf.len
    have HSF := Lib.hid hsf
    have HO := Lib.hid hown
    obtain ⟨A3, c3, rfl, -, -, -, -⟩ := ints_of_owns hown rfl
    have hle : (out.length : Int) ≤ (l.length : Int) := by omega
    have HN := fun w' => RNext_any A l ca least w'
    have HLW := Lib.hid (HL.out.below hB)
    have HQ := Lib.hid (OptE.of (nxt l least))
    have hnb : nxt l least = nxt l least := rfl
    generalize ho : nxt l least = o at HN HQ hnb
    have HON := Lib.hid ho
    clear hsf hown ho hnb
    cases o with
    | none =>
      have HN2 := Lib.hid (HN wr HLW.out (by omega))
      clear HN
      go_wp2_with (go_at_call 31; refine HN2.out.mono ?_; rintro e w2 ⟨rfl, rfl⟩; simp only [optI, Option.getD_none, Option.isSome_none])
      go_ret
      refine ⟨_, rfl, ?_, hB⟩
      rw [← HSF.out.done HON.out]
      exact HO.out
    | some n =>
      have HN2 := Lib.hid (HN wr HLW.out (by omega))
      clear HN
      go_wp2_with (first
        | (go_at_call 31; refine HN2.out.mono ?_; rintro e w2 ⟨rfl, rfl⟩; simp only [optI, Option.getD_some, Option.isSome_some])
        | (at_builtin; refine wpList_append_own _ rfl (.tmp 37) (.tmp 39) _ rfl w.heap.size 3 i0 (.int .i64 0) 1 8 Try.underlying53 hi hz0 hz1 hz2 rfl (by decide) _ _ _ rfl (HO.out.alloc _) ⟨wr.heap.size, 0, none⟩ 1 1 [.int .i64 n] rfl rfl (cell_one_new _ _ _) (by simp [Value.oneCell']) (by simp only [maxLen]; omega) (by omega) (by have := hB.size; simp; omega) ?_; intro v1 w1 hown1 hg1 _; have HO1 := Lib.hid hown1; have HG1 := Lib.hid hg1; clear hown1 hg1))
      go_roundw
      case rel => exact ⟨n, rfl, srSt_add HO.out hB (HSF.out.step HON.out) HO1.out HG1.out⟩
      case measure =>
        have h1 := (HSF.out.step HON.out).len
        have h2 : lenV v1 = out.length + 1 := lenV_owns HO1.out
        simp only [List.length_append, List.length_singleton] at h1
        show l.length + 1 - lenV v1 < l.length + 1 - out.length
        omega
/-- The same numbers, in two rows of the call's own. -/
theorem Ints_same (v1 v2 : Value) (B1 B2 : Nat) (xs : List Int) (w : World) (h1 : w.ownsRow B1 3 1 v1 xs.length (vals xs)) (h2 : w.ownsRow B2 3 1 v2 xs.length (vals xs)) (hz : xs.length ≤ 1000000) :
    Calls Try.prog 34 #[v1, v2] w fun e w' => e = .returned (.bool true) ∧ Below w.heap.size w w' := by
  obtain ⟨A1, c1, rfl, -, -, -, i1⟩ := ints_of_owns h1 rfl
  obtain ⟨A2, c2, rfl, -, -, -, i2⟩ := ints_of_owns h2 rfl
  have H1 := Lib.hid i1
  have H2 := Lib.hid i2
  clear h1 h2 i1 i2
  go_enter Try.func34, Try.ntmps34
  go_wp2_with fail
  go_loopw [5] (fun i wr => ∃ j : Nat, j ≤ xs.length ∧ i = .int .i64 j ∧ Below w.heap.size w wr) (fun i _ => xs.length - (intOf i).toNat)
  case atStart => exact ⟨0, Nat.zero_le _, rfl, Below.refl _ _⟩
  case round =>
    obtain ⟨j, hj, rfl, hB⟩ := hrel
    by_cases hlt : j < xs.length
    rotate_left
    · obtain rfl : j = xs.length := by omega
      go_wp2
      go_ret
      exact ⟨rfl, hB⟩
    obtain ⟨b, off, x, rfl, hx, c0⟩ := H1.out.at_ hlt
    obtain ⟨b', off', x', rfl, hx', d0⟩ := H2.out.at_ hlt
    obtain rfl : x = x' := by rw [hx] at hx'; exact Option.some.inj hx'
    clear hx hx'
    replace c0 := holda hB c0
    replace d0 := holda hB d0
    go_wp2_with fail
    go_quiet (fail)
    go_wp2
    go_roundw
    case rel => exact ⟨j + 1, by omega, by go_num, by repeat (first | exact hB | refine below_drewNs ?_ _ | refine Below.drew ?_)⟩
    case measure => simp [intOf]; omega
end Go.Proofs.Ytfadcmjdlfobhaa
