/- Joined by a tool of this claim out of smaller texts. Conditions: as stated. -/
import Derived.Test.YtbllhchcccflkaaDoorDx06
import Derived.Maps.AppendAt
set_option linter.unusedVariables false
set_option linter.unusedSimpArgs false
namespace Go.Proofs.YtbllhchcccflkaaDoor
open Go.RowKit
section
variable {P : Program}
/-- An append to a row of the call's own; where it lies then. -/
theorem wpList_append_gB {ops : Array Oper} {rest : List Oper} {o : Oper} {a : Act} {w : World} {Q : Exit → Act → World → Prop} (hgd : o.guard = none) (s x : Operand) (t : TypeId)
    (ho : o.op = .call { callee := .builtin .append, args := #[s, x], argTypes := #[t, t] }) (base : Nat) (e : TypeId) (i : TypeInfo) (z : Value) (size bytes : Nat) (ht : P.underlying t = some (.slice e)) (hi : P.info? e = some i) (hz : i.zero = some z) (hsize : i.size = size) (hby : i.bytes = bytes) (hzs : z.cells.size = size) (hsz : 0 < size)
    (v : Value) (n : Nat) (xs : List Value) (hs : a.eval s = v) (hown : w.ownsRow base e size v n xs) (ad : Addr) (m c : Nat) (news : List Value) (hx : a.eval x = .slice (some ad) m c) (hl : news.length = m * size) (hnews : ∀ j u, news[j]? = some u → w.cell? (ad.add j) = some u) (h1 : ∀ u ∈ news, u.oneCell' = true)
    (h63 : n + m ≤ maxLen) (hbytes : (n + m) * bytes ≤ 140737488355328) (hbase : base ≤ w.heap.size)
    (h : ∀ v' w', w'.ownsRow base e size v' (n + m) (xs ++ news) → w.grownBy w' v.ownBlock → (∀ g, v'.ownBlock = some g → v.ownBlock = some g ∨ w.heap.size ≤ g) → wpList P ops Q rest (a.put o.dst v') w') : wpList P ops Q (o :: rest) a w := by
  obtain ⟨v', w', hr, h2, h3, -, h4⟩ := run_append_own_at (P := P) w base t o.type e i z size bytes ht hi hz hsize hby hzs hsz v n xs hown ad m c news hl hnews h1 h63 hbytes hbase
  refine wpList_plain hgd fun K hK => ?_
  unfold Oper.wp execOp
  simp only [ho, resolve, invoke, builtin, Sem.run_bind, Sem.run_pure, Result.andThen_ok, List.map_toArray, List.map_cons, List.map_nil, hs, hx, hr]
  exact hK _ _ (h _ _ h2 h3 (fun g hg => by
    rcases h4 with h4 | h4
    · exact .inl (by rw [← h4]; exact hg)
    · rw [h4] at hg; injection hg with hg; exact .inr (by omega)))
end
/-- Bytes of the call's own. -/
def OwnB (base : Nat) (w : World) (v : Value) (ys : List Int) : Prop := w.ownsRow base 5 1 v ys.length (ys.map (.int .u8)) ∧ ∀ x ∈ ys, 0 ≤ x ∧ x < 256
theorem BsS.src {w : World} {g off : Nat} {xs : List Int} (h : BsS w g off xs) : ∀ j u, (xs.map (Value.int .u8))[j]? = some u → w.cell? ((⟨g, off, none⟩ : Addr).add j) = some u := fun j u hu => by
  rw [List.getElem?_map] at hu
  obtain ⟨x, hx, rfl⟩ := Option.map_eq_some_iff.1 hu
  rw [show (⟨g, off, none⟩ : Addr).add j = ⟨g, off + j, none⟩ from by unfold Addr.add; split <;> simp_all]
  exact h j x hx
theorem one_u8 (xs : List Int) : ∀ u ∈ xs.map (Value.int .u8), u.oneCell' = true := fun u hu => by
  obtain ⟨x, _, rfl⟩ := List.mem_map.1 hu
  rfl
theorem own_form8 {base n : Nat} {w : World} {v : Value} {xs : List Value} (h : w.ownsRow base 5 1 v n xs) (h0 : 0 < n) : ∃ g c, v = .slice (some ⟨g, 0, none⟩) n c ∧ g < w.heap.size ∧ base ≤ g := by
  rcases h.2 with ⟨rfl, h1⟩ | ⟨g, cap, cur, rfl, hb, hg, _⟩
  · omega
  · exact ⟨g, cap, rfl, lt_of_heap hg, hb⟩
theorem below_none {B : Nat} {w w1 w2 : World} (h : Below B w w1) (hg : w1.grownBy w2 none) (hB : B ≤ w1.heap.size) : Below B w w2 := h.grown hg hB (fun k e => by cases e)
/-- Two rows of bytes of the call's own, of one length. -/
def TwoB (W : World) (k : Nat) (a b : Value) (w : World) : Prop := ∃ (m g1 c1 g2 c2 : Nat) (ys zs : List Int), a = .slice (some ⟨g1, 0, none⟩) m c1 ∧ b = .slice (some ⟨g2, 0, none⟩) m c2 ∧ ys.length = m ∧ zs.length = m ∧ OwnB W.heap.size w a ys ∧ OwnB W.heap.size w b zs ∧ g1 ≠ g2 ∧ 0 < m ∧ m ≤ k ∧ Below W.heap.size W w
/-- One is appended to. -/
theorem twoB_step {B y1 y2 n n1 d1 d2 : Nat} {w w1 : World} {o : Obj} {ys zs : List Int} {x : Int} {v1 : Value} (hy : OwnB B w (.slice (some ⟨y1, 0, none⟩) n1 d1) ys) (hz : OwnB B w (.slice (some ⟨y2, 0, none⟩) n d2) zs) (hne : y1 ≠ y2) (hl : y2 < w.heap.size) (hb1 : B ≤ y1) (hB : B ≤ w.heap.size) (hx : 0 ≤ x ∧ x < 256)
    (ho1 : w1.ownsRow B 5 1 v1 (ys.length + 1) (ys.map (Value.int .u8) ++ [.int .u8 x])) (hg1 : (w.alloc o).grownBy w1 (some y1)) (hd1 : ∀ g, v1.ownBlock = some g → some y1 = some g ∨ (w.alloc o).heap.size ≤ g) :
    ∃ g1 c1, v1 = .slice (some ⟨g1, 0, none⟩) (ys.length + 1) c1 ∧ OwnB B w1 v1 (ys ++ [x]) ∧ OwnB B w1 (.slice (some ⟨y2, 0, none⟩) n d2) zs ∧ g1 ≠ y2 ∧ Below B w w1 ∧ g1 < w1.heap.size ∧ B ≤ g1 := by
  obtain ⟨g1, c1, rfl, hl1, hbb⟩ := own_form8 ho1 (by omega)
  refine ⟨g1, c1, rfl, ⟨by simpa using ho1, fun u hu => ?_⟩, ⟨owns_mod (owns_bl hz.1 ((Below.refl _ w).alloc (Nat.le_refl _) o)) (Mod.of_grown (X := [y1]) hg1 (fun g e => by cases e; simp)) (fun g e hm => ?_), hz.2⟩, fun e => ?_, ((Below.refl B w).alloc hB o).grown hg1 (by simp; omega) (fun k e => by cases e; exact hb1), hl1, hbb⟩
  · rcases List.mem_append.1 hu with h | h
    · exact hy.2 u h
    · rw [List.mem_singleton.1 h]; exact hx
  · obtain rfl : y2 = g := by simpa [Value.ownBlock] using e
    have hm' : y2 = y1 := by simpa using hm
    exact hne hm'.symm
  · subst e
    rcases hd1 g1 rfl with h | h
    · cases h; exact hne rfl
    · simp at h; omega
theorem OwnB.bss {B y n c : Nat} {w : World} {ys : List Int} (h : OwnB B w (.slice (some ⟨y, 0, none⟩) n c) ys) : BsS w y 0 ys := fun i x hx => by
  have h2 := h.1.cells (g := y) rfl i (.int .u8 x) (by simp [hx])
  rw [Nat.zero_add]
  rwa [show (⟨y, 0, none⟩ : Addr).add i = ⟨y, i, none⟩ from by unfold Addr.add; split <;> simp_all] at h2
/-- A table of five numbers, one of which is known. -/
def TabV (k : Nat) (x : Int) : Value → World → Prop
  | .slice (some a) _ _, w => w.cell? ⟨a.block, k, none⟩ = some (.int .i32 x)
  | _, _ => False
theorem TabV.pers (k : Nat) (x : Int) (v : Value) : Pers (TabV k x v) := fun w w' h hb => by
  cases v <;> first | exact h.elim | skip
  rename_i a _ _
  cases a <;> first | exact h.elim | exact holda hb h
def BoolPost (w : World) (e : Ending) (w' : World) : Prop := (∃ t : Bool, e = .returned (.bool t)) ∧ Below w.heap.size w w'
set_option maxRecDepth 100000 in
set_option maxHeartbeats 3200000 in
theorem rbegins_any (g off ca : Nat) (xs : List Int) (w : World) (hx : ∀ x ∈ xs, 0 ≤ x ∧ x < 256) (h0 : 0 < xs.length) (h3 : xs.length ≤ 3) (hb : BsS w g off xs) :
    Calls Tryd.prog 63 #[.slice (some ⟨g, off, none⟩) xs.length ca] w (BoolPost w) := by
  obtain ⟨i0, hi, hz0, hz1, hz2⟩ := info_parts info_byte
  have HB := Lib.hid hb
  have HX := Lib.hid hx
  have hp : (0 : Int) < xs.length := by omega
  clear hb hx
  go_enter Tryd.func63, Tryd.ntmps63
  go_wp2_with fail
  go_loopw [3] (fun n wr => ∃ k : Nat, xs.length < k ∧ k ≤ 5 ∧ n = .int .i64 k ∧ Below w.heap.size w wr) (fun n _ => 6 - (intOf n).toNat)
  case atStart => exact ⟨xs.length + 1, by omega, by omega, by go_num, Below.refl _ _⟩
  case round =>
    obtain ⟨k, hk1, hk2, rfl, hB⟩ := hrel
    by_cases hlt : k ≤ 4
    · have HA1 := Lib.hid (rfl : (1 : Nat) = 1)
      have HA2 := Lib.hid (rfl : (2 : Nat) = 2)
      have HBk := Lib.hid (HB.out.below hB)
      have HBB := Lib.hid hB
      clear hB
      go_upto_region 5 with fail
      have hn1 := World.ownsRow_nil wr w.heap.size 5 1
      go_wp2_with (first
        | (at_builtin; have t1 := HA1; clear HA1; refine wpList_append_gB rfl _ _ 51 rfl w.heap.size 5 i0 (.int .u8 0) 1 1 Tryd.underlying51 hi hz0 hz1 hz2 rfl (by decide) _ 0 _ rfl hn1 ⟨g, off, none⟩ xs.length ca (xs.map (Value.int .u8)) rfl (by simp) HBk.out.src (one_u8 xs) (by unfold maxLen; omega) (by omega) HBB.out.size ?_; intro v1 w1 ho1 hg1 hd1; rw [Nat.zero_add, List.nil_append] at ho1; obtain ⟨g1, c1, rfl, hl1, hbb1⟩ := own_form8 ho1 h0; have HB1 := Lib.hid (below_none HBB.out hg1 HBB.out.size); have HK1 := Lib.hid (HBk.out.below (below_none (Below.refl _ _) hg1 (Nat.le_refl _))); have hn2 := World.ownsRow_nil w1 w.heap.size 5 1; have HO1 := Lib.hid ho1; clear ho1 hg1 hd1 hn1)
        | (at_builtin; have t2 := HA2; clear HA2; refine wpList_append_gB rfl _ _ 51 rfl w.heap.size 5 i0 (.int .u8 0) 1 1 Tryd.underlying51 hi hz0 hz1 hz2 rfl (by decide) _ 0 _ rfl hn2 ⟨g, off, none⟩ xs.length ca (xs.map (Value.int .u8)) rfl (by simp) HK1.out.src (one_u8 xs) (by unfold maxLen; omega) (by omega) HB1.out.size ?_; intro v2 w2 ho2 hg2 hd2; rw [Nat.zero_add, List.nil_append] at ho2; obtain ⟨g2, c2, rfl, hl2, hbb2⟩ := own_form8 ho2 h0; have hne : g1 ≠ g2 := (hd2 g2 rfl).elim (fun e => by cases e) (fun e => by omega); have HT := Lib.hid (⟨xs.length, g1, c1, g2, c2, xs, xs, rfl, rfl, rfl, rfl, ⟨owns_bl HO1.out (below_none (Below.refl _ _) hg2 (Nat.le_refl _)), HX.out⟩, ⟨ho2, HX.out⟩, hne, h0, by omega, below_none HB1.out hg2 HB1.out.size⟩ : TwoB w k (.slice (some ⟨g1, 0, none⟩) xs.length c1) (.slice (some ⟨g2, 0, none⟩) xs.length c2) w2); clear ho2 hg2 hd2 hn2 hne))
      go_loopw [4, 5] (fun a b wr2 => TwoB w k a b wr2) (fun a _ _ => 5 - (match a with | .slice _ n _ => n | _ => 0))
      case atStart => exact HT.out
      case round =>
        obtain ⟨m, y1, d1, y2, d2, ys, zs, rfl, rfl, hy, hz, hoy, hoz, hne, hm0, hmk, hB2⟩ := hrel
        subst hy
        have hly : y1 < wr.heap.size ∧ w.heap.size ≤ y1 := by
          obtain ⟨_, _, e, h1, h2⟩ := own_form8 hoy.1 hm0
          simp only [Value.slice.injEq, Option.some.injEq, Addr.mk.injEq] at e
          obtain ⟨⟨rfl, -⟩, -⟩ := e
          exact ⟨h1, h2⟩
        have hlz : y2 < wr.heap.size ∧ w.heap.size ≤ y2 := by
          obtain ⟨_, _, e, h1, h2⟩ := own_form8 hoz.1 (by omega)
          simp only [Value.slice.injEq, Option.some.injEq, Addr.mk.injEq] at e
          obtain ⟨⟨rfl, -⟩, -⟩ := e
          exact ⟨h1, h2⟩
        by_cases hml : ys.length < k
        · have HA3 := Lib.hid (rfl : (1 : Nat) = 1)
          have HA4 := Lib.hid (rfl : (2 : Nat) = 2)
          have hz3 : zs.length ≤ 4 := by omega
          have HZ := Lib.hid hz
          have HOY := Lib.hid hoy
          have HOZ := Lib.hid hoz
          have HBX := Lib.hid hB2
          have hoy1 := hoy.1.alloc (.cells #[.int .u8 128] 5)
          clear hoy hoz hz hB2
          go_wp2_with (first
            | (at_builtin; have t3 := HA3; clear HA3; refine wpList_append_gB rfl _ _ 51 rfl w.heap.size 5 i0 (.int .u8 0) 1 1 Tryd.underlying51 hi hz0 hz1 hz2 rfl (by decide) _  ys.length _ rfl hoy1 ⟨wr.heap.size, 0, none⟩ 1 1 [.int .u8 128] rfl rfl (cell_one_new _ _ _) (by simp [Value.oneCell']) (by unfold maxLen; omega) (by omega) (by have := HBX.out.size; simp; omega) ?_; intro v1 w1 ho1 hg1 hd1; obtain ⟨g1, c1, rfl, hn1, hn2, hn3, hn4, hn5, hn6⟩ := twoB_step HOY.out HOZ.out hne hlz.1 hly.2 HBX.out.size (by omega) ho1 hg1 hd1; have HN1 := Lib.hid hn1; have HN2 := Lib.hid hn2; have HB4 := Lib.hid hn4; have hoz1 := hn2.1.alloc (.cells #[.int .u8 191] 5); clear ho1 hg1 hd1 hn1 hn2 hn4 hoy1)
            | (at_builtin; have t4 := HA4; clear HA4; refine wpList_append_gB rfl _ _ 51 rfl w.heap.size 5 i0 (.int .u8 0) 1 1 Tryd.underlying51 hi hz0 hz1 hz2 rfl (by decide) _  zs.length _ rfl hoz1 ⟨w1.heap.size, 0, none⟩ 1 1 [.int .u8 191] rfl rfl (cell_one_new _ _ _) (by simp [Value.oneCell']) (by unfold maxLen; omega) (by omega) (by have := HBX.out.size; have := HB4.out.size; simp; omega) ?_; intro v2 w2' ho2 hg2 hd2))
          obtain ⟨g2', c2', rfl, hm1, hm2, hm3, hm4, hm5, hm6⟩ := twoB_step HN2.out HN1.out (fun e => hn3 e.symm) hn5 (by have := HB4.out.size; omega) (by have := HBX.out.size; have := HB4.out.size; omega) (by omega) ho2 hg2 hd2
          rw [HZ.out] at hm1 ⊢
          go_roundw
          case rel => exact ⟨ys.length + 1, g1, c1, g2', c2', ys ++ [128], zs ++ [191], rfl, rfl, by simp, by simp [HZ.out], hm2, hm1, hm3.symm, by omega, by omega, (HBX.out.trans HB4.out).trans hm4⟩
          case measure => simp; omega
        · -- THE ROWS ARE FULL
          have hyk : ys.length = k := by omega
          have hzk : zs.length = k := by omega
          have HN1 := Lib.hid (rnumber_any y1 0 d1 ys wr hoy.2 hm0 (by omega) hoy.bss)
          have HZS := Lib.hid hoz.bss
          have HN2 : Hid (∀ w', Below wr.heap.size wr w' → Calls Tryd.prog 62 #[.slice (some ⟨y2, 0, none⟩) zs.length d2] w' fun e w2 => e = .returned (.int .i32 (numB zs)) ∧ Below w'.heap.size w' w2) := Lib.hid (fun w' hb => rnumber_any y2 0 d2 zs w' hoz.2 (by omega) (by omega) (HZS.out.below hb))
          have hr1 := numB_range ys hoy.2
          have hr2 := numB_range zs hoz.2
          have HBI := Lib.hid hB2
          rw [hyk] at HN1 ⊢
          rw [hzk] at HN2
          clear hyk hzk hoy hoz hz hB2 hmk
          generalize numB ys = lo at HN1 hr1
          generalize numB zs = hi' at HN2 hr2
          have hk4 : k = 2 ∨ k = 3 ∨ k = 4 := by omega
          clear hml hm0
          by_cases hneg : lo < 0 ∨ hi' < 0
          · rcases hneg with hneg | hneg
            · go_wp2_with (first | (go_at_call 62; (with_reducible refine HN1.out.mono ?_); rintro e w3 ⟨rfl, hb3⟩) | (go_at_call 62; (with_reducible refine (HN2.out _ hb3).mono ?_); rintro e w4 ⟨rfl, hb4⟩))
              go_roundw
              case rel => exact ⟨k + 1, by omega, by omega, by go_num, below_tail (below_tail HBI.out hb3) hb4⟩
              case measure => simp [intOf]; omega
            · by_cases hl0 : lo < 0
              · go_wp2_with (first | (go_at_call 62; (with_reducible refine HN1.out.mono ?_); rintro e w3 ⟨rfl, hb3⟩) | (go_at_call 62; (with_reducible refine (HN2.out _ hb3).mono ?_); rintro e w4 ⟨rfl, hb4⟩))
                go_roundw
                case rel => exact ⟨k + 1, by omega, by omega, by go_num, below_tail (below_tail HBI.out hb3) hb4⟩
                case measure => simp [intOf]; omega
              · go_wp2_with (first | (go_at_call 62; (with_reducible refine HN1.out.mono ?_); rintro e w3 ⟨rfl, hb3⟩) | (go_at_call 62; (with_reducible refine (HN2.out _ hb3).mono ?_); rintro e w4 ⟨rfl, hb4⟩))
                go_roundw
                case rel => exact ⟨k + 1, by omega, by omega, by go_num, below_tail (below_tail HBI.out hb3) hb4⟩
                case measure => simp [intOf]; omega
          · have hl0 : ¬ lo < 0 := by omega
            have hh0 : ¬ hi' < 0 := by omega
            clear hneg
            rcases hk4 with rfl | rfl | rfl
            · go_upto_region 10 with (first | (go_at_call 62; (with_reducible refine HN1.out.mono ?_); rintro e w3 ⟨rfl, hb3⟩) | (go_at_call 62; (with_reducible refine (HN2.out _ hb3).mono ?_); rintro e w4 ⟨rfl, hb4⟩))
              refine wp_region_n 9 (fun w' => Below w4.heap.size w4 w') (by kernel_rfl) (by kernel_rfl) (fun w1 w2 hS hb => below_tail hS hb) (Below.refl _ _).drew ?_
              refine AtN.take 1 (o := ⟨_, _, _, _, _, _⟩) (v := ?_) (by kernel_rfl) rfl (by simp) (by kernel_rfl) (by kernel_rfl) ?_ ?_; rotate_left
              · first | exact StabN.skip (by rfl) | (refine StabN.val (by rfl) ?_; intro w' hS; obtain hS0 := hS; go_simp; first | done | with_reducible rfl)
              simp only [Act.put, List.setIfInBounds_toArray, List.set_cons_zero, List.set_cons_succ]
              refine AtN.take 5 (o := ⟨_, _, _, _, _, _⟩) (v := ?_) (by kernel_rfl) rfl (by simp) (by kernel_rfl) (by kernel_rfl) ?_ ?_; rotate_left
              · first | exact StabN.skip (by rfl) | (refine StabN.val (by rfl) ?_; intro w' hS; obtain hS0 := hS; go_simp; first | done | with_reducible rfl)
              simp only [Act.put, List.setIfInBounds_toArray, List.set_cons_zero, List.set_cons_succ]
              have HFIN : Hid (∀ w5, Below w4.heap.size w4 w5 → Below w.heap.size w w5) := Lib.hid (fun w5 h => below_tail (below_tail (below_tail HBI.out hb3) hb4) h)
              refine AtN.two 0 4 _ _ _ _ (by simp) (by simp) (by kernel_rfl) rfl rfl (TabV.pers _ _) (TabV.pers _ _) (StabN.new (fun v => ∃ g, v = .slice (some ⟨g, 0, none⟩) 5 5) (TabV 2 128) (by rfl) (fun w' hS => ⟨_, _, by go_simp; first | done | rfl, ⟨_, rfl⟩, (at_ (hp_new (W := w') (o := .cells #[.int .i32 0, .int .i32 0, .int .i32 128, .int .i32 2048, .int .i32 65536] 21) rfl) 2 _ rfl).1, (Below.refl _ _).alloc (Nat.le_refl _) _⟩)) (StabN.new (fun v => ∃ g, v = .slice (some ⟨g, 0, none⟩) 5 5) (TabV 2 2047) (by rfl) (fun w' hS => ⟨_, _, by go_simp; first | done | rfl, ⟨_, rfl⟩, (at_ (hp_new (W := w') (o := .cells #[.int .i32 0, .int .i32 0, .int .i32 2047, .int .i32 65535, .int .i32 1114111] 21) rfl) 2 _ rfl).1, (Below.refl _ _).alloc (Nat.le_refl _) _⟩)) ?_ ?_
              · rintro _ ⟨g1, rfl⟩
                simp only [Act.put, List.setIfInBounds_toArray, List.set_cons_zero, List.set_cons_succ]
                refine AtN.take 2 (o := ⟨_, _, _, _, _, _⟩) (v := ?_) (by kernel_rfl) rfl (by simp) (by kernel_rfl) (by kernel_rfl) ?_ ?_; rotate_left
                · refine StabN.val (by rfl) ?_; intro w' hS; have hc : w'.cell? ⟨g1, 2, none⟩ = some (.int .i32 128) := hS.2; go_simp; first | done | with_reducible rfl
                simp only [Act.put, List.setIfInBounds_toArray, List.set_cons_zero, List.set_cons_succ]
                refine AtN.take 3 (o := ⟨_, _, _, _, _, _⟩) (v := ?_) (by kernel_rfl) rfl (by simp) (by kernel_rfl) (by kernel_rfl) ?_ ?_; rotate_left
                · refine StabN.val (by rfl) ?_; intro w' hS; have hc : w'.cell? ⟨g1, 2, none⟩ = some (.int .i32 128) := hS.2; go_simp; first | done | with_reducible rfl
                simp only [Act.put, List.setIfInBounds_toArray, List.set_cons_zero, List.set_cons_succ]
                refine AtN.take 8 (o := ⟨_, _, _, _, _, _⟩) (v := ?_) (by kernel_rfl) rfl (by simp) (by kernel_rfl) (by kernel_rfl) ?_ ?_; rotate_left
                · first | exact StabN.skip (by rfl) | (refine StabN.val (by rfl) ?_; intro w' hS; obtain hS0 := hS; go_simp; first | done | with_reducible rfl)
                simp only [Act.put, List.setIfInBounds_toArray, List.set_cons_zero, List.set_cons_succ]
                refine AtN.one 4 (o := ⟨_, _, _, _, _, _⟩) _ _ (by simp) (by kernel_rfl) rfl (TabV.pers _ _) (StabN.new (fun v => ∃ g, v = .slice (some ⟨g, 0, none⟩) 5 5) (TabV 2 2047) (by rfl) (fun w' hS => ⟨_, _, by go_simp; first | done | rfl, ⟨_, rfl⟩, (at_ (hp_new (W := w') (o := .cells #[.int .i32 0, .int .i32 0, .int .i32 2047, .int .i32 65535, .int .i32 1114111] 21) rfl) 2 _ rfl).1, (Below.refl _ _).alloc (Nat.le_refl _) _⟩)) ?_
                rintro _ ⟨g2, rfl⟩
                simp only [Act.put, List.setIfInBounds_toArray, List.set_cons_zero, List.set_cons_succ]
                refine AtN.take 6 (o := ⟨_, _, _, _, _, _⟩) (v := ?_) (by kernel_rfl) rfl (by simp) (by kernel_rfl) (by kernel_rfl) ?_ ?_; rotate_left
                · refine StabN.val (by rfl) ?_; intro w' hS; have hc : w'.cell? ⟨g2, 2, none⟩ = some (.int .i32 2047) := hS.2; go_simp; first | done | with_reducible rfl
                simp only [Act.put, List.setIfInBounds_toArray, List.set_cons_zero, List.set_cons_succ]
                refine AtN.take 7 (o := ⟨_, _, _, _, _, _⟩) (v := ?_) (by kernel_rfl) rfl (by simp) (by kernel_rfl) (by kernel_rfl) ?_ ?_; rotate_left
                · refine StabN.val (by rfl) ?_; intro w' hS; have hc : w'.cell? ⟨g2, 2, none⟩ = some (.int .i32 2047) := hS.2; go_simp; first | done | with_reducible rfl
                simp only [Act.put, List.setIfInBounds_toArray, List.set_cons_zero, List.set_cons_succ]
                refine AtN.done (by kernel_rfl) (fun w' hS => ?_)
                have HB9 := Lib.hid (HFIN.out _ hS.1.1)
                clear hS
                go_wp2
                all_goals
                  first
                  | (go_ret; exact ⟨⟨_, rfl⟩, HB9.out⟩)
                  | (go_roundw
                     case rel => exact ⟨3, by omega, by omega, by go_num, HB9.out⟩
                     case measure => simp [intOf])
              · rintro _ ⟨g1, rfl⟩
                simp only [Act.put, List.setIfInBounds_toArray, List.set_cons_zero, List.set_cons_succ]
                refine AtN.take 6 (o := ⟨_, _, _, _, _, _⟩) (v := ?_) (by kernel_rfl) rfl (by simp) (by kernel_rfl) (by kernel_rfl) ?_ ?_; rotate_left
                · refine StabN.val (by rfl) ?_; intro w' hS; have hc : w'.cell? ⟨g1, 2, none⟩ = some (.int .i32 2047) := hS.2; go_simp; first | done | with_reducible rfl
                simp only [Act.put, List.setIfInBounds_toArray, List.set_cons_zero, List.set_cons_succ]
                refine AtN.take 7 (o := ⟨_, _, _, _, _, _⟩) (v := ?_) (by kernel_rfl) rfl (by simp) (by kernel_rfl) (by kernel_rfl) ?_ ?_; rotate_left
                · refine StabN.val (by rfl) ?_; intro w' hS; have hc : w'.cell? ⟨g1, 2, none⟩ = some (.int .i32 2047) := hS.2; go_simp; first | done | with_reducible rfl
                simp only [Act.put, List.setIfInBounds_toArray, List.set_cons_zero, List.set_cons_succ]
                refine AtN.one 0 (o := ⟨_, _, _, _, _, _⟩) _ _ (by simp) (by kernel_rfl) rfl (TabV.pers _ _) (StabN.new (fun v => ∃ g, v = .slice (some ⟨g, 0, none⟩) 5 5) (TabV 2 128) (by rfl) (fun w' hS => ⟨_, _, by go_simp; first | done | rfl, ⟨_, rfl⟩, (at_ (hp_new (W := w') (o := .cells #[.int .i32 0, .int .i32 0, .int .i32 128, .int .i32 2048, .int .i32 65536] 21) rfl) 2 _ rfl).1, (Below.refl _ _).alloc (Nat.le_refl _) _⟩)) ?_
                rintro _ ⟨g2, rfl⟩
                simp only [Act.put, List.setIfInBounds_toArray, List.set_cons_zero, List.set_cons_succ]
                refine AtN.take 2 (o := ⟨_, _, _, _, _, _⟩) (v := ?_) (by kernel_rfl) rfl (by simp) (by kernel_rfl) (by kernel_rfl) ?_ ?_; rotate_left
                · refine StabN.val (by rfl) ?_; intro w' hS; have hc : w'.cell? ⟨g2, 2, none⟩ = some (.int .i32 128) := hS.2; go_simp; first | done | with_reducible rfl
                simp only [Act.put, List.setIfInBounds_toArray, List.set_cons_zero, List.set_cons_succ]
                refine AtN.take 3 (o := ⟨_, _, _, _, _, _⟩) (v := ?_) (by kernel_rfl) rfl (by simp) (by kernel_rfl) (by kernel_rfl) ?_ ?_; rotate_left
                · refine StabN.val (by rfl) ?_; intro w' hS; have hc : w'.cell? ⟨g2, 2, none⟩ = some (.int .i32 128) := hS.2; go_simp; first | done | with_reducible rfl
                simp only [Act.put, List.setIfInBounds_toArray, List.set_cons_zero, List.set_cons_succ]
                refine AtN.take 8 (o := ⟨_, _, _, _, _, _⟩) (v := ?_) (by kernel_rfl) rfl (by simp) (by kernel_rfl) (by kernel_rfl) ?_ ?_; rotate_left
                · first | exact StabN.skip (by rfl) | (refine StabN.val (by rfl) ?_; intro w' hS; obtain hS0 := hS; go_simp; first | done | with_reducible rfl)
                simp only [Act.put, List.setIfInBounds_toArray, List.set_cons_zero, List.set_cons_succ]
                refine AtN.done (by kernel_rfl) (fun w' hS => ?_)
                have HB9 := Lib.hid (HFIN.out _ hS.1.1)
                clear hS
                go_wp2
                all_goals
                  first
                  | (go_ret; exact ⟨⟨_, rfl⟩, HB9.out⟩)
                  | (go_roundw
                     case rel => exact ⟨3, by omega, by omega, by go_num, HB9.out⟩
                     case measure => simp [intOf])
            · go_upto_region 10 with (first | (go_at_call 62; (with_reducible refine HN1.out.mono ?_); rintro e w3 ⟨rfl, hb3⟩) | (go_at_call 62; (with_reducible refine (HN2.out _ hb3).mono ?_); rintro e w4 ⟨rfl, hb4⟩))
              refine wp_region_n 9 (fun w' => Below w4.heap.size w4 w') (by kernel_rfl) (by kernel_rfl) (fun w1 w2 hS hb => below_tail hS hb) (Below.refl _ _).drew ?_
              refine AtN.take 1 (o := ⟨_, _, _, _, _, _⟩) (v := ?_) (by kernel_rfl) rfl (by simp) (by kernel_rfl) (by kernel_rfl) ?_ ?_; rotate_left
              · first | exact StabN.skip (by rfl) | (refine StabN.val (by rfl) ?_; intro w' hS; obtain hS0 := hS; go_simp; first | done | with_reducible rfl)
              simp only [Act.put, List.setIfInBounds_toArray, List.set_cons_zero, List.set_cons_succ]
              refine AtN.take 5 (o := ⟨_, _, _, _, _, _⟩) (v := ?_) (by kernel_rfl) rfl (by simp) (by kernel_rfl) (by kernel_rfl) ?_ ?_; rotate_left
              · first | exact StabN.skip (by rfl) | (refine StabN.val (by rfl) ?_; intro w' hS; obtain hS0 := hS; go_simp; first | done | with_reducible rfl)
              simp only [Act.put, List.setIfInBounds_toArray, List.set_cons_zero, List.set_cons_succ]
              have HFIN : Hid (∀ w5, Below w4.heap.size w4 w5 → Below w.heap.size w w5) := Lib.hid (fun w5 h => below_tail (below_tail (below_tail HBI.out hb3) hb4) h)
              refine AtN.two 0 4 _ _ _ _ (by simp) (by simp) (by kernel_rfl) rfl rfl (TabV.pers _ _) (TabV.pers _ _) (StabN.new (fun v => ∃ g, v = .slice (some ⟨g, 0, none⟩) 5 5) (TabV 3 2048) (by rfl) (fun w' hS => ⟨_, _, by go_simp; first | done | rfl, ⟨_, rfl⟩, (at_ (hp_new (W := w') (o := .cells #[.int .i32 0, .int .i32 0, .int .i32 128, .int .i32 2048, .int .i32 65536] 21) rfl) 3 _ rfl).1, (Below.refl _ _).alloc (Nat.le_refl _) _⟩)) (StabN.new (fun v => ∃ g, v = .slice (some ⟨g, 0, none⟩) 5 5) (TabV 3 65535) (by rfl) (fun w' hS => ⟨_, _, by go_simp; first | done | rfl, ⟨_, rfl⟩, (at_ (hp_new (W := w') (o := .cells #[.int .i32 0, .int .i32 0, .int .i32 2047, .int .i32 65535, .int .i32 1114111] 21) rfl) 3 _ rfl).1, (Below.refl _ _).alloc (Nat.le_refl _) _⟩)) ?_ ?_
              · rintro _ ⟨g1, rfl⟩
                simp only [Act.put, List.setIfInBounds_toArray, List.set_cons_zero, List.set_cons_succ]
                refine AtN.take 2 (o := ⟨_, _, _, _, _, _⟩) (v := ?_) (by kernel_rfl) rfl (by simp) (by kernel_rfl) (by kernel_rfl) ?_ ?_; rotate_left
                · refine StabN.val (by rfl) ?_; intro w' hS; have hc : w'.cell? ⟨g1, 3, none⟩ = some (.int .i32 2048) := hS.2; go_simp; first | done | with_reducible rfl
                simp only [Act.put, List.setIfInBounds_toArray, List.set_cons_zero, List.set_cons_succ]
                refine AtN.take 3 (o := ⟨_, _, _, _, _, _⟩) (v := ?_) (by kernel_rfl) rfl (by simp) (by kernel_rfl) (by kernel_rfl) ?_ ?_; rotate_left
                · refine StabN.val (by rfl) ?_; intro w' hS; have hc : w'.cell? ⟨g1, 3, none⟩ = some (.int .i32 2048) := hS.2; go_simp; first | done | with_reducible rfl
                simp only [Act.put, List.setIfInBounds_toArray, List.set_cons_zero, List.set_cons_succ]
                refine AtN.take 8 (o := ⟨_, _, _, _, _, _⟩) (v := ?_) (by kernel_rfl) rfl (by simp) (by kernel_rfl) (by kernel_rfl) ?_ ?_; rotate_left
                · first | exact StabN.skip (by rfl) | (refine StabN.val (by rfl) ?_; intro w' hS; obtain hS0 := hS; go_simp; first | done | with_reducible rfl)
                simp only [Act.put, List.setIfInBounds_toArray, List.set_cons_zero, List.set_cons_succ]
                refine AtN.one 4 (o := ⟨_, _, _, _, _, _⟩) _ _ (by simp) (by kernel_rfl) rfl (TabV.pers _ _) (StabN.new (fun v => ∃ g, v = .slice (some ⟨g, 0, none⟩) 5 5) (TabV 3 65535) (by rfl) (fun w' hS => ⟨_, _, by go_simp; first | done | rfl, ⟨_, rfl⟩, (at_ (hp_new (W := w') (o := .cells #[.int .i32 0, .int .i32 0, .int .i32 2047, .int .i32 65535, .int .i32 1114111] 21) rfl) 3 _ rfl).1, (Below.refl _ _).alloc (Nat.le_refl _) _⟩)) ?_
                rintro _ ⟨g2, rfl⟩
                simp only [Act.put, List.setIfInBounds_toArray, List.set_cons_zero, List.set_cons_succ]
                refine AtN.take 6 (o := ⟨_, _, _, _, _, _⟩) (v := ?_) (by kernel_rfl) rfl (by simp) (by kernel_rfl) (by kernel_rfl) ?_ ?_; rotate_left
                · refine StabN.val (by rfl) ?_; intro w' hS; have hc : w'.cell? ⟨g2, 3, none⟩ = some (.int .i32 65535) := hS.2; go_simp; first | done | with_reducible rfl
                simp only [Act.put, List.setIfInBounds_toArray, List.set_cons_zero, List.set_cons_succ]
                refine AtN.take 7 (o := ⟨_, _, _, _, _, _⟩) (v := ?_) (by kernel_rfl) rfl (by simp) (by kernel_rfl) (by kernel_rfl) ?_ ?_; rotate_left
                · refine StabN.val (by rfl) ?_; intro w' hS; have hc : w'.cell? ⟨g2, 3, none⟩ = some (.int .i32 65535) := hS.2; go_simp; first | done | with_reducible rfl
                simp only [Act.put, List.setIfInBounds_toArray, List.set_cons_zero, List.set_cons_succ]
                refine AtN.done (by kernel_rfl) (fun w' hS => ?_)
                have HB9 := Lib.hid (HFIN.out _ hS.1.1)
                clear hS
                go_wp2
                all_goals
                  first
                  | (go_ret; exact ⟨⟨_, rfl⟩, HB9.out⟩)
                  | (go_roundw
                     case rel => exact ⟨4, by omega, by omega, by go_num, HB9.out⟩
                     case measure => simp [intOf])
              · rintro _ ⟨g1, rfl⟩
                simp only [Act.put, List.setIfInBounds_toArray, List.set_cons_zero, List.set_cons_succ]
                refine AtN.take 6 (o := ⟨_, _, _, _, _, _⟩) (v := ?_) (by kernel_rfl) rfl (by simp) (by kernel_rfl) (by kernel_rfl) ?_ ?_; rotate_left
                · refine StabN.val (by rfl) ?_; intro w' hS; have hc : w'.cell? ⟨g1, 3, none⟩ = some (.int .i32 65535) := hS.2; go_simp; first | done | with_reducible rfl
                simp only [Act.put, List.setIfInBounds_toArray, List.set_cons_zero, List.set_cons_succ]
                refine AtN.take 7 (o := ⟨_, _, _, _, _, _⟩) (v := ?_) (by kernel_rfl) rfl (by simp) (by kernel_rfl) (by kernel_rfl) ?_ ?_; rotate_left
                · refine StabN.val (by rfl) ?_; intro w' hS; have hc : w'.cell? ⟨g1, 3, none⟩ = some (.int .i32 65535) := hS.2; go_simp; first | done | with_reducible rfl
                simp only [Act.put, List.setIfInBounds_toArray, List.set_cons_zero, List.set_cons_succ]
                refine AtN.one 0 (o := ⟨_, _, _, _, _, _⟩) _ _ (by simp) (by kernel_rfl) rfl (TabV.pers _ _) (StabN.new (fun v => ∃ g, v = .slice (some ⟨g, 0, none⟩) 5 5) (TabV 3 2048) (by rfl) (fun w' hS => ⟨_, _, by go_simp; first | done | rfl, ⟨_, rfl⟩, (at_ (hp_new (W := w') (o := .cells #[.int .i32 0, .int .i32 0, .int .i32 128, .int .i32 2048, .int .i32 65536] 21) rfl) 3 _ rfl).1, (Below.refl _ _).alloc (Nat.le_refl _) _⟩)) ?_
                rintro _ ⟨g2, rfl⟩
                simp only [Act.put, List.setIfInBounds_toArray, List.set_cons_zero, List.set_cons_succ]
                refine AtN.take 2 (o := ⟨_, _, _, _, _, _⟩) (v := ?_) (by kernel_rfl) rfl (by simp) (by kernel_rfl) (by kernel_rfl) ?_ ?_; rotate_left
                · refine StabN.val (by rfl) ?_; intro w' hS; have hc : w'.cell? ⟨g2, 3, none⟩ = some (.int .i32 2048) := hS.2; go_simp; first | done | with_reducible rfl
                simp only [Act.put, List.setIfInBounds_toArray, List.set_cons_zero, List.set_cons_succ]
                refine AtN.take 3 (o := ⟨_, _, _, _, _, _⟩) (v := ?_) (by kernel_rfl) rfl (by simp) (by kernel_rfl) (by kernel_rfl) ?_ ?_; rotate_left
                · refine StabN.val (by rfl) ?_; intro w' hS; have hc : w'.cell? ⟨g2, 3, none⟩ = some (.int .i32 2048) := hS.2; go_simp; first | done | with_reducible rfl
                simp only [Act.put, List.setIfInBounds_toArray, List.set_cons_zero, List.set_cons_succ]
                refine AtN.take 8 (o := ⟨_, _, _, _, _, _⟩) (v := ?_) (by kernel_rfl) rfl (by simp) (by kernel_rfl) (by kernel_rfl) ?_ ?_; rotate_left
                · first | exact StabN.skip (by rfl) | (refine StabN.val (by rfl) ?_; intro w' hS; obtain hS0 := hS; go_simp; first | done | with_reducible rfl)
                simp only [Act.put, List.setIfInBounds_toArray, List.set_cons_zero, List.set_cons_succ]
                refine AtN.done (by kernel_rfl) (fun w' hS => ?_)
                have HB9 := Lib.hid (HFIN.out _ hS.1.1)
                clear hS
                go_wp2
                all_goals
                  first
                  | (go_ret; exact ⟨⟨_, rfl⟩, HB9.out⟩)
                  | (go_roundw
                     case rel => exact ⟨4, by omega, by omega, by go_num, HB9.out⟩
                     case measure => simp [intOf])
            · go_upto_region 10 with (first | (go_at_call 62; (with_reducible refine HN1.out.mono ?_); rintro e w3 ⟨rfl, hb3⟩) | (go_at_call 62; (with_reducible refine (HN2.out _ hb3).mono ?_); rintro e w4 ⟨rfl, hb4⟩))
              refine wp_region_n 9 (fun w' => Below w4.heap.size w4 w') (by kernel_rfl) (by kernel_rfl) (fun w1 w2 hS hb => below_tail hS hb) (Below.refl _ _).drew ?_
              refine AtN.take 1 (o := ⟨_, _, _, _, _, _⟩) (v := ?_) (by kernel_rfl) rfl (by simp) (by kernel_rfl) (by kernel_rfl) ?_ ?_; rotate_left
              · first | exact StabN.skip (by rfl) | (refine StabN.val (by rfl) ?_; intro w' hS; obtain hS0 := hS; go_simp; first | done | with_reducible rfl)
              simp only [Act.put, List.setIfInBounds_toArray, List.set_cons_zero, List.set_cons_succ]
              refine AtN.take 5 (o := ⟨_, _, _, _, _, _⟩) (v := ?_) (by kernel_rfl) rfl (by simp) (by kernel_rfl) (by kernel_rfl) ?_ ?_; rotate_left
              · first | exact StabN.skip (by rfl) | (refine StabN.val (by rfl) ?_; intro w' hS; obtain hS0 := hS; go_simp; first | done | with_reducible rfl)
              simp only [Act.put, List.setIfInBounds_toArray, List.set_cons_zero, List.set_cons_succ]
              have HFIN : Hid (∀ w5, Below w4.heap.size w4 w5 → Below w.heap.size w w5) := Lib.hid (fun w5 h => below_tail (below_tail (below_tail HBI.out hb3) hb4) h)
              refine AtN.two 0 4 _ _ _ _ (by simp) (by simp) (by kernel_rfl) rfl rfl (TabV.pers _ _) (TabV.pers _ _) (StabN.new (fun v => ∃ g, v = .slice (some ⟨g, 0, none⟩) 5 5) (TabV 4 65536) (by rfl) (fun w' hS => ⟨_, _, by go_simp; first | done | rfl, ⟨_, rfl⟩, (at_ (hp_new (W := w') (o := .cells #[.int .i32 0, .int .i32 0, .int .i32 128, .int .i32 2048, .int .i32 65536] 21) rfl) 4 _ rfl).1, (Below.refl _ _).alloc (Nat.le_refl _) _⟩)) (StabN.new (fun v => ∃ g, v = .slice (some ⟨g, 0, none⟩) 5 5) (TabV 4 1114111) (by rfl) (fun w' hS => ⟨_, _, by go_simp; first | done | rfl, ⟨_, rfl⟩, (at_ (hp_new (W := w') (o := .cells #[.int .i32 0, .int .i32 0, .int .i32 2047, .int .i32 65535, .int .i32 1114111] 21) rfl) 4 _ rfl).1, (Below.refl _ _).alloc (Nat.le_refl _) _⟩)) ?_ ?_
              · rintro _ ⟨g1, rfl⟩
                simp only [Act.put, List.setIfInBounds_toArray, List.set_cons_zero, List.set_cons_succ]
                refine AtN.take 2 (o := ⟨_, _, _, _, _, _⟩) (v := ?_) (by kernel_rfl) rfl (by simp) (by kernel_rfl) (by kernel_rfl) ?_ ?_; rotate_left
                · refine StabN.val (by rfl) ?_; intro w' hS; have hc : w'.cell? ⟨g1, 4, none⟩ = some (.int .i32 65536) := hS.2; go_simp; first | done | with_reducible rfl
                simp only [Act.put, List.setIfInBounds_toArray, List.set_cons_zero, List.set_cons_succ]
                refine AtN.take 3 (o := ⟨_, _, _, _, _, _⟩) (v := ?_) (by kernel_rfl) rfl (by simp) (by kernel_rfl) (by kernel_rfl) ?_ ?_; rotate_left
                · refine StabN.val (by rfl) ?_; intro w' hS; have hc : w'.cell? ⟨g1, 4, none⟩ = some (.int .i32 65536) := hS.2; go_simp; first | done | with_reducible rfl
                simp only [Act.put, List.setIfInBounds_toArray, List.set_cons_zero, List.set_cons_succ]
                refine AtN.take 8 (o := ⟨_, _, _, _, _, _⟩) (v := ?_) (by kernel_rfl) rfl (by simp) (by kernel_rfl) (by kernel_rfl) ?_ ?_; rotate_left
                · first | exact StabN.skip (by rfl) | (refine StabN.val (by rfl) ?_; intro w' hS; obtain hS0 := hS; go_simp; first | done | with_reducible rfl)
                simp only [Act.put, List.setIfInBounds_toArray, List.set_cons_zero, List.set_cons_succ]
                refine AtN.one 4 (o := ⟨_, _, _, _, _, _⟩) _ _ (by simp) (by kernel_rfl) rfl (TabV.pers _ _) (StabN.new (fun v => ∃ g, v = .slice (some ⟨g, 0, none⟩) 5 5) (TabV 4 1114111) (by rfl) (fun w' hS => ⟨_, _, by go_simp; first | done | rfl, ⟨_, rfl⟩, (at_ (hp_new (W := w') (o := .cells #[.int .i32 0, .int .i32 0, .int .i32 2047, .int .i32 65535, .int .i32 1114111] 21) rfl) 4 _ rfl).1, (Below.refl _ _).alloc (Nat.le_refl _) _⟩)) ?_
                rintro _ ⟨g2, rfl⟩
                simp only [Act.put, List.setIfInBounds_toArray, List.set_cons_zero, List.set_cons_succ]
                refine AtN.take 6 (o := ⟨_, _, _, _, _, _⟩) (v := ?_) (by kernel_rfl) rfl (by simp) (by kernel_rfl) (by kernel_rfl) ?_ ?_; rotate_left
                · refine StabN.val (by rfl) ?_; intro w' hS; have hc : w'.cell? ⟨g2, 4, none⟩ = some (.int .i32 1114111) := hS.2; go_simp; first | done | with_reducible rfl
                simp only [Act.put, List.setIfInBounds_toArray, List.set_cons_zero, List.set_cons_succ]
                refine AtN.take 7 (o := ⟨_, _, _, _, _, _⟩) (v := ?_) (by kernel_rfl) rfl (by simp) (by kernel_rfl) (by kernel_rfl) ?_ ?_; rotate_left
                · refine StabN.val (by rfl) ?_; intro w' hS; have hc : w'.cell? ⟨g2, 4, none⟩ = some (.int .i32 1114111) := hS.2; go_simp; first | done | with_reducible rfl
                simp only [Act.put, List.setIfInBounds_toArray, List.set_cons_zero, List.set_cons_succ]
                refine AtN.done (by kernel_rfl) (fun w' hS => ?_)
                have HB9 := Lib.hid (HFIN.out _ hS.1.1)
                clear hS
                go_wp2
                all_goals
                  first
                  | (go_ret; exact ⟨⟨_, rfl⟩, HB9.out⟩)
                  | (go_roundw
                     case rel => exact ⟨5, by omega, by omega, by go_num, HB9.out⟩
                     case measure => simp [intOf])
              · rintro _ ⟨g1, rfl⟩
                simp only [Act.put, List.setIfInBounds_toArray, List.set_cons_zero, List.set_cons_succ]
                refine AtN.take 6 (o := ⟨_, _, _, _, _, _⟩) (v := ?_) (by kernel_rfl) rfl (by simp) (by kernel_rfl) (by kernel_rfl) ?_ ?_; rotate_left
                · refine StabN.val (by rfl) ?_; intro w' hS; have hc : w'.cell? ⟨g1, 4, none⟩ = some (.int .i32 1114111) := hS.2; go_simp; first | done | with_reducible rfl
                simp only [Act.put, List.setIfInBounds_toArray, List.set_cons_zero, List.set_cons_succ]
                refine AtN.take 7 (o := ⟨_, _, _, _, _, _⟩) (v := ?_) (by kernel_rfl) rfl (by simp) (by kernel_rfl) (by kernel_rfl) ?_ ?_; rotate_left
                · refine StabN.val (by rfl) ?_; intro w' hS; have hc : w'.cell? ⟨g1, 4, none⟩ = some (.int .i32 1114111) := hS.2; go_simp; first | done | with_reducible rfl
                simp only [Act.put, List.setIfInBounds_toArray, List.set_cons_zero, List.set_cons_succ]
                refine AtN.one 0 (o := ⟨_, _, _, _, _, _⟩) _ _ (by simp) (by kernel_rfl) rfl (TabV.pers _ _) (StabN.new (fun v => ∃ g, v = .slice (some ⟨g, 0, none⟩) 5 5) (TabV 4 65536) (by rfl) (fun w' hS => ⟨_, _, by go_simp; first | done | rfl, ⟨_, rfl⟩, (at_ (hp_new (W := w') (o := .cells #[.int .i32 0, .int .i32 0, .int .i32 128, .int .i32 2048, .int .i32 65536] 21) rfl) 4 _ rfl).1, (Below.refl _ _).alloc (Nat.le_refl _) _⟩)) ?_
                rintro _ ⟨g2, rfl⟩
                simp only [Act.put, List.setIfInBounds_toArray, List.set_cons_zero, List.set_cons_succ]
                refine AtN.take 2 (o := ⟨_, _, _, _, _, _⟩) (v := ?_) (by kernel_rfl) rfl (by simp) (by kernel_rfl) (by kernel_rfl) ?_ ?_; rotate_left
                · refine StabN.val (by rfl) ?_; intro w' hS; have hc : w'.cell? ⟨g2, 4, none⟩ = some (.int .i32 65536) := hS.2; go_simp; first | done | with_reducible rfl
                simp only [Act.put, List.setIfInBounds_toArray, List.set_cons_zero, List.set_cons_succ]
                refine AtN.take 3 (o := ⟨_, _, _, _, _, _⟩) (v := ?_) (by kernel_rfl) rfl (by simp) (by kernel_rfl) (by kernel_rfl) ?_ ?_; rotate_left
                · refine StabN.val (by rfl) ?_; intro w' hS; have hc : w'.cell? ⟨g2, 4, none⟩ = some (.int .i32 65536) := hS.2; go_simp; first | done | with_reducible rfl
                simp only [Act.put, List.setIfInBounds_toArray, List.set_cons_zero, List.set_cons_succ]
                refine AtN.take 8 (o := ⟨_, _, _, _, _, _⟩) (v := ?_) (by kernel_rfl) rfl (by simp) (by kernel_rfl) (by kernel_rfl) ?_ ?_; rotate_left
                · first | exact StabN.skip (by rfl) | (refine StabN.val (by rfl) ?_; intro w' hS; obtain hS0 := hS; go_simp; first | done | with_reducible rfl)
                simp only [Act.put, List.setIfInBounds_toArray, List.set_cons_zero, List.set_cons_succ]
                refine AtN.done (by kernel_rfl) (fun w' hS => ?_)
                have HB9 := Lib.hid (HFIN.out _ hS.1.1)
                clear hS
                go_wp2
                all_goals
                  first
                  | (go_ret; exact ⟨⟨_, rfl⟩, HB9.out⟩)
                  | (go_roundw
                     case rel => exact ⟨5, by omega, by omega, by go_num, HB9.out⟩
                     case measure => simp [intOf])
    · go_wp2
      go_ret
      exact ⟨⟨_, rfl⟩, hB⟩
end Go.Proofs.YtbllhchcccflkaaDoor
