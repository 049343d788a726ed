/- shift.Sort, whole: a row of the call's own that holds the places in their order. Conditions: none. -/
import Derived.Test.YtfadcmjdlfobhaaShS
import Derived.Test.YtfadcmjdlfobhaaSoR
import Derived.Test.YtfadcmjdlfobhaaPtPl
import Derived.Test.YtfadcmjdlfobhaaLayPos
import Derived.Lib.SmallJoins
namespace Go.Proofs.Ytfadcmjdlfobhaa
open Go.RowKit Go.Sort

def encP (p : P2) : List Value := [.int .i64 p.1, .int .i64 p.2]
theorem encP_len : ∀ x, (encP x).length = 2 := fun _ => rfl
theorem encP_one : ∀ x, ∀ v ∈ encP x, v.oneCell' = true := fun x v hv => by simp [encP] at hv; rcases hv with rfl | rfl <;> rfl
def ordP (x y : P2) : Int := ordI x.1 x.2 y.1 y.2
theorem ltOf_ordP (x y : P2) : ltOf ordP x y = ltP x y := by unfold ltOf ordP; rw [ordI_neg]; rfl
theorem swoP : SWO (ltOf ordP) where
  irrefl x := by rw [ltOf_ordP, ltP_no]; omega
  trans x y z h1 h2 := by rw [ltOf_ordP, ltP_iff] at *; omega
  ntrans x y z h1 h2 := by rw [ltOf_ordP, ltP_no] at *; omega
theorem two_grow (W : World) (r c r' c' : Int) : ∃ os, two (two W r c r' c') r c r' c' = grow (W.drewN 0) os :=
  ⟨_, by unfold two; rw [alloc_eq_grow, alloc_eq_grow, alloc_eq_grow, alloc_eq_grow, grow_grow, grow_grow, grow_grow]; rfl⟩
theorem cmpLaysP (blk off size : Nat) (w : World) : CmpLays Try.prog 68 #[] encP 2 ordP blk off size w := fun _ _ _ _ x y =>
  (Sort1_w x.1 x.2 y.1 y.2 _).mono fun e w' ⟨he, hw⟩ => by
    obtain ⟨os, ho⟩ := two_grow (sortWorldK encP 2 w blk off _ _ _) x.1 x.2 y.1 y.2
    exact ⟨he, 0, os, hw.trans ho⟩
theorem isAggPos : ∀ w, (isAgg 30).run Try.prog w = .ok true w := Try.isAgg30
theorem info_pos : (Try.prog.info? 30).map (fun i => (i.zero, i.size, i.bytes)) = some (some (.agg #[.int .i64 0, .int .i64 0]), 2, 16) := by kernel_rfl
/-- The library's sort, at a row of the call's own. -/
theorem SortFunc_any (base g cap : Nat) (l : List P2) (w : World) (h : w.ownsRow base 30 2 (.slice (some ⟨g, 0, none⟩) l.length cap) l.length (flat encP l)) (hz : l.length ≤ 1000000) :
    Calls Try.prog 67 #[.slice (some ⟨g, 0, none⟩) l.length cap, .func (.func 68) #[] #[]] w fun e w' =>
      e = .returned (.tuple #[]) ∧ w'.ownsRow base 30 2 (.slice (some ⟨g, 0, none⟩) l.length cap) l.length (flat encP (sortP l)) ∧ w.grownBy w' (some g) := by
  have eg : ∀ args w, (callFunc 68 args).run Try.prog w = .ok (.enter 68 args) w := enters_of Try.func68 (by kernel_rfl) rfl
  have hH : HoldsK encP 2 w g 0 l.toArray := by
    unfold HoldsK
    rw [flatK_flat encP_len]
    exact holds_of_owns h
  have hblk : g < w.heap.size := (h.lt g rfl).2
  have hcon := AnyQ.slices_SortFunc_total Try.sortPos 2 isAggPos Try.sizeOf30 encP encP_len encP_one ordP swoP 68 #[] g 0 cap l.toArray w eg (cmpLaysP g 0 _ w) hH hblk (by simp; omega) (fun x y h1 h2 => by rw [ltOf_ordP] at h1 h2; exact ltP_eq h1 h2)
  change Calls Try.prog 67 _ _ _ at hcon
  rw [List.size_toArray] at hcon
  refine hcon.mono fun e w' ⟨he, n, os, hw⟩ => ?_
  have hs : (l.toArray.toList.mergeSort fun x y => !ltOf ordP y x) = sortP l := by
    unfold sortP
    congr 1
    funext x y
    rw [ltOf_ordP]
  rw [hs] at hw
  unfold sortWorldK putRowK at hw
  rw [flatK_flat encP_len] at hw
  have hF : (flat encP (sortP l)).toArray.size = l.length * 2 := by simp [flat_len encP_len, sortP_len]
  subst hw
  exact ⟨he, owns_putRow h _ hF n os, grownBy_putRow w g _ n os⟩
/-- The copy that a Sort makes: an append to nil. -/
theorem append_nil_none {P : Program} {t ty e : TypeId} {i : TypeInfo} (ht : P.underlying t = some (.slice e)) (hi : P.info? e = some i) (X : Option Addr) (c : Nat) (w : World) :
    (Builtin.append_ #[t, t] ty #[.slice none 0 0, .slice X 0 c]).run P w = .ok (.slice none 0 0) w := by
  cases X <;> simp [Builtin.append_, run_underlying ht, sizeOf, typeInfo, hi, Builtin.lenOf, Builtin.firstCells, loadCells, loadCellsFrom]
theorem wpList_append_nothing {P : Program} {ops : Array Oper} {rest : List Oper} {o : Oper} {a : Act} {w : World} {Q : Exit → Act → World → Prop} (hgd : o.guard = none) (s x : Operand) (t : TypeId) (ho : o.op = .call { callee := .builtin .append, args := #[s, x], argTypes := #[t, t] })
    {e : TypeId} {i : TypeInfo} (ht : P.underlying t = some (.slice e)) (hi : P.info? e = some i) (X : Option Addr) (c : Nat) (hs : a.eval s = .slice none 0 0) (hx : a.eval x = .slice X 0 c)
    (h : wpList P ops Q rest (a.put o.dst (.slice none 0 0)) w) : wpList P ops Q (o :: rest) a w := by
  refine wpList_plain hgd fun K hK => ?_
  unfold Oper.wp execOp
  simp only [ho, resolve, invoke, builtin, Sem.run_bind, Sem.run_pure, Result.andThen_ok, List.map_toArray, List.map_cons, List.map_nil, hs, hx, append_nil_none ht hi X c w]
  exact hK _ _ h
def SortPost (w : World) (n : Nat) (s : List P2) (e : Ending) (w' : World) : Prop := ∃ v : Value, e = .returned v ∧ w'.ownsRow w.heap.size 30 2 v n (flat encP s) ∧ Below w.heap.size w w'
set_option maxRecDepth 100000 in
set_option maxHeartbeats 1600000 in
theorem Sort_any (A : Option Addr) (l : List P2) (ca : Nat) (w : World) (hl : GrAt encP 2 w A l) (hz : l.length ≤ 1000000) :
    Calls Try.prog 47 #[.slice A l.length ca] w (SortPost w l.length (sortP l)) := by
  obtain ⟨j0, hj, gz0, gz1, gz2⟩ := info_parts info_pos
  rcases Nat.eq_zero_or_pos l.length with h0 | h0
  · have HN : Hid (∀ (p : Option Addr) (cap : Nat) (fv : Value) (w : World), Calls Try.prog 67 #[.slice p 0 cap, fv] w fun e w' => e = .returned (.tuple #[]) ∧ w = w') :=
      Lib.hid fun p cap fv w => (AnyF.slices_SortFunc_none Try.sortPos p cap fv w).mono fun _ _ ⟨he, hw⟩ => ⟨he, hw.symm⟩
    have el : l = [] := List.length_eq_zero_iff.1 h0
    subst el
    clear hl
    go_enter Try.func47, Try.ntmps47
    go_wp2_with (first
      | (at_builtin; refine wpList_append_nothing rfl (.const (.slice none 0 0)) (.tmp 4) _ rfl Try.underlying40 hj A ca rfl rfl ?_)
      | (go_at_call 67; refine (HN.out _ _ _ _).mono ?_; rintro e w1 ⟨rfl, rfl⟩))
    go_ret
    have e0 : flat encP (sortP []) = [] := by simp [sortP, flat]
    refine ⟨.slice none 0 0, rfl, ?_, Below.refl _ _⟩
    rw [e0]
    exact World.ownsRow_nil _ _ _ _
  · obtain ⟨b, off, rfl, -⟩ := hl h0
    have HN := Lib.hid (hl.news encP_len)
    clear hl
    go_enter Try.func47, Try.ntmps47
    go_wp2_with (first
      | (at_builtin; refine wpList_append_own _ rfl (.const (.slice none 0 0)) (.tmp 4) _ rfl w.heap.size 30 j0 (.agg #[.int .i64 0, .int .i64 0]) 2 16 Try.underlying40 hj gz0 gz1 gz2 rfl (by decide) _ 0 [] rfl (World.ownsRow_nil _ _ _ _) ⟨b, off, none⟩ l.length ca (flat encP l) rfl (flat_len encP_len l) HN.out (flat_one encP_one l) (by simp only [maxLen]; omega) (by omega) (Nat.le_refl _) ?_; intro v1 w1 hown1 hg1 _; have HG := Lib.hid hg1; clear hg1; rw [Nat.zero_add, List.nil_append] at hown1; obtain ⟨g1, cap1, rfl⟩ := Go.Joins.ownsRow_form hown1 h0; have HO := Lib.hid hown1; clear hown1)
      | (go_at_call 67; refine (SortFunc_any w.heap.size g1 cap1 l _ HO.out hz).mono ?_; rintro e w2 ⟨rfl, ho2, hg2⟩; have HO2 := Lib.hid ho2; have HG2 := Lib.hid hg2; clear ho2 hg2))
    go_ret
    refine ⟨_, rfl, HO2.out, ?_⟩
    have hb1 : Below w.heap.size w w1 := (Below.refl _ _).grown HG.out (Nat.le_refl _) (fun k hk => by cases hk)
    exact hb1.grown HG2.out hb1.size (fun k hk => by
      obtain rfl : g1 = k := by simpa using hk
      exact (HO.out.lt g1 rfl).1)
end Go.Proofs.Ytfadcmjdlfobhaa
