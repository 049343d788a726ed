/- The document's blocks in memory; phase, reach. Conditions: as stated. -/
import Derived.Test.YtgfaincejebogaaBlL
namespace Go.Proofs.Ytgfaincejebogaa
open Go.RowKit

structure Mk where
  id : Int
  ph : Int
  r : Int
  c : Int
def encMk (m : Mk) : List Value := [.int .u64 m.id, .int .i64 m.ph, .int .i64 m.r, .int .i64 m.c]
theorem encMk_len : ∀ m, (encMk m).length = 4 := fun _ => rfl
theorem encMk_one : ∀ m, ∀ v ∈ encMk m, v.oneCell' = true := fun m v hv => by
  simp only [encMk, List.mem_cons, List.not_mem_nil, or_false] at hv
  rcases hv with rfl | rfl | rfl | rfl <;> rfl
structure Fc where
  id : Int
  code : Int
  has : Bool
  cut : Bool
  dir : ByteArray
  line : ByteArray
def encFc (f : Fc) : List Value := [.int .u64 f.id, .int .i64 f.code, .bool f.has, .bool f.cut, .string f.dir, .string f.line]
theorem encFc_len : ∀ f, (encFc f).length = 6 := fun _ => rfl
theorem encFc_one : ∀ f, ∀ v ∈ encFc f, v.oneCell' = true := fun m v hv => by
  simp only [encFc, List.mem_cons, List.not_mem_nil, or_false] at hv
  rcases hv with rfl | rfl | rfl | rfl | rfl | rfl <;> rfl
theorem info_mk : (Try.prog.info? 84).map (fun i => (i.zero, i.size, i.bytes)) = some (some (.agg #[.int .u64 0, .int .i64 0, .int .i64 0, .int .i64 0]), 4, 32) := by kernel_rfl
theorem info_fc : (Try.prog.info? 82).map (fun i => (i.zero, i.size, i.bytes)) = some (some (.agg #[.int .u64 0, .int .i64 0, .bool false, .bool false, .string ByteArray.empty, .string ByteArray.empty]), 6, 56) := by kernel_rfl
/-- The document's store at q. -/
structure RbO (w : World) (q : Nat) (vM vF : Value) (M : List Mk) (F : List Fc) (most ids : Int) (dir : ByteArray) : Prop where
  most : w.cell? ⟨q, 0, none⟩ = some (.int .i64 most)
  m : HoldAt w q 1 vM
  f : HoldAt w q 2 vF
  ids : HoldAt w q 3 (.int .u64 ids)
  dir : HoldAt w q 4 (.string dir)
  ownM : w.ownsRow (q + 1) 84 4 vM M.length (flat encMk M)
  ownF : w.ownsRow (q + 1) 82 6 vF F.length (flat encFc F)
def rfoot (q : Nat) (vM vF : Value) : List Nat := q :: (vM.ownBlock.toList ++ vF.ownBlock.toList)
theorem RbO.lt {w : World} {q : Nat} {vM vF : Value} {M : List Mk} {F : List Fc} {most ids : Int} {dir : ByteArray} (h : RbO w q vM vF M F most ids dir) : ∀ g ∈ rfoot q vM vF, g < w.heap.size := by
  intro g hg
  rcases List.mem_cons.1 hg with rfl | hg
  · exact lt_of_cell h.most
  · rcases List.mem_append.1 hg with hg | hg
    · exact (h.ownM.lt g (by simpa [Option.mem_toList] using hg)).2
    · exact (h.ownF.lt g (by simpa [Option.mem_toList] using hg)).2
theorem RbO.mod {w w' : World} {q : Nat} {vM vF : Value} {M : List Mk} {F : List Fc} {most ids : Int} {dir : ByteArray} {X : List Nat} (h : RbO w q vM vF M F most ids dir) (hm : Mod X w w') (hX : ∀ g ∈ rfoot q vM vF, g ∉ X) : RbO w' q vM vF M F most ids dir := by
  have hq := hX q (by simp [rfoot])
  exact ⟨hm.cell hq h.most, hm.hold hq h.m, hm.hold hq h.f, hm.hold hq h.ids, hm.hold hq h.dir, owns_mod h.ownM hm (fun g hg => hX g (by simp [rfoot, hg])), owns_mod h.ownF hm (fun g hg => hX g (by simp [rfoot, hg]))⟩
theorem RbO.below {w w' : World} {q : Nat} {vM vF : Value} {M : List Mk} {F : List Fc} {most ids : Int} {dir : ByteArray} (h : RbO w q vM vF M F most ids dir) (hb : Below w.heap.size w w') : RbO w' q vM vF M F most ids dir :=
  h.mod (Mod.of_below (X := []) hb) (fun _ _ h => by cases h)
theorem owns_tag {w : World} {base base' n n' s s' : Nat} {e e' : TypeId} {v v' : Value} {xs xs' : List Value} (h : w.ownsRow base e s v n xs) (h' : w.ownsRow base' e' s' v' n' xs') (hne : e ≠ e') : ∀ g, v.ownBlock = some g → v'.ownBlock ≠ some g := by
  intro g hg hg'
  rcases h.2 with ⟨rfl, -⟩ | ⟨g1, cap, cur, rfl, -, e1, -⟩
  · simp [Value.ownBlock] at hg
  · rcases h'.2 with ⟨rfl, -⟩ | ⟨g2, cap2, cur2, rfl, -, e2, -⟩
    · simp [Value.ownBlock] at hg'
    · simp [Value.ownBlock] at hg hg'
      subst hg hg'
      rw [e1] at e2
      injection e2 with e2
      injection e2 with _ ht
      exact hne ht
/-- The marks are others: their row laid into the store. -/
theorem RbO.setM {w w5 : World} {q : Nat} {vM vF v1 : Value} {M M' : List Mk} {F : List Fc} {most ids : Int} {dir : ByteArray} (h : RbO w q vM vF M F most ids dir) (hm : Mod vM.ownBlock.toList w w5)
    (ho : w5.ownsRow (q + 1) 84 4 v1 M'.length (flat encMk M')) : RbO (w5.setCell ⟨q, 1, none⟩ v1) q v1 vF M' F most ids dir ∧ Mod (q :: vM.ownBlock.toList) w (w5.setCell ⟨q, 1, none⟩ v1) ∧ HoldAt w5 q 1 vM := by
  have hqM : q ∉ vM.ownBlock.toList := fun hx => by have := (h.ownM.lt q (by simpa [Option.mem_toList] using hx)).1; omega
  have h1 := hm.hold hqM h.m
  have other : ∀ i u, i ≠ 1 → HoldAt w q i u → HoldAt (w5.setCell ⟨q, 1, none⟩ v1) q i u := fun i u hi hu => by
    have hu' := hm.hold hqM hu
    exact ⟨(World.cell?_setCell_other _ _ _ _ (fun e => by injection e with e1 e2; omega)).trans hu'.1, by rw [World.frozen?_setCell]; exact hu'.2⟩
  have hF5 := owns_mod h.ownF hm (fun g hg hx => owns_tag h.ownM h.ownF (by decide) g (by simpa [Option.mem_toList] using hx) hg)
  exact ⟨⟨(World.cell?_setCell_other _ _ _ _ (fun e => by injection e with e1 e2; omega)).trans (hm.cell hqM h.most), set_self h1, other 2 _ (by decide) h.f, other 3 _ (by decide) h.ids, other 4 _ (by decide) h.dir, ownsRow_setCell_below ho (Nat.lt_succ_self q) _, ownsRow_setCell_below hF5 (Nat.lt_succ_self q) _⟩, (hm.mono (fun g hg => by simp [hg])).setCell (.inl (by simp)) _, h1⟩
theorem RbO.setF {w w5 : World} {q : Nat} {vM vF v1 : Value} {M : List Mk} {F F' : List Fc} {most ids : Int} {dir : ByteArray} (h : RbO w q vM vF M F most ids dir) (hm : Mod vF.ownBlock.toList w w5)
    (ho : w5.ownsRow (q + 1) 82 6 v1 F'.length (flat encFc F')) : RbO (w5.setCell ⟨q, 2, none⟩ v1) q vM v1 M F' most ids dir ∧ Mod (q :: vF.ownBlock.toList) w (w5.setCell ⟨q, 2, none⟩ v1) ∧ HoldAt w5 q 2 vF := by
  have hqM : q ∉ vF.ownBlock.toList := fun hx => by have := (h.ownF.lt q (by simpa [Option.mem_toList] using hx)).1; omega
  have h1 := hm.hold hqM h.f
  have other : ∀ i u, i ≠ 2 → HoldAt w q i u → HoldAt (w5.setCell ⟨q, 2, none⟩ v1) q i u := fun i u hi hu => by
    have hu' := hm.hold hqM hu
    exact ⟨(World.cell?_setCell_other _ _ _ _ (fun e => by injection e with e1 e2; omega)).trans hu'.1, by rw [World.frozen?_setCell]; exact hu'.2⟩
  have hF5 := owns_mod h.ownM hm (fun g hg hx => owns_tag h.ownM h.ownF (by decide) g hg (by simpa [Option.mem_toList] using hx))
  exact ⟨⟨(World.cell?_setCell_other _ _ _ _ (fun e => by injection e with e1 e2; omega)).trans (hm.cell hqM h.most), other 1 _ (by decide) h.m, set_self h1, other 3 _ (by decide) h.ids, other 4 _ (by decide) h.dir, ownsRow_setCell_below hF5 (Nat.lt_succ_self q) _, ownsRow_setCell_below ho (Nat.lt_succ_self q) _⟩, (hm.mono (fun g hg => by simp [hg])).setCell (.inl (by simp)) _, h1⟩
def lastPh (M : List Mk) : Int := match M.getLast? with | some m => m.ph | none => 0
set_option maxRecDepth 100000 in
set_option maxHeartbeats 1600000 in
theorem rphase_any {q : Nat} {vM vF : Value} {M : List Mk} {F : List Fc} {most ids : Int} {dir : ByteArray} (w : World) (h : RbO w q vM vF M F most ids dir) (hz : M.length ≤ 100000) :
    Calls Try.prog 36 #[.pointer (some ⟨q, 0, none⟩)] w fun e w' => e = .returned (.int .i64 (lastPh M)) ∧ Below w.heap.size w w' := by
  have h0 := h.m.1
  obtain ⟨A, c, rfl, -, -, -, hg⟩ := gr_of_owns encMk_len h.ownM rfl
  rcases Nat.eq_zero_or_pos M.length with hl | hl
  · obtain rfl : M = [] := List.length_eq_zero_iff.1 hl
    clear h hg
    go_enter Try.func36, Try.ntmps36
    go_wp2
    go_ret
    exact ⟨rfl, Below.refl _ _⟩
  · obtain ⟨k, hk⟩ : ∃ k, M.length = k + 1 := ⟨M.length - 1, by omega⟩
    obtain ⟨b, off, x, rfl, hx, cx⟩ := hg.at_ (show k < M.length by omega)
    have e : lastPh M = x.ph := by unfold lastPh; rw [List.getLast?_eq_getElem?, show M.length - 1 = k by omega, hx]
    have c1 : w.cell? ⟨b, off + k * 4 + 1, none⟩ = some (.int .i64 x.ph) := cx 1 _ rfl
    rw [e]
    have hne : ((M.length : Int) == 0) = false := beq_eq_false_iff_ne.2 (by omega)
    have hw : IntKind.i64.wrap ((M.length : Int) - 1) = (k : Int) := by rw [IntWalk.i64_in _ (by omega)]; omega
    have hkN : (k : Int) < (M.length : Int) := by omega
    have hkN2 : k < M.length := by omega
    clear h hg e cx hx hk
    go_enter Try.func36, Try.ntmps36
    go_wp2_with fail
    refine wp_region_u 13 (fun w' => Below w.heap.size w w' ∧ w'.cell? ⟨q, 1, none⟩ = some (.slice (some ⟨b, off, none⟩) M.length c) ∧ w'.cell? ⟨b, off + k * 4 + 1, none⟩ = some (.int .i64 x.ph)) (by kernel_rfl) (by kernel_rfl) ?_ ?_
    · exact ⟨(Below.refl _ _).drew, h0, c1⟩
    simp only [List.take_succ_cons, List.take_zero, List.drop_succ_cons, List.drop_zero]
    repeat (refine seqU_val ?_ (by rfl) ?_ ?_; rotate_left; · (intro w' hS; obtain ⟨_, _⟩ := hS; go_simp; first | done | with_reducible rfl)
            simp only [Act.put, List.setIfInBounds_toArray, List.set_cons_zero, List.set_cons_succ])
    refine seqU_nil (fun w' hS => ?_)
    have hb := hS.1
    clear hS h0 c1
    go_wp2
    go_ret
    exact ⟨rfl, hb⟩
end Go.Proofs.Ytgfaincejebogaa
