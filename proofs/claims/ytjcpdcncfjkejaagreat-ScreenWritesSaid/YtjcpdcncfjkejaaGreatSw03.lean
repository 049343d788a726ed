/- Joined by a tool of this claim out of smaller texts. Conditions: as stated. -/
import Derived.Test.YtjcpdcncfjkejaaGreatSw02
import Derived.Laws.IdiomCopy
import Derived.Deep.CutBlock
import Derived.Deep.DeepCutAuto
set_option linter.unusedVariables false
set_option linter.unusedSimpArgs false
namespace Go.RL
open Go
section
variable {P : Program} {ops : Array Oper} {md : Region.Mode} {I : World → Prop}
def upL (P : Program) (n : Nat) (dst : Option Tmp) (V : Value → World → Prop) : Result Next → Prop
  | .ok (.value u) w' => ∃ v, samePut n dst u v ∧ V v w'
  | .ok .skip w' => ∃ v, samePut n dst undef v ∧ V v w'
  | .ok (.enter f args) w' => Calls P f args w' fun e w'' => match e with
      | .returned u => ∃ v, samePut n dst u v ∧ V v w''
      | _ => False
  | .ok (.row row args) w' => Rows P row args w' fun u w'' => ∃ v, samePut n dst u v ∧ V v w''
  | _ => False
/-- From every world that meets S the operation yields a value and a world of V. -/
def StabL (P : Program) (ops : Array Oper) (S : World → Prop) (o : Oper) (V : Value → World → Prop) (a : Act) : Prop :=
  (Region.wanted o (yielded ops a.tmps) = true ∧ ∀ w, S w → upL P a.tmps.size o.dst V ((execOp a.eval o).run P w)) ∨
  (Region.wanted o (yielded ops a.tmps) = false ∧ ∀ w, S w → V undef w)
theorem StabL.of_same {S : World → Prop} {o : Oper} {V : Value → World → Prop} {a a' : Act} (hy : StabL P ops S o V a) (he : execOp a'.eval o = execOp a.eval o)
    (hw : Region.wanted o (yielded ops a'.tmps) = Region.wanted o (yielded ops a.tmps)) (hs : a'.tmps.size = a.tmps.size) : StabL P ops S o V a' := by
  unfold StabL at *
  rw [he, hw, hs]
  exact hy
theorem StabL.wpOp {S : World → Prop} {Q : Exit → Act → World → Prop} {i : Nat} {o : Oper} {V : Value → World → Prop} {a : Act} (hi : ops[i]? = some o) (hy : StabL P ops S o V a)
    {K : Act → World → Prop} {w : World} (hS : S w) (h : ∀ v w', V v w' → K (a.put o.dst v) w') : wpOp P ops Q i K a w := by
  unfold Go.wpOp
  simp only [hi]
  rcases hy with ⟨hw, hv⟩ | ⟨hw, hv⟩
  · simp only [hw, if_true, Oper.wp]
    refine .inl ?_
    have hv := hv w hS
    generalize (execOp a.eval o).run P w = r at *
    cases r with
    | ok n w' =>
      cases n <;> simp only [upL, Oper.upon] at hv ⊢
      case value u => obtain ⟨v, h1, h2⟩ := hv; rw [h1 a rfl]; exact h _ _ h2
      case skip => obtain ⟨v, h1, h2⟩ := hv; rw [h1 a rfl]; exact h _ _ h2
      case enter f args =>
        refine Calls.mono hv fun e w'' he => ?_
        cases e with
        | returned u => obtain ⟨v, h1, h2⟩ := he; simp only; rw [h1 a rfl]; exact h _ _ h2
        | panicked c => exact he.elim
        | outgrown => exact he.elim
      case row row args => exact Rows.mono hv fun u w'' he => (by obtain ⟨v, h1, h2⟩ := he; rw [h1 a rfl]; exact h _ _ h2)
    | halt x w' => exact hv.elim
  · simp only [hw, Bool.false_eq_true, if_false]; exact h _ _ (hv w hS)
/-- Yields v in every world of I, and leaves the world. -/
def Pure (P : Program) (ops : Array Oper) (I : World → Prop) (o : Oper) (v : Value) (a : Act) : Prop :=
  (Region.wanted o (yielded ops a.tmps) = true ∧ ∀ w, I w → (execOp a.eval o).run P w = .ok (.value v) w) ∨
  (Region.wanted o (yielded ops a.tmps) = false ∧ v = undef)
theorem Pure.of_same {o : Oper} {v : Value} {a a' : Act} (hy : Pure P ops I o v a) (he : execOp a'.eval o = execOp a.eval o)
    (hw : Region.wanted o (yielded ops a'.tmps) = Region.wanted o (yielded ops a.tmps)) : Pure P ops I o v a' := by
  unfold Pure at *
  rw [he, hw]
  exact hy
theorem Pure.stab {o : Oper} {v : Value} {a : Act} (hy : Pure P ops I o v a) (S : World → Prop) : StabL P ops (fun w => I w ∧ S w) o (fun u w => u = v ∧ I w ∧ S w) a := by
  rcases hy with ⟨hw, hv⟩ | ⟨hw, rfl⟩
  · exact .inl ⟨hw, fun w hS => by rw [hv w hS.1]; exact ⟨v, samePut.rfl', rfl, hS⟩⟩
  · exact .inr ⟨hw, fun w hS => ⟨rfl, hS⟩⟩
def wpUL (P : Program) (md : Region.Mode) (ops : Array Oper) (I : World → Prop) (n : Nat) (L : Array Bool → Act → (World → Prop) → Prop) : Nat → Array Bool → Act → (World → Prop) → Prop
  | 0, listed, a, S => L listed a S
  | f + 1, listed, a, S =>
    Region.ready md ops listed ≠ [] ∧ ∀ i ∈ Region.ready md ops listed, i < n ∧ ∃ (o : Oper) (A : Value → Prop) (T : Value → World → Prop), ops[i]? = some o ∧ StabL P ops (fun w => I w ∧ S w) o (fun v w => A v ∧ I w ∧ T v w) a ∧
      ∀ v, A v → wpUL P md ops I n L f (listed.setIfInBounds i true) (a.put o.dst v) (T v)
theorem wpAny_of_headL {n g : Nat} {L : Array Bool → Act → (World → Prop) → Prop} {Q' : Exit → Act → World → Prop} (hL : ∀ listed a S, L listed a S → ∀ w, I w → S w → wpAny P md ops Q' g listed a w) :
    ∀ (f : Nat) (listed : Array Bool) (a : Act) (S : World → Prop), wpUL P md ops I n L f listed a S → ∀ w, I w → S w → wpAny P md ops Q' (f + g) listed a w
  | 0, listed, a, S, h, w, hI, hS => by rw [Nat.zero_add]; exact hL _ _ _ h w hI hS
  | f + 1, listed, a, S, h, w, hI, hS => by
    rw [show f + 1 + g = (f + g) + 1 by omega]
    refine ⟨fun h0 => absurd h0 h.1, fun i hi => ?_⟩
    obtain ⟨_, o, A, T, ho, hy, hr⟩ := h.2 i hi
    exact hy.wpOp ho (And.intro hI hS) (fun v w' hv => wpAny_of_headL hL f _ _ _ (hr v hv.1) w' hv.2.1 hv.2.2)
theorem wpUL_first {n i : Nat} {oi : Oper} {v : Value} {L : Array Bool → Act → (World → Prop) → Prop} (hi : ops[i]? = some oi) (hsel : ∀ (j : Nat) (o : Oper) cs b, ops[j]? = some o → o.op ≠ .select cs b)
    (hs : Region.sinkB md ops n = true) (hc : Region.chainB md ops n = true) (hn : n < ops.size) (hin : i < n)
    (hdone : ∀ listed a S, L listed a S → ∀ j ∈ Region.ready md ops listed, n ≤ j) :
    ∀ (f : Nat) (listed : Array Bool) (a : Act) (S : World → Prop), HeadInv md ops n listed →
      (∀ j oj, ops[j]? = some oj → j ≠ i → listed.getD j true = false → (∀ e ∈ oj.after, Region.binds md e = true → e.on ≠ i) → oi.apart ops oj = true) →
      i ∈ Region.ready md ops listed → Pure P ops I oi v a →
      wpUL P md ops I n L f (listed.setIfInBounds i true) (a.put oi.dst v) S → wpUL P md ops I n L (f + 1) listed a S := by
  intro f
  induction f with
  | zero =>
    intro listed a S inv _ hr hy H
    have hun := (mem_ready.1 hr).1
    refine ⟨fun h => (by rw [h] at hr; cases hr), fun j hj => ?_⟩
    have hjn : j < n := by
      rcases Nat.lt_or_ge j n with h | h
      · exact h
      · exact absurd hj (tail_waits hs hc hn inv _ i rfl hin hun j h)
    refine ⟨hjn, ?_⟩
    by_cases hji : j = i
    · subst hji
      exact ⟨oi, (· = v), fun _ => S, hi, hy.stab S, fun u hu => by subst hu; exact H⟩
    · have := hdone _ _ _ H j (ready_mono hj hji)
      omega
  | succ f ih =>
    intro listed a S inv hfree hr hy H
    have hun := (mem_ready.1 hr).1
    refine ⟨fun h => (by rw [h] at hr; cases hr), fun j hj => ?_⟩
    have hjn : j < n := by
      rcases Nat.lt_or_ge j n with h | h
      · exact h
      · exact absurd hj (tail_waits hs hc hn inv _ i rfl hin hun j h)
    refine ⟨hjn, ?_⟩
    by_cases hji : j = i
    · subst hji
      exact ⟨oi, (· = v), fun _ => S, hi, hy.stab S, fun u hu => by subst hu; exact H⟩
    · obtain ⟨_, oj', A, T, hoj', hyj, Hj⟩ := H.2 j (ready_mono hj hji)
      obtain ⟨hjun, oj, hoj, hall⟩ := mem_ready.1 hj
      obtain rfl : oj' = oj := Option.some.inj (hoj'.symm.trans hoj)
      have hnot : ∀ e ∈ oj'.after, Region.binds md e = true → e.on ≠ i := fun e he hb heq => by
        have h1 := hall e he hb
        rw [heq, getD_both hun] at h1
        cases h1
      obtain ⟨h1, h2, h3⟩ := Oper.apart_spec (hfree j oj' hoj hji hjun hnot)
      have hsi := fun cs b => hsel i oi cs b hi
      have hsj := fun cs b => hsel j oj' cs b hoj
      have hyj' := hyj.of_same (execOp_put oj' hsj a oi.dst v h1).symm (wanted_put oj' a oi.dst v h1).symm (Act.put_size _ _ _).symm
      have hfree' : ∀ k ok, ops[k]? = some ok → k ≠ i → (listed.setIfInBounds j true).getD k true = false →
          (∀ e ∈ ok.after, Region.binds md e = true → e.on ≠ i) → oi.apart ops ok = true := fun k ok hk hki hun hno => by
        refine hfree k ok hk hki ?_ hno
        by_cases hjk : j = k
        · subst hjk; exact hjun
        · rw [getD_set_ne true hjk] at hun; exact hun
      refine ⟨oj', A, T, hoj, hyj', fun u hu => ?_⟩
      have hyi' : Pure P ops I oi v (a.put oj'.dst u) := hy.of_same (execOp_put oi hsi a oj'.dst u h3) (wanted_put oi a oj'.dst u h3)
      refine ih (listed.setIfInBounds j true) _ _ (inv.set hj hjn) hfree' (ready_mono hr (Ne.symm hji)) hyi' ?_
      rw [Array.setIfInBounds_comm _ _ hji, ← Act.put_comm a v u h2]
      exact Hj u hu
/-- The leaf: the forced tail, from every world that meets the state. -/
def tailL (P : Program) (ops : Array Oper) (I : World → Prop) (Q : Exit → Act → World → Prop) (n : Nat) : Array Bool → Act → (World → Prop) → Prop := fun listed a S =>
  Region.seqB .any ops (ops.size - n) n listed = true ∧ ∀ w, I w → S w → wpList P ops Q (ops.toList.drop n) a w
structure AtL (P : Program) (ops : Array Oper) (I : World → Prop) (Q : Exit → Act → World → Prop) (n : Nat) (f : Nat) (listed : Array Bool) (a : Act) (S : World → Prop) : Prop where
  h : HeadInv .any ops n listed → wpUL P .any ops I n (tailL P ops I Q n) f listed a S
variable {Q : Exit → Act → World → Prop} {S : World → Prop} {a : Act} {listed : Array Bool} {n f : Nat}
def Region.tailB (ops : Array Oper) (n : Nat) : Bool := Region.noSelect ops && decide (n < ops.size) && Region.sinkB .any ops n && Region.chainB .any ops n
/-- Take number i, which only reads, first. -/
theorem AtL.take (i : Nat) {o : Oper} {v : Value} (hB : RL.Region.tailB ops n = true) (hi : ops[i]? = some o) (hin : (i < n) = True) (hf : Region.free .any ops listed i = true) (hr : (Region.ready .any ops listed).contains i = true)
    (hy : Pure P ops I o v a) (h : AtL P ops I Q n f (listed.setIfInBounds i true) (a.put o.dst v) S) : AtL P ops I Q n (f + 1) listed a S := ⟨fun inv => by
  simp only [RL.Region.tailB, Bool.and_eq_true, decide_eq_true_eq] at hB
  obtain ⟨⟨⟨hsel, hn⟩, hs⟩, hc⟩ := hB
  have hr' : i ∈ Region.ready .any ops listed := by simpa using hr
  have hin' : i < n := by rw [hin]; trivial
  exact wpUL_first hi (Region.noSelect_spec hsel) hs hc hn hin' (fun listed a S hL => seqB_ready hL.1) f listed a S inv (Region.free_spec hi hf) hr' hy (h.h (inv.set hr' hin'))⟩
/-- At number c of the operations that are taken one behind the other. -/
def AtK (c : Nat) (P : Program) (ops : Array Oper) (I : World → Prop) (Q : Exit → Act → World → Prop) (n : Nat) (f : Nat) (listed : Array Bool) (a : Act) (S : World → Prop) : Prop := c ≤ c ∧ AtL P ops I Q n f listed a S
theorem AtL.go (c : Nat) (h : AtK c P ops I Q n f listed a S) : AtL P ops I Q n f listed a S := h.2
theorem AtK.back {c : Nat} (h : AtL P ops I Q n f listed a S) : AtK c P ops I Q n f listed a S := ⟨Nat.le_refl c, h⟩
theorem AtK.take {i : Nat} {o : Oper} {v : Value} (hB : RL.Region.tailB ops n = true) (hi : ops[i]? = some o) (hin : (i < n) = True) (hf : Region.free .any ops listed i = true) (hr : (Region.ready .any ops listed).contains i = true)
    (hy : Pure P ops I o v a) (h : AtK (i + 1) P ops I Q n f (listed.setIfInBounds i true) (a.put o.dst v) S) : AtK i P ops I Q n (f + 1) listed a S := ⟨Nat.le_refl i, AtL.take i hB hi hin hf hr hy h.2⟩
/-- One alone may come up. -/
theorem AtL.one (i : Nat) {o : Oper} (A : Value → Prop) (T : Value → World → Prop) (hin : (i < n) = True) (hr : Region.ready .any ops listed = [i]) (hi : ops[i]? = some o)
    (hy : StabL P ops (fun w => I w ∧ S w) o (fun v w => A v ∧ I w ∧ T v w) a) (h : ∀ v, A v → AtL P ops I Q n f (listed.setIfInBounds i true) (a.put o.dst v) (T v)) : AtL P ops I Q n (f + 1) listed a S := ⟨fun inv => by
  have hin' : i < n := by rw [hin]; trivial
  refine ⟨by rw [hr]; simp, fun j hj => ?_⟩
  have hj' := hj
  rw [hr] at hj
  obtain rfl : j = i := by simpa using hj
  exact ⟨hin', o, A, T, hi, hy, fun v hv => (h v hv).h (inv.set hj' hin')⟩⟩
theorem AtL.done (hB : Region.seqB .any ops (ops.size - n) n listed = true) (h : ∀ w, I w → S w → wpList P ops Q (ops.toList.drop n) a w) : AtL P ops I Q n 0 listed a S := ⟨fun _ => ⟨hB, h⟩⟩
theorem wp_region_l {id : Nat} {w : World} (n : Nat) (I S : World → Prop) (hm : P.follows .mixedOrders = true) (hB : RL.Region.tailB ops n = true) (hI : I w.drew) (hS : S w.drew)
    (h : AtL P ops I Q n n (Array.replicate ops.size false) a S) : (Code.region id ops true).wp P Q a w := by
  simp only [RL.Region.tailB, Bool.and_eq_true, decide_eq_true_eq] at hB
  obtain ⟨⟨⟨hsel, hn⟩, hs⟩, hc⟩ := hB
  have inv0 : HeadInv .any ops n (Array.replicate ops.size false) :=
    ⟨by simp, fun j oj _ hl => (by rw [getD_replicate_false] at hl; cases hl), fun t _ ht => getD_in (by simpa using ht) (getD_replicate_false _ _)⟩
  refine wp_region_any hm ?_
  have := wpAny_of_headL (Q' := Q) (g := ops.size - n) (fun listed a' S hL w' hI' hS' => by
    have := wpAny_of_seq (md := .any) (Q' := Q) (ops.toList.drop n) n listed a' w' (fun j => by simp [List.getElem?_drop]) (by simpa using hL.1) (hL.2 w' hI' hS')
    simpa using this) _ _ _ _ (h.h inv0) w.drew hI hS
  rw [show n + (ops.size - n) = ops.size by omega] at this
  exact this
/-- An operation that yields its value and leaves the world. -/
theorem Pure.val {o : Oper} {v : Value} (hw : Region.wanted o (yielded ops a.tmps) = true) (h : ∀ w, I w → (execOp a.eval o).run P w = .ok (.value v) w) : Pure P ops I o v a := .inl ⟨hw, h⟩
/-- An operation that writes. -/
theorem StabL.op {o : Oper} (A : Value → Prop) (T : Value → World → Prop) (hw : Region.wanted o (yielded ops a.tmps) = true)
    (h : ∀ w, I w → S w → ∃ v w', (execOp a.eval o).run P w = .ok (.value v) w' ∧ A v ∧ I w' ∧ T v w') : StabL P ops (fun w => I w ∧ S w) o (fun v w => A v ∧ I w ∧ T v w) a :=
  .inl ⟨hw, fun w hS => by
    obtain ⟨v, w', hr, hA, hI, hT⟩ := h w hS.1 hS.2
    rw [hr]; exact ⟨v, samePut.rfl', hA, hI, hT⟩⟩
/-- An operation that writes and yields nothing. -/
theorem StabL.unit {o : Oper} (A : Value → Prop) (T : Value → World → Prop) (hw : Region.wanted o (yielded ops a.tmps) = true)
    (h : ∀ w, I w → S w → ∃ w', (execOp a.eval o).run P w = .ok .skip w' ∧ A undef ∧ I w' ∧ T undef w') : StabL P ops (fun w => I w ∧ S w) o (fun v w => A v ∧ I w ∧ T v w) a :=
  .inl ⟨hw, fun w hS => by
    obtain ⟨w', hr, hA, hI, hT⟩ := h w hS.1 hS.2
    rw [hr]; exact ⟨undef, samePut.rfl', hA, hI, hT⟩⟩
theorem StabL.call {o : Oper} (fn : FuncId) (args : Array Value) (A : Value → Prop) (T : Value → World → Prop) (hw : Region.wanted o (yielded ops a.tmps) = true) (h : ∀ w, (execOp a.eval o).run P w = .ok (.enter fn args) w)
    (hc : ∀ w, I w → S w → Calls P fn args w fun e w' => ∃ v, e = .returned v ∧ A v ∧ I w' ∧ T v w') : StabL P ops (fun w => I w ∧ S w) o (fun v w => A v ∧ I w ∧ T v w) a :=
  .inl ⟨hw, fun w hS => by
    rw [h w]
    refine (hc w hS.1 hS.2).mono fun e w' ⟨v, he, hv⟩ => ?_
    rw [he]
    exact ⟨v, samePut.rfl', hv⟩⟩
end
end Go.RL
namespace Go.RL
section
variable {P : Program} {ops : Array Oper} {I : World → Prop} {Q : Exit → Act → World → Prop} {S : World → Prop} {a : Act} {listed : Array Bool} {n f : Nat}
theorem AtL.two (i j : Nat) {o o' : Oper} (A A' : Value → Prop) (T T' : Value → World → Prop) (hin : (i < n) = True) (hjn : (j < n) = True) (hr : Region.ready .any ops listed = [i, j]) (hi : ops[i]? = some o) (hj : ops[j]? = some o')
    (hy : StabL P ops (fun w => I w ∧ S w) o (fun v w => A v ∧ I w ∧ T v w) a) (hy' : StabL P ops (fun w => I w ∧ S w) o' (fun v w => A' v ∧ I w ∧ T' v w) a)
    (h : ∀ v, A v → AtL P ops I Q n f (listed.setIfInBounds i true) (a.put o.dst v) (T v))
    (h' : ∀ v, A' v → AtL P ops I Q n f (listed.setIfInBounds j true) (a.put o'.dst v) (T' v)) : AtL P ops I Q n (f + 1) listed a S := ⟨fun inv => by
  have hin' : i < n := by rw [hin]; trivial
  have hjn' : j < n := by rw [hjn]; trivial
  refine ⟨by rw [hr]; simp, fun k hk => ?_⟩
  have hk' := hk
  rw [hr] at hk
  have hk2 : k = i ∨ k = j := by simpa using hk
  rcases hk2 with rfl | rfl
  · exact ⟨hin', o, A, T, hi, hy, fun v hv => (h v hv).h (inv.set hk' hin')⟩
  · exact ⟨hjn', o', A', T', hj, hy', fun v hv => (h' v hv).h (inv.set hk' hjn')⟩⟩
end
end Go.RL

namespace Go.Proofs.YtjcpdcncfjkejaaGreat
open Go.RowKit
def encPr (x : Int × Int) : List Value := [.int .i32 x.1, .int .i32 x.2]
theorem encPr_len : ∀ x, (encPr x).length = 2 := fun _ => rfl
theorem flat_at2 {α : Type} {enc : α → List Value} {K : Nat} (hl : ∀ x, (enc x).length = K) : ∀ (X : List α) (k : Nat) (x : α) (j : Nat), X[k]? = some x → j < K → (flat enc X)[k * K + j]? = (enc x)[j]?
  | [], k, x, j, h, _ => by simp at h
  | y :: X, 0, x, j, h, hj => by
    obtain rfl : y = x := by simpa using h
    have e : flat enc (y :: X) = enc y ++ flat enc X := rfl
    rw [e, Nat.zero_mul, Nat.zero_add, List.getElem?_append_left (by rw [hl]; exact hj)]
  | y :: X, k + 1, x, j, h, hj => by
    have e : flat enc (y :: X) = enc y ++ flat enc X := rfl
    rw [e, List.getElem?_append_right (by rw [hl, Nat.add_mul]; omega), hl, show (k + 1) * K + j - K = k * K + j by rw [Nat.add_mul]; omega]
    exact flat_at2 hl X k x j (by simpa using h) hj
theorem gr_lit {α : Type} {enc : α → List Value} {K : Nat} (hl : ∀ x, (enc x).length = K) {w : World} {g : Nat} {t : TypeId} {l : List α} (h : w.heap[g]? = some (.cells (flat enc l).toArray t (0, 0))) : GrAt enc K w (some ⟨g, 0, none⟩) l := fun _ => by
  refine ⟨g, 0, rfl, fun i x hx j v hv => ?_⟩
  have hj : j < K := by have := (List.getElem?_eq_some_iff.1 hv).1; rwa [hl] at this
  have := flat_at2 hl l i x j hx hj
  rw [Nat.zero_add]
  exact (whole_at h _ _ (this.trans hv)).1
set_option maxHeartbeats 800000 in
theorem wnone_any (r : Int) (w : World) : Calls Tryz.prog 50 #[.int .i32 r] w fun e w' => e = .returned (.bool (noneW r)) ∧ w = w' := by
  by_cases h1 : r < 32
  · skip
    have hv : noneW r = true := by simp [noneW]; omega
    rw [hv]
    clear hv
    go_enter Tryz.func50, Tryz.ntmps50
    go_wp2
    go_ret
    exact ⟨rfl, rfl⟩
  by_cases h2 : 127 ≤ r
  · by_cases h3 : r < 160
    · skip
      have hv : noneW r = true := by simp [noneW]; omega
      rw [hv]
      clear hv
      go_enter Tryz.func50, Tryz.ntmps50
      go_wp2
      go_ret
      exact ⟨rfl, rfl⟩
    · by_cases h4 : 55296 ≤ r
      · by_cases h5 : r < 57344
        · skip
          have hv : noneW r = true := by simp [noneW]; omega
          rw [hv]
          clear hv
          go_enter Tryz.func50, Tryz.ntmps50
          go_wp2
          go_ret
          exact ⟨rfl, rfl⟩
        · by_cases h6 : 1114111 < r
          · skip
            have hv : noneW r = true := by simp [noneW]; omega
            rw [hv]
            clear hv
            go_enter Tryz.func50, Tryz.ntmps50
            go_wp2
            go_ret
            exact ⟨rfl, rfl⟩
          · skip
            have hv : noneW r = false := by simp [noneW]; omega
            rw [hv]
            clear hv
            go_enter Tryz.func50, Tryz.ntmps50
            go_wp2
            go_ret
            exact ⟨rfl, rfl⟩
      · have h6 : ¬ 1114111 < r := by omega
        have hv : noneW r = false := by simp [noneW]; omega
        rw [hv]
        clear hv
        go_enter Tryz.func50, Tryz.ntmps50
        go_wp2
        go_ret
        exact ⟨rfl, rfl⟩
  · have h4 : ¬ 55296 ≤ r := by omega
    have h6 : ¬ 1114111 < r := by omega
    have hv : noneW r = false := by simp [noneW]; omega
    rw [hv]
    clear hv
    go_enter Tryz.func50, Tryz.ntmps50
    go_wp2
    go_ret
    exact ⟨rfl, rfl⟩
def TabPost (l : List (Int × Int)) (w : World) (e : Ending) (w' : World) : Prop := ∃ g, e = .returned (.slice (some ⟨g, 0, none⟩) l.length l.length) ∧ GrAt encPr 2 w' (some ⟨g, 0, none⟩) l ∧ Below w.heap.size w w'
set_option maxRecDepth 100000 in
set_option maxHeartbeats 1600000 in
theorem wmarks_any (w : World) : Calls Tryz.prog 52 #[] w (TabPost marksT w) := by
  go_enter Tryz.func52, Tryz.ntmps52
  go_wp2
  go_ret
  exact ⟨w.heap.size, rfl, gr_lit encPr_len (l := marksT) (hp_new rfl), below_allocs (Below.refl _ _) _⟩
set_option maxRecDepth 100000 in
set_option maxHeartbeats 1600000 in
theorem wwides_any (w : World) : Calls Tryz.prog 53 #[] w (TabPost widesT w) := by
  go_enter Tryz.func53, Tryz.ntmps53
  go_wp2
  go_ret
  exact ⟨w.heap.size, rfl, gr_lit encPr_len (l := widesT) (hp_new rfl), below_allocs (Below.refl _ _) _⟩
def PrPost (r : Int) (x : Int × Int) (w : World) (e : Ending) (w' : World) : Prop := e = .returned (.bool (decide (x.1 ≤ r) && decide (r ≤ x.2))) ∧ Below w.heap.size w w'
set_option maxHeartbeats 800000 in
theorem among1_any (r : Int) (g : Nat) (x : Int × Int) (w : World) (hg : w.cell? ⟨g, 0, none⟩ = some (.int .i32 r)) : Calls Tryz.prog 70 #[.agg #[.int .i32 x.1, .int .i32 x.2], .pointer (some ⟨g, 0, none⟩)] w (PrPost r x w) := by
  have hgl := lt_of_cell hg
  by_cases h1 : x.1 ≤ r <;> by_cases h2 : r ≤ x.2
  all_goals
    go_enter Tryz.func70, Tryz.ntmps70
    go_wp2
    go_ret
    exact ⟨by simp [h1, h2], below_allocs (Below.refl _ _) _⟩
end Go.Proofs.YtjcpdcncfjkejaaGreat

namespace Go.Proofs.YtjcpdcncfjkejaaGreat
open Go.RowKit
theorem there_below {w w1 : World} {b o n : Nat} (h : w.there b o n) (hb : Below w.heap.size w w1) : w1.there b o n := fun j hj => by
  obtain ⟨h1, h2⟩ := h j hj
  obtain ⟨u, hu⟩ := Option.isSome_iff_exists.1 h1
  have := hold hb ⟨hu, h2⟩
  exact ⟨by rw [this.1]; rfl, this.2⟩
theorem below_setCells {B : Nat} {W w1 : World} (h : Below B W w1) {b : Nat} (hb : B ≤ b) : ∀ (vs : List Value) (o : Nat), Below B W (w1.setCells b o vs)
  | [], o => h
  | v :: vs, o => by
    rw [World.setCells]
    exact below_setCells (below_set' h hb v) hb vs (o + 1)
where below_set' {B : Nat} {W w1 : World} (h : Below B W w1) {b o : Nat} (hb : B ≤ b) (v : Value) : Below B W (w1.setCell ⟨b, o, none⟩ v) := h.setCell (p := ⟨b, o, none⟩) hb v
theorem there_new {w : World} {g : Nat} {cs : Array Value} {t : TypeId} (h : w.heap[g]? = some (.cells cs t (0, 0))) : w.there g 0 cs.size := fun j hj => by
  rw [Nat.zero_add]
  exact ⟨by rw [cell_of_row w g j cs t (0, 0) h, Array.getElem?_eq_getElem hj]; rfl, frozen_of_row w g j cs t h⟩
theorem range_below {w w1 : World} {b o : Nat} {cs : List Value} (h : w.rangeAt b o cs) (hb : Below w.heap.size w w1) : w1.rangeAt b o cs := fun j v hj => holda hb (h j v hj)
section
variable {P : Program}
theorem run_copy_k (w : World) (dT sT ty elem : TypeId) (b o dLen dCap : Nat) (a : Addr) (sLen sCap k : Nat) (cs : List Value) (hu : P.underlying dT = some (.slice elem)) (hs : (P.info? elem).map (·.size) = some k) (hn : cs.length = Nat.min sLen dLen * k)
    (hsrc : ∀ j v, cs[j]? = some v → w.cell? (a.add j) = some v) (hc : ∀ j, j < cs.length → (w.cell? ⟨b, o + j, none⟩).isSome = true) (hf : ∀ j, j < cs.length → w.frozen? ⟨b, o + j, none⟩ = false) (h1 : ∀ v ∈ cs, v.oneCell' = true) :
    (Builtin.copy_ #[dT, sT] ty #[.slice (some ⟨b, o, none⟩) dLen dCap, .slice (some a) sLen sCap]).run P w = .ok (goInt (Nat.min sLen dLen)) (w.setCells b o cs) := by
  have hl := run_loadCells_list (P := P) w a cs hsrc
  have hst := run_storeCells_cells (P := P) b o cs 0 w (by simpa using hc) (by simpa using hf) h1
  cases hq : P.info? elem with
  | none => simp [hq] at hs
  | some i =>
    have hi : i.size = k := by simpa [hq] using hs
    simp [Builtin.copy_, run_underlying hu, Builtin.lenOf, Builtin.firstCells, sizeOf, typeInfo, hq, hi, ← hn, hl, hst]
theorem results_cell1 {fn : Func} {p : Tmp} {ty : TypeId} (h : fn.results = #[.cell p ty]) (tmps : Array Value) (P : Program) (w : World) :
    (results fn tmps).run P w = ((asAddr (tmps.getD p undef)).run P w).andThen fun a w₁ => (loadVar ty a).run P w₁ := by
  simp only [results, h]
  simp [Sem.run_bind, Result.andThen]
end
/-- A block known whole, some cells of which are set. -/
theorem whole_setCells {b : Nat} {t : TypeId} : ∀ (vs : List Value) (o : Nat) (cs : List Value) (w : World), w.heap[b]? = some (.cells cs.toArray t (0, 0)) → o + vs.length ≤ cs.length → (w.setCells b o vs).heap[b]? = some (.cells (cs.take o ++ (vs ++ cs.drop (o + vs.length))).toArray t (0, 0))
  | [], o, cs, w, h, _ => by simpa [World.setCells] using h
  | v :: vs, o, cs, w, h, hl => by
    rw [List.length_cons] at hl
    have h1 := whole_set h o v rfl
    have ih := whole_setCells vs (o + 1) (cs.set o v) (w.setCell ⟨b, o, none⟩ v) h1 (by rw [List.length_set]; omega)
    have hlt : o < (cs.set o v).length := by rw [List.length_set]; omega
    rw [List.take_succ_eq_append_getElem hlt, List.getElem_set_self, List.take_set_of_le (Nat.le_refl o), List.drop_set_of_lt (by omega), List.append_assoc] at ih
    rw [World.setCells, List.length_cons, show o + (vs.length + 1) = o + 1 + vs.length by omega]
    exact ih
theorem mod_setCellsN {X : List Nat} {w : World} {g : Nat} (hg : g ∈ X ∨ w.heap.size ≤ g) : ∀ (cs : List Value) (o : Nat) (w1 : World), Mod X w w1 → Mod X w (w1.setCells g o cs)
  | [], _, _, h => h
  | v :: r, o, _, h => mod_setCellsN hg r (o + 1) _ (h.setCell (a := ⟨g, o, none⟩) hg v)
theorem owns_set1 {w : World} {base g : Nat} {e : TypeId} {size n cap : Nat} {xs : List Value} (h : w.ownsRow base e size (.slice (some ⟨g, 0, none⟩) n cap) n xs) (o : Nat) (v : Value) :
    (w.setCell ⟨g, o, none⟩ v).ownsRow base e size (.slice (some ⟨g, 0, none⟩) n cap) n (xs.set o v) := by
  obtain ⟨h1, h2 | ⟨g', cap', cur, hv, e2, e3, e4, e5, e6, e7⟩⟩ := h
  · exact absurd h2.1 (by simp)
  · simp only [Value.slice.injEq, Option.some.injEq, Addr.mk.injEq, and_true, true_and] at hv
    obtain ⟨rfl, rfl⟩ := hv
    refine ⟨by simpa using h1, .inr ⟨g, cap, cur.setIfInBounds o v, rfl, e2, heap_setCell_eq e3, e4, e5, by simpa using e6, ?_⟩⟩
    rw [← e7, Array.toList_setIfInBounds]
    rw [List.take_set]
theorem owns_hold {w : World} {base g : Nat} {e : TypeId} {size n cap : Nat} {xs : List Value} (h : w.ownsRow base e size (.slice (some ⟨g, 0, none⟩) n cap) n xs) {i : Nat} {v : Value} (hi : xs[i]? = some v) : HoldAt w g i v := by
  obtain ⟨-, h2 | ⟨g', cap', cur, hv, -, e3, -, -, -, e7⟩⟩ := h
  · exact absurd h2.1 (by simp)
  · simp only [Value.slice.injEq, Option.some.injEq, Addr.mk.injEq, and_true, true_and] at hv
    obtain ⟨rfl, rfl⟩ := hv
    refine at_ e3 i v ?_
    rw [← e7, List.getElem?_take] at hi
    split at hi
    · simpa using hi
    · cases hi
theorem flat_set1 {α : Type} {enc : α → List Value} {K : Nat} (hl : ∀ x, (enc x).length = K) : ∀ (X : List α) (k : Nat) (x x' : α) (j : Nat) (v : Value), X[k]? = some x → j < K → (enc x).set j v = enc x' → (flat enc X).set (k * K + j) v = flat enc (X.set k x')
  | [], k, x, x', j, v, h, _, _ => by simp at h
  | y :: X, 0, x, x', j, v, h, hj, he => by
    obtain rfl : y = x := by simpa using h
    have e : flat enc (y :: X) = enc y ++ flat enc X := rfl
    have e2 : flat enc ((y :: X).set 0 x') = enc x' ++ flat enc X := rfl
    rw [e, e2, Nat.zero_mul, Nat.zero_add, List.set_append_left _ _ (by rw [hl]; exact hj), he]
  | y :: X, k + 1, x, x', j, v, h, hj, he => by
    have e : flat enc (y :: X) = enc y ++ flat enc X := rfl
    have e2 : flat enc ((y :: X).set (k + 1) x') = enc y ++ flat enc (X.set k x') := rfl
    rw [e, e2, List.set_append_right _ _ (by rw [hl, Nat.add_mul]; omega), hl, show (k + 1) * K + j - K = k * K + j by rw [Nat.add_mul]; omega, flat_set1 hl X k x x' j v (by simpa using h) hj he]
/-- Some cells of a row of the call's own set. -/
theorem owns_setCells {base g : Nat} {e : TypeId} {size n cap : Nat} : ∀ (vs : List Value) (o : Nat) (xs : List Value) (w : World), w.ownsRow base e size (.slice (some ⟨g, 0, none⟩) n cap) n xs → o + vs.length ≤ xs.length →
    (w.setCells g o vs).ownsRow base e size (.slice (some ⟨g, 0, none⟩) n cap) n (xs.take o ++ (vs ++ xs.drop (o + vs.length)))
  | [], o, xs, w, h, _ => by simpa [World.setCells] using h
  | v :: vs, o, xs, w, h, hl => by
    rw [List.length_cons] at hl
    have h1 := owns_set1 h o v
    have ih := owns_setCells vs (o + 1) (xs.set o v) (w.setCell ⟨g, o, none⟩ v) h1 (by rw [List.length_set]; omega)
    have e1 : (xs.set o v).take (o + 1) = xs.take o ++ [v] := by
      rw [List.take_succ_eq_append_getElem (by rw [List.length_set]; omega), List.getElem_set_self, List.take_set_of_le (Nat.le_refl _)]
    have e2 : (xs.set o v).drop (o + 1 + vs.length) = xs.drop (o + (v :: vs).length) := by
      rw [List.drop_set_of_lt (by omega), List.length_cons, show o + 1 + vs.length = o + (vs.length + 1) by omega]
    rw [e1, e2, List.append_assoc] at ih
    exact ih
theorem load_mid_g {P : Program} {ops : Array Oper} {rest : List Oper} {op : Oper} {a : Act} {w : World} {Q : Exit → Act → World → Prop} (hw : Region.wanted op (yielded ops a.tmps) = true) (ty : TypeId) (x : Operand) (ho : op.op = .load ty x)
    (b o : Nat) (hx : a.eval x = .pointer (some ⟨b, o, none⟩)) (cs : List Value) (d : TypeDesc) (hc : w.rangeAt b o cs)
    (hu : P.underlying ty = some d) (hd : d.isRow = true) (hi : (P.info? ty).map (·.size) = some cs.length)
    (h : wpList P ops Q rest (a.put op.dst (.agg cs.toArray)) w) : wpList P ops Q (op :: rest) a w := by
  unfold wpList
  rw [if_pos hw]
  exact .inl (wp_load_mid ty x ho b o hx cs d hc hu hd hi h)
end Go.Proofs.YtjcpdcncfjkejaaGreat

namespace Go.Proofs.YtjcpdcncfjkejaaGreat
def isScal (r : Int) : Bool := decide (0 ≤ r) && decide (r ≤ 0x10ffff) && (decide (r < 0xd800) || decide (0xdfff < r))
/-- A scalar's bytes. -/
def putB (r : Int) : ByteArray :=
  if isScal r then
    (if r < 0x80 then ⟨#[r.toNat.toUInt8]⟩
    else if r < 0x800 then ⟨#[(192 + r / 64).toNat.toUInt8, (128 + r % 64).toNat.toUInt8]⟩
    else if r < 0x10000 then ⟨#[(224 + r / 4096).toNat.toUInt8, (128 + r / 64 % 64).toNat.toUInt8, (128 + r % 64).toNat.toUInt8]⟩
    else ⟨#[(240 + r / 262144).toNat.toUInt8, (128 + r / 4096 % 64).toNat.toUInt8, (128 + r / 64 % 64).toNat.toUInt8, (128 + r % 64).toNat.toUInt8]⟩)
  else ByteArray.empty
def withMore (m : ByteArray) (c : Cl) : Cl := { c with more := m }
/-- A mark is laid. -/
def markL (l : List Cl) (x r : Int) : List Cl :=
  let o := mendL l
  match o[x.toNat]? with
  | none => o
  | some c =>
    if x < 0 ∨ c.r = 0 ∨ widOf r ≠ 0 ∨ 32 < (c.more ++ putB r).size then o
    else
      let m := c.more ++ putB r
      let o1 := if c.half = 1 then o.modify (x.toNat + 1) (withMore m) else if c.half = 2 then o.modify (x.toNat - 1) (withMore m) else o
      mendL (o1.modify x.toNat (withMore m))
theorem markL_len (l : List Cl) (x r : Int) : (markL l x r).length = l.length := by
  unfold markL
  simp only []
  split
  · exact mendL_len l
  · split
    · exact mendL_len l
    · rw [mendL_len, List.length_modify]
      split
      · rw [List.length_modify, mendL_len]
      split
      · rw [List.length_modify, mendL_len]
      · exact mendL_len l
def backOf (a : Atr) : Col := ⟨a.bk, a.bn⟩
/-- What stays true: rows, columns, room. -/
structure PgInv (rows cols room : Nat) (g : Pg) : Prop where
  hrows : g.scr.length = rows
  hcols : g.cols = cols
  hroom : g.room = room
  hhist : g.hist.length ≤ room
  wide : ∀ r ∈ g.hist ++ g.scr, r.cs.length = cols
theorem mem_modify {α : Type} {f : α → α} {y : α} : ∀ {l : List α} {i : Nat}, y ∈ l.modify i f → y ∈ l ∨ ∃ x ∈ l, y = f x
  | [], i, h => by simp at h
  | x :: l, 0, h => by
    rw [List.modify_zero_cons] at h
    rcases List.mem_cons.1 h with rfl | h
    · exact .inr ⟨x, by simp, rfl⟩
    · exact .inl (by simp [h])
  | x :: l, i + 1, h => by
    rw [List.modify_succ_cons] at h
    rcases List.mem_cons.1 h with rfl | h
    · exact .inl (by simp)
    · rcases mem_modify h with h | ⟨z, hz, e⟩
      · exact .inl (by simp [h])
      · exact .inr ⟨z, by simp [hz], e⟩
theorem PgInv.mod {rows cols room : Nat} {g : Pg} (h : PgInv rows cols room g) (i : Nat) (f : Ro → Ro) (hf : ∀ r, (f r).cs.length = r.cs.length) : PgInv rows cols room { g with scr := g.scr.modify i f } := by
  refine ⟨by show (g.scr.modify i f).length = rows; rw [List.length_modify]; exact h.hrows, h.hcols, h.hroom, h.hhist, fun r hr => ?_⟩
  rcases List.mem_append.1 (show r ∈ g.hist ++ g.scr.modify i f from hr) with hr | hr
  · exact h.wide r (by simp [hr])
  · rcases mem_modify hr with hr | ⟨x, hx, rfl⟩
    · exact h.wide r (by simp [hr])
    · rw [hf]; exact h.wide x (by simp [hx])
theorem PgInv.row {rows cols room : Nat} {g : Pg} (h : PgInv rows cols room g) (y : Int) (f : List Cl → List Cl) (hf : ∀ l, (f l).length = l.length) : PgInv rows cols room (rowP g y f) := by
  unfold rowP
  split
  · exact h.mod _ _ (fun r => hf r.cs)
  · exact h
theorem PgInv.cont {rows cols room : Nat} {g : Pg} (h : PgInv rows cols room g) (y : Int) (b : Bool) : PgInv rows cols room (contP g y b) := by
  unfold contP
  split
  · exact h.mod _ _ (fun r => rfl)
  · exact h
theorem PgInv.tell {rows cols room : Nat} {g : Pg} (h : PgInv rows cols room g) (k a n : Int) : PgInv rows cols room (tellP g k a n) := ⟨h.hrows, h.hcols, h.hroom, h.hhist, h.wide⟩
theorem mem_slideUp {l : List Ro} {top bottom : Nat} {b r : Ro} (h : r ∈ slideUp l top bottom b) : r ∈ l ∨ r = b := by
  unfold slideUp at h
  simp only [List.mem_append, List.mem_cons] at h
  rcases h with h | h | h | h
  · exact .inl (List.mem_of_mem_take h)
  · exact .inl (List.mem_of_mem_drop (List.mem_of_mem_take h))
  · exact .inr h
  · exact .inl (List.mem_of_mem_drop h)
theorem PgInv.slide {rows cols room : Nat} {g : Pg} (h : PgInv rows cols room g) {s : List Ro} {b : Col} (hl : s.length = g.scr.length) (hm : ∀ r ∈ s, r ∈ g.scr ∨ r = blankR g.cols b) : PgInv rows cols room { g with scr := s } := by
  refine ⟨hl.trans h.hrows, h.hcols, h.hroom, h.hhist, fun r hr => ?_⟩
  rcases List.mem_append.1 (show r ∈ g.hist ++ s from hr) with hr | hr
  · exact h.wide r (by simp [hr])
  · rcases hm r hr with hr | rfl
    · exact h.wide r (by simp [hr])
    · unfold blankR; rw [List.length_replicate]; exact h.hcols
theorem PgInv.cut {rows cols room : Nat} {g : Pg} (h : PgInv rows cols room g) {top bottom : Nat} (h1 : top ≤ bottom) (h2 : bottom < g.scr.length) (b : Col) : PgInv rows cols room (cutP g top bottom b) := by
  unfold cutP
  exact ((PgInv.slide (g := tellP (tellP g 1 (g.hist.length + top) 1) 0 (g.hist.length + bottom) 1) ((h.tell _ _ _).tell _ _ _) (b := b) (slideUp_len h1 h2) (fun r hr => mem_slideUp hr)).cont _ _).cont _ _
theorem PgInv.push {rows cols room : Nat} {g : Pg} (h : PgInv rows cols room g) {r : Ro} (hr : r.cs.length = cols) : PgInv rows cols room (pushP g r).1 ∧ (pushP g r).1.scr = g.scr := by
  have hh := h.hhist
  have hr0 := h.hroom
  unfold pushP
  split
  · exact ⟨⟨h.hrows, h.hcols, h.hroom, h.hhist, h.wide⟩, rfl⟩
  split
  · next h0 h1 =>
    refine ⟨⟨h.hrows, h.hcols, h.hroom, by show (g.hist.drop 1 ++ [r]).length ≤ room; simp; omega, fun x hx => ?_⟩, rfl⟩
    rcases List.mem_append.1 (show x ∈ (g.hist.drop 1 ++ [r]) ++ g.scr from hx) with hx | hx
    · rcases List.mem_append.1 hx with hx | hx
      · exact h.wide x (List.mem_append_left _ (List.mem_of_mem_drop hx))
      · rw [List.mem_singleton.1 hx]; exact hr
    · exact h.wide x (by simp [hx])
  · next h0 h1 =>
    refine ⟨⟨h.hrows, h.hcols, h.hroom, by show (g.hist ++ [r]).length ≤ room; simp; omega, fun x hx => ?_⟩, rfl⟩
    rcases List.mem_append.1 (show x ∈ (g.hist ++ [r]) ++ g.scr from hx) with hx | hx
    · rcases List.mem_append.1 hx with hx | hx
      · exact h.wide x (by simp [hx])
      · rw [List.mem_singleton.1 hx]; exact hr
    · exact h.wide x (by simp [hx])
theorem PgInv.up {rows cols room : Nat} {g : Pg} (h : PgInv rows cols room g) {top bottom : Nat} (h1 : top ≤ bottom) (h2 : bottom < g.scr.length) (b : Col) : PgInv rows cols room (upP g top bottom b) := by
  unfold upP
  split
  · exact h.cut h1 h2 b
  · next ht =>
    simp only []
    have hw : (g.scr.getD 0 ⟨[], false⟩).cs.length = cols := by
      rw [List.getD_eq_getElem?_getD, List.getElem?_eq_getElem (by omega)]
      exact h.wide _ (by simp)
    have hp := (h.tell 0 (g.hist.length + bottom + 1) 1).push hw
    have hc : (pushP (tellP g 0 (g.hist.length + bottom + 1) 1) (g.scr.getD 0 ⟨[], false⟩)).1.cols = g.cols := hp.1.hcols.trans h.hcols.symm
    generalize pushP (tellP g 0 (g.hist.length + bottom + 1) 1) (g.scr.getD 0 ⟨[], false⟩) = q at hp hc
    obtain ⟨q, e⟩ := q
    refine PgInv.cont ?_ _ _
    have hq : PgInv rows cols room (if e = true then tellP q 2 0 1 else q) := by
      split
      · exact hp.1.tell _ _ _
      · exact hp.1
    have hs : (if e = true then tellP q 2 0 1 else q).scr = g.scr := by
      split <;> exact hp.2
    have hcc : (if e = true then tellP q 2 0 1 else q).cols = g.cols := by
      split <;> exact hc
    exact hq.slide (b := b) (by rw [hs]; exact slideUp_len (by omega) h2) (fun r hr => by rw [hs, hcc]; exact mem_slideUp hr)
end Go.Proofs.YtjcpdcncfjkejaaGreat

namespace Go.Proofs.YtjcpdcncfjkejaaGreat
open Go.RowKit
def encCl (c : Cl) : List Value := [.int .i32 c.r, .string c.more, .int .i64 c.half, .int .i64 c.fk, .int .i64 c.fn, .int .i64 c.bk, .int .i64 c.bn, .int .i64 c.fl]
theorem encCl_len : ∀ c, (encCl c).length = 8 := fun _ => rfl
theorem encCl_one : ∀ c, ∀ v ∈ encCl c, v.oneCell' = true := fun c v hv => by
  simp only [encCl, List.mem_cons, List.not_mem_nil, or_false] at hv
  rcases hv with rfl | rfl | rfl | rfl | rfl | rfl | rfl | rfl <;> rfl
theorem info_cell : (Tryz.prog.info? 45).map (·.size) = some 8 := by kernel_rfl
theorem cl_one (c : Cl) : (encCl c).toArray.all (·.oneCell') = true := all_oneCell_toArray (encCl_one c)
theorem ret_cell {fn : Func} {p : Tmp} (hr : fn.results = #[.cell p 45]) (tmps : Array Value) (w : World) (b : Nat) (c : Cl) (hp : tmps.getD p undef = .pointer (some ⟨b, 0, none⟩)) (h : w.rangeAt b 0 (encCl c)) :
    (results fn tmps).run Tryz.prog w = .ok (clV c) w := by
  rw [results_cell1 hr, hp]
  have := run_loadVar_mid (P := Tryz.prog) w b 0 45 (encCl c) _ h Tryz.underlying45 rfl info_cell
  simp only [asAddr, Sem.run_pure, Result.andThen_ok, this]
  rfl
theorem range_new {w : World} {g : Nat} {cs : List Value} {t : TypeId} (h : w.heap[g]? = some (.cells cs.toArray t (0, 0))) : w.rangeAt g 0 cs := fun j v hj => by rw [Nat.zero_add]; exact (whole_at h j v hj).1
def CellPost (c : Cl) (w : World) (e : Ending) (w' : World) : Prop := e = .returned (clV c) ∧ Below w.heap.size w w'
set_option maxRecDepth 100000 in
set_option maxHeartbeats 1600000 in
theorem cempty_any (a : Atr) (w : World) : Calls Tryz.prog 95 #[.agg #[.int .i64 a.fk, .int .i64 a.fn, .int .i64 a.bk, .int .i64 a.bn, .int .i64 a.fl]] w (CellPost (emptyA a) w) := by
  go_enter Tryz.func95, Tryz.ntmps95
  go_wp2
  exact bodyPost_ret (ret_cell rfl _ _ (w.heap.size + 1) (emptyA a) rfl (range_new (hp_new (by simp)))) rfl ⟨rfl, below_allocs (below_allocs (Below.refl _ _) _) _⟩
set_option maxRecDepth 100000 in
set_option maxHeartbeats 1600000 in
theorem cblank_any (b : Col) (w : World) : Calls Tryz.prog 92 #[.agg #[.int .i64 b.k, .int .i64 b.n]] w (CellPost (blankC b) w) := by
  have HE := Lib.hid (fun w => cempty_any ⟨0, 0, b.k, b.n, 0⟩ w)
  have HB0 := Lib.hid (below_allocs (below_allocs (Below.refl w.heap.size w) (.cells #[.int .i64 b.k, .int .i64 b.n] 41)) (.cells (encCl (emptyA ⟨0, 0, 0, 0, 0⟩)).toArray 45))
  have HT0 := Lib.hid (there_new (cs := (encCl (emptyA ⟨0, 0, 0, 0, 0⟩)).toArray) (w := (w.alloc (.cells #[.int .i64 b.k, .int .i64 b.n] 41)).alloc (.cells (encCl (emptyA ⟨0, 0, 0, 0, 0⟩)).toArray 45)) (g := w.heap.size + 1) (hp_new (by simp)))
  go_enter Tryz.func92, Tryz.ntmps92
  go_wp2_with (first
    | (go_at_call 95; refine (HE.out _).mono ?_; rintro e w1 ⟨rfl, hb⟩; have HB1 := Lib.hid hb; clear hb; have HT1 := Lib.hid (there_below HT0.out HB1.out))
    | (refine wpList_store_mid (op := ⟨none, .store 45 (.tmp 2) (.tmp 5), _, _, _, _⟩) rfl 45 (.tmp 2) (.tmp 5) rfl (w.heap.size + 1) 0 (encCl (blankC b)).toArray rfl rfl HT1.out info_cell (cl_one (blankC b)) ?_))
  exact bodyPost_ret (ret_cell rfl _ _ (w.heap.size + 1) (blankC b) rfl (World.rangeAt_setCells_same _ _ _ _ HT1.out)) rfl ⟨rfl, below_setCells (below_tail HB0.out HB1.out) (by omega) _ _⟩
def pairH (a b : Cl) : Bool := decide (a.half = 1) && decide (a = { b with half := 1 })
set_option maxRecDepth 100000 in
set_option maxHeartbeats 1600000 in
theorem cpair_any (a b : Cl) (w : World) : Calls Tryz.prog 94 #[clV a, clV b] w fun e w' => e = .returned (.bool (pairH a b)) ∧ Below w.heap.size w w' := by
  unfold clV
  have HB2 := Lib.hid (below_allocs (below_allocs (Below.refl w.heap.size w) (.cells (encCl a).toArray 45)) (.cells (encCl { b with half := 1 }).toArray 45))
  have HA2 := Lib.hid (show ((w.alloc (.cells (encCl a).toArray 45)).alloc (.cells (encCl { b with half := 1 }).toArray 45)).heap[w.heap.size]? = some (.cells (encCl a).toArray 45 (0, 0)) from hp_old (hp_new rfl))
  have HC2 := Lib.hid (show ((w.alloc (.cells (encCl a).toArray 45)).alloc (.cells (encCl { b with half := 1 }).toArray 45)).heap[w.heap.size + 1]? = some (.cells (encCl { b with half := 1 }).toArray 45 (0, 0)) from hp_new (by simp))
  by_cases h : a.half = 1
  · have hv : pairH a b = decide (a = { b with half := 1 }) := by unfold pairH; rw [h]; simp
    rw [hv]
    clear hv
    obtain ⟨ar, am, ah, a1, a2, a3, a4, a5⟩ := a
    obtain rfl : ah = 1 := h
    go_enter Tryz.func94, Tryz.ntmps94
    go_upto_region 2 with fail
    refine wp_region_lit ?_
    refine wpList_valG (.pointer (some ⟨w.heap.size, 2, none⟩)) (by rfl) (by go_simp) ?_
    simp only [Act.put, List.setIfInBounds_toArray, List.set_cons_zero, List.set_cons_succ]
    refine wpList_valG (.int .i64 1) (by rfl) (by go_simp) ?_
    simp only [Act.put, List.setIfInBounds_toArray, List.set_cons_zero, List.set_cons_succ]
    refine wpList_valG (.bool true) (by rfl) (by go_simp) ?_
    simp only [Act.put, List.setIfInBounds_toArray, List.set_cons_zero, List.set_cons_succ]
    refine wpList_valG (.bool true) (by rfl) (by rfl) ?_
    simp only [Act.put, List.setIfInBounds_toArray, List.set_cons_zero, List.set_cons_succ]
    refine load_mid_g (by rfl) 45 (.tmp 2) rfl w.heap.size 0 rfl (encCl ⟨ar, am, 1, a1, a2, a3, a4, a5⟩) _ (range_new HA2.out) Tryz.underlying45 rfl info_cell ?_
    simp only [Act.put, List.setIfInBounds_toArray, List.set_cons_zero, List.set_cons_succ]
    refine load_mid_g (by rfl) 45 (.tmp 3) rfl (w.heap.size + 1) 0 rfl (encCl { b with half := 1 }) _ (range_new HC2.out) Tryz.underlying45 rfl info_cell ?_
    simp only [Act.put, List.setIfInBounds_toArray, List.set_cons_zero, List.set_cons_succ]
    refine wpList_valG (.bool (decide ((⟨ar, am, 1, a1, a2, a3, a4, a5⟩ : Cl) = { b with half := 1 }))) (by rfl) (exec_eql_cell _ _ _ _ _ _ (.tmp 10) (.tmp 11) ⟨ar, am, 1, a1, a2, a3, a4, a5⟩ { b with half := 1 } rfl rfl _) ?_
    simp only [Act.put, List.setIfInBounds_toArray, List.set_cons_zero, List.set_cons_succ]
    generalize hD : decide ((⟨ar, am, 1, a1, a2, a3, a4, a5⟩ : Cl) = { b with half := 1 }) = D
    have HD := Lib.hid hD
    clear hD
    go_wp2
    go_ret
    exact ⟨by rw [← HD.out]; rfl, HB2.out⟩
  · have hv : pairH a b = false := by unfold pairH; simp [h]
    rw [hv]
    have h1 : (a.half == 1) = false := beq_eq_false_iff_ne.2 h
    clear hv
    go_enter Tryz.func94, Tryz.ntmps94
    go_wp2
    go_ret
    exact ⟨rfl, HB2.out⟩
end Go.Proofs.YtjcpdcncfjkejaaGreat
