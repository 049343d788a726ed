/- Joined by a tool of this claim out of smaller texts. Conditions: as stated. -/
import Derived.Test.YtaefcahblmopfaaGreatDoorTn03
set_option linter.unusedVariables false
set_option linter.unusedSimpArgs false
namespace Go.RL
open Go
section
variable {P : Program} {ops : Array Oper} {md : Region.Mode} {I : World → Prop}
def upL (P : Program) (n : Nat) (dst : Option Tmp) (V : Value → World → Prop) : Result Next → Prop
  | .ok (.value u) w' => ∃ v, samePut n dst u v ∧ V v w'
  | .ok .skip w' => ∃ v, samePut n dst undef v ∧ V v w'
  | .ok (.enter f args) w' => Calls P f args w' fun e w'' => match e with
      | .returned u => ∃ v, samePut n dst u v ∧ V v w''
      | _ => False
  | .ok (.row row args) w' => Rows P row args w' fun u w'' => ∃ v, samePut n dst u v ∧ V v w''
  | _ => False
/-- From every world that meets S the operation yields a value and a world of V. -/
def StabL (P : Program) (ops : Array Oper) (S : World → Prop) (o : Oper) (V : Value → World → Prop) (a : Act) : Prop :=
  (Region.wanted o (yielded ops a.tmps) = true ∧ ∀ w, S w → upL P a.tmps.size o.dst V ((execOp a.eval o).run P w)) ∨
  (Region.wanted o (yielded ops a.tmps) = false ∧ ∀ w, S w → V undef w)
theorem StabL.of_same {S : World → Prop} {o : Oper} {V : Value → World → Prop} {a a' : Act} (hy : StabL P ops S o V a) (he : execOp a'.eval o = execOp a.eval o)
    (hw : Region.wanted o (yielded ops a'.tmps) = Region.wanted o (yielded ops a.tmps)) (hs : a'.tmps.size = a.tmps.size) : StabL P ops S o V a' := by
  unfold StabL at *
  rw [he, hw, hs]
  exact hy
theorem StabL.wpOp {S : World → Prop} {Q : Exit → Act → World → Prop} {i : Nat} {o : Oper} {V : Value → World → Prop} {a : Act} (hi : ops[i]? = some o) (hy : StabL P ops S o V a)
    {K : Act → World → Prop} {w : World} (hS : S w) (h : ∀ v w', V v w' → K (a.put o.dst v) w') : wpOp P ops Q i K a w := by
  unfold Go.wpOp
  simp only [hi]
  rcases hy with ⟨hw, hv⟩ | ⟨hw, hv⟩
  · simp only [hw, if_true, Oper.wp]
    refine .inl ?_
    have hv := hv w hS
    generalize (execOp a.eval o).run P w = r at *
    cases r with
    | ok n w' =>
      cases n <;> simp only [upL, Oper.upon] at hv ⊢
      case value u => obtain ⟨v, h1, h2⟩ := hv; rw [h1 a rfl]; exact h _ _ h2
      case skip => obtain ⟨v, h1, h2⟩ := hv; rw [h1 a rfl]; exact h _ _ h2
      case enter f args =>
        refine Calls.mono hv fun e w'' he => ?_
        cases e with
        | returned u => obtain ⟨v, h1, h2⟩ := he; simp only; rw [h1 a rfl]; exact h _ _ h2
        | panicked c => exact he.elim
        | outgrown => exact he.elim
      case row row args => exact Rows.mono hv fun u w'' he => (by obtain ⟨v, h1, h2⟩ := he; rw [h1 a rfl]; exact h _ _ h2)
    | halt x w' => exact hv.elim
  · simp only [hw, Bool.false_eq_true, if_false]; exact h _ _ (hv w hS)
/-- Yields v in every world of I, and leaves the world. -/
def Pure (P : Program) (ops : Array Oper) (I : World → Prop) (o : Oper) (v : Value) (a : Act) : Prop :=
  (Region.wanted o (yielded ops a.tmps) = true ∧ ∀ w, I w → (execOp a.eval o).run P w = .ok (.value v) w) ∨
  (Region.wanted o (yielded ops a.tmps) = false ∧ v = undef)
theorem Pure.of_same {o : Oper} {v : Value} {a a' : Act} (hy : Pure P ops I o v a) (he : execOp a'.eval o = execOp a.eval o)
    (hw : Region.wanted o (yielded ops a'.tmps) = Region.wanted o (yielded ops a.tmps)) : Pure P ops I o v a' := by
  unfold Pure at *
  rw [he, hw]
  exact hy
theorem Pure.stab {o : Oper} {v : Value} {a : Act} (hy : Pure P ops I o v a) (S : World → Prop) : StabL P ops (fun w => I w ∧ S w) o (fun u w => u = v ∧ I w ∧ S w) a := by
  rcases hy with ⟨hw, hv⟩ | ⟨hw, rfl⟩
  · exact .inl ⟨hw, fun w hS => by rw [hv w hS.1]; exact ⟨v, samePut.rfl', rfl, hS⟩⟩
  · exact .inr ⟨hw, fun w hS => ⟨rfl, hS⟩⟩
def wpUL (P : Program) (md : Region.Mode) (ops : Array Oper) (I : World → Prop) (n : Nat) (L : Array Bool → Act → (World → Prop) → Prop) : Nat → Array Bool → Act → (World → Prop) → Prop
  | 0, listed, a, S => L listed a S
  | f + 1, listed, a, S =>
    Region.ready md ops listed ≠ [] ∧ ∀ i ∈ Region.ready md ops listed, i < n ∧ ∃ (o : Oper) (A : Value → Prop) (T : Value → World → Prop), ops[i]? = some o ∧ StabL P ops (fun w => I w ∧ S w) o (fun v w => A v ∧ I w ∧ T v w) a ∧
      ∀ v, A v → wpUL P md ops I n L f (listed.setIfInBounds i true) (a.put o.dst v) (T v)
theorem wpAny_of_headL {n g : Nat} {L : Array Bool → Act → (World → Prop) → Prop} {Q' : Exit → Act → World → Prop} (hL : ∀ listed a S, L listed a S → ∀ w, I w → S w → wpAny P md ops Q' g listed a w) :
    ∀ (f : Nat) (listed : Array Bool) (a : Act) (S : World → Prop), wpUL P md ops I n L f listed a S → ∀ w, I w → S w → wpAny P md ops Q' (f + g) listed a w
  | 0, listed, a, S, h, w, hI, hS => by rw [Nat.zero_add]; exact hL _ _ _ h w hI hS
  | f + 1, listed, a, S, h, w, hI, hS => by
    rw [show f + 1 + g = (f + g) + 1 by omega]
    refine ⟨fun h0 => absurd h0 h.1, fun i hi => ?_⟩
    obtain ⟨_, o, A, T, ho, hy, hr⟩ := h.2 i hi
    exact hy.wpOp ho (And.intro hI hS) (fun v w' hv => wpAny_of_headL hL f _ _ _ (hr v hv.1) w' hv.2.1 hv.2.2)
theorem wpUL_first {n i : Nat} {oi : Oper} {v : Value} {L : Array Bool → Act → (World → Prop) → Prop} (hi : ops[i]? = some oi) (hsel : ∀ (j : Nat) (o : Oper) cs b, ops[j]? = some o → o.op ≠ .select cs b)
    (hs : Region.sinkB md ops n = true) (hc : Region.chainB md ops n = true) (hn : n < ops.size) (hin : i < n)
    (hdone : ∀ listed a S, L listed a S → ∀ j ∈ Region.ready md ops listed, n ≤ j) :
    ∀ (f : Nat) (listed : Array Bool) (a : Act) (S : World → Prop), HeadInv md ops n listed →
      (∀ j oj, ops[j]? = some oj → j ≠ i → listed.getD j true = false → (∀ e ∈ oj.after, Region.binds md e = true → e.on ≠ i) → oi.apart ops oj = true) →
      i ∈ Region.ready md ops listed → Pure P ops I oi v a →
      wpUL P md ops I n L f (listed.setIfInBounds i true) (a.put oi.dst v) S → wpUL P md ops I n L (f + 1) listed a S := by
  intro f
  induction f with
  | zero =>
    intro listed a S inv _ hr hy H
    have hun := (mem_ready.1 hr).1
    refine ⟨fun h => (by rw [h] at hr; cases hr), fun j hj => ?_⟩
    have hjn : j < n := by
      rcases Nat.lt_or_ge j n with h | h
      · exact h
      · exact absurd hj (tail_waits hs hc hn inv _ i rfl hin hun j h)
    refine ⟨hjn, ?_⟩
    by_cases hji : j = i
    · subst hji
      exact ⟨oi, (· = v), fun _ => S, hi, hy.stab S, fun u hu => by subst hu; exact H⟩
    · have := hdone _ _ _ H j (ready_mono hj hji)
      omega
  | succ f ih =>
    intro listed a S inv hfree hr hy H
    have hun := (mem_ready.1 hr).1
    refine ⟨fun h => (by rw [h] at hr; cases hr), fun j hj => ?_⟩
    have hjn : j < n := by
      rcases Nat.lt_or_ge j n with h | h
      · exact h
      · exact absurd hj (tail_waits hs hc hn inv _ i rfl hin hun j h)
    refine ⟨hjn, ?_⟩
    by_cases hji : j = i
    · subst hji
      exact ⟨oi, (· = v), fun _ => S, hi, hy.stab S, fun u hu => by subst hu; exact H⟩
    · obtain ⟨_, oj', A, T, hoj', hyj, Hj⟩ := H.2 j (ready_mono hj hji)
      obtain ⟨hjun, oj, hoj, hall⟩ := mem_ready.1 hj
      obtain rfl : oj' = oj := Option.some.inj (hoj'.symm.trans hoj)
      have hnot : ∀ e ∈ oj'.after, Region.binds md e = true → e.on ≠ i := fun e he hb heq => by
        have h1 := hall e he hb
        rw [heq, getD_both hun] at h1
        cases h1
      obtain ⟨h1, h2, h3⟩ := Oper.apart_spec (hfree j oj' hoj hji hjun hnot)
      have hsi := fun cs b => hsel i oi cs b hi
      have hsj := fun cs b => hsel j oj' cs b hoj
      have hyj' := hyj.of_same (execOp_put oj' hsj a oi.dst v h1).symm (wanted_put oj' a oi.dst v h1).symm (Act.put_size _ _ _).symm
      have hfree' : ∀ k ok, ops[k]? = some ok → k ≠ i → (listed.setIfInBounds j true).getD k true = false →
          (∀ e ∈ ok.after, Region.binds md e = true → e.on ≠ i) → oi.apart ops ok = true := fun k ok hk hki hun hno => by
        refine hfree k ok hk hki ?_ hno
        by_cases hjk : j = k
        · subst hjk; exact hjun
        · rw [getD_set_ne true hjk] at hun; exact hun
      refine ⟨oj', A, T, hoj, hyj', fun u hu => ?_⟩
      have hyi' : Pure P ops I oi v (a.put oj'.dst u) := hy.of_same (execOp_put oi hsi a oj'.dst u h3) (wanted_put oi a oj'.dst u h3)
      refine ih (listed.setIfInBounds j true) _ _ (inv.set hj hjn) hfree' (ready_mono hr (Ne.symm hji)) hyi' ?_
      rw [Array.setIfInBounds_comm _ _ hji, ← Act.put_comm a v u h2]
      exact Hj u hu
/-- The leaf: the forced tail, from every world that meets the state. -/
def tailL (P : Program) (ops : Array Oper) (I : World → Prop) (Q : Exit → Act → World → Prop) (n : Nat) : Array Bool → Act → (World → Prop) → Prop := fun listed a S =>
  Region.seqB .any ops (ops.size - n) n listed = true ∧ ∀ w, I w → S w → wpList P ops Q (ops.toList.drop n) a w
structure AtL (P : Program) (ops : Array Oper) (I : World → Prop) (Q : Exit → Act → World → Prop) (n : Nat) (f : Nat) (listed : Array Bool) (a : Act) (S : World → Prop) : Prop where
  h : HeadInv .any ops n listed → wpUL P .any ops I n (tailL P ops I Q n) f listed a S
variable {Q : Exit → Act → World → Prop} {S : World → Prop} {a : Act} {listed : Array Bool} {n f : Nat}
def Region.tailB (ops : Array Oper) (n : Nat) : Bool := Region.noSelect ops && decide (n < ops.size) && Region.sinkB .any ops n && Region.chainB .any ops n
/-- Take number i, which only reads, first. -/
theorem AtL.take (i : Nat) {o : Oper} {v : Value} (hB : RL.Region.tailB ops n = true) (hi : ops[i]? = some o) (hin : (i < n) = True) (hf : Region.free .any ops listed i = true) (hr : (Region.ready .any ops listed).contains i = true)
    (hy : Pure P ops I o v a) (h : AtL P ops I Q n f (listed.setIfInBounds i true) (a.put o.dst v) S) : AtL P ops I Q n (f + 1) listed a S := ⟨fun inv => by
  simp only [RL.Region.tailB, Bool.and_eq_true, decide_eq_true_eq] at hB
  obtain ⟨⟨⟨hsel, hn⟩, hs⟩, hc⟩ := hB
  have hr' : i ∈ Region.ready .any ops listed := by simpa using hr
  have hin' : i < n := by rw [hin]; trivial
  exact wpUL_first hi (Region.noSelect_spec hsel) hs hc hn hin' (fun listed a S hL => seqB_ready hL.1) f listed a S inv (Region.free_spec hi hf) hr' hy (h.h (inv.set hr' hin'))⟩
/-- At number c of the operations that are taken one behind the other. -/
def AtK (c : Nat) (P : Program) (ops : Array Oper) (I : World → Prop) (Q : Exit → Act → World → Prop) (n : Nat) (f : Nat) (listed : Array Bool) (a : Act) (S : World → Prop) : Prop := c ≤ c ∧ AtL P ops I Q n f listed a S
theorem AtL.go (c : Nat) (h : AtK c P ops I Q n f listed a S) : AtL P ops I Q n f listed a S := h.2
theorem AtK.back {c : Nat} (h : AtL P ops I Q n f listed a S) : AtK c P ops I Q n f listed a S := ⟨Nat.le_refl c, h⟩
theorem AtK.take {i : Nat} {o : Oper} {v : Value} (hB : RL.Region.tailB ops n = true) (hi : ops[i]? = some o) (hin : (i < n) = True) (hf : Region.free .any ops listed i = true) (hr : (Region.ready .any ops listed).contains i = true)
    (hy : Pure P ops I o v a) (h : AtK (i + 1) P ops I Q n f (listed.setIfInBounds i true) (a.put o.dst v) S) : AtK i P ops I Q n (f + 1) listed a S := ⟨Nat.le_refl i, AtL.take i hB hi hin hf hr hy h.2⟩
/-- One alone may come up. -/
theorem AtL.one (i : Nat) {o : Oper} (A : Value → Prop) (T : Value → World → Prop) (hin : (i < n) = True) (hr : Region.ready .any ops listed = [i]) (hi : ops[i]? = some o)
    (hy : StabL P ops (fun w => I w ∧ S w) o (fun v w => A v ∧ I w ∧ T v w) a) (h : ∀ v, A v → AtL P ops I Q n f (listed.setIfInBounds i true) (a.put o.dst v) (T v)) : AtL P ops I Q n (f + 1) listed a S := ⟨fun inv => by
  have hin' : i < n := by rw [hin]; trivial
  refine ⟨by rw [hr]; simp, fun j hj => ?_⟩
  have hj' := hj
  rw [hr] at hj
  obtain rfl : j = i := by simpa using hj
  exact ⟨hin', o, A, T, hi, hy, fun v hv => (h v hv).h (inv.set hj' hin')⟩⟩
theorem AtL.done (hB : Region.seqB .any ops (ops.size - n) n listed = true) (h : ∀ w, I w → S w → wpList P ops Q (ops.toList.drop n) a w) : AtL P ops I Q n 0 listed a S := ⟨fun _ => ⟨hB, h⟩⟩
theorem wp_region_l {id : Nat} {w : World} (n : Nat) (I S : World → Prop) (hm : P.follows .mixedOrders = true) (hB : RL.Region.tailB ops n = true) (hI : I w.drew) (hS : S w.drew)
    (h : AtL P ops I Q n n (Array.replicate ops.size false) a S) : (Code.region id ops true).wp P Q a w := by
  simp only [RL.Region.tailB, Bool.and_eq_true, decide_eq_true_eq] at hB
  obtain ⟨⟨⟨hsel, hn⟩, hs⟩, hc⟩ := hB
  have inv0 : HeadInv .any ops n (Array.replicate ops.size false) :=
    ⟨by simp, fun j oj _ hl => (by rw [getD_replicate_false] at hl; cases hl), fun t _ ht => getD_in (by simpa using ht) (getD_replicate_false _ _)⟩
  refine wp_region_any hm ?_
  have := wpAny_of_headL (Q' := Q) (g := ops.size - n) (fun listed a' S hL w' hI' hS' => by
    have := wpAny_of_seq (md := .any) (Q' := Q) (ops.toList.drop n) n listed a' w' (fun j => by simp [List.getElem?_drop]) (by simpa using hL.1) (hL.2 w' hI' hS')
    simpa using this) _ _ _ _ (h.h inv0) w.drew hI hS
  rw [show n + (ops.size - n) = ops.size by omega] at this
  exact this
/-- An operation that yields its value and leaves the world. -/
theorem Pure.val {o : Oper} {v : Value} (hw : Region.wanted o (yielded ops a.tmps) = true) (h : ∀ w, I w → (execOp a.eval o).run P w = .ok (.value v) w) : Pure P ops I o v a := .inl ⟨hw, h⟩
/-- An operation that writes. -/
theorem StabL.op {o : Oper} (A : Value → Prop) (T : Value → World → Prop) (hw : Region.wanted o (yielded ops a.tmps) = true)
    (h : ∀ w, I w → S w → ∃ v w', (execOp a.eval o).run P w = .ok (.value v) w' ∧ A v ∧ I w' ∧ T v w') : StabL P ops (fun w => I w ∧ S w) o (fun v w => A v ∧ I w ∧ T v w) a :=
  .inl ⟨hw, fun w hS => by
    obtain ⟨v, w', hr, hA, hI, hT⟩ := h w hS.1 hS.2
    rw [hr]; exact ⟨v, samePut.rfl', hA, hI, hT⟩⟩
/-- An operation that writes and yields nothing. -/
theorem StabL.unit {o : Oper} (A : Value → Prop) (T : Value → World → Prop) (hw : Region.wanted o (yielded ops a.tmps) = true)
    (h : ∀ w, I w → S w → ∃ w', (execOp a.eval o).run P w = .ok .skip w' ∧ A undef ∧ I w' ∧ T undef w') : StabL P ops (fun w => I w ∧ S w) o (fun v w => A v ∧ I w ∧ T v w) a :=
  .inl ⟨hw, fun w hS => by
    obtain ⟨w', hr, hA, hI, hT⟩ := h w hS.1 hS.2
    rw [hr]; exact ⟨undef, samePut.rfl', hA, hI, hT⟩⟩
theorem StabL.call {o : Oper} (fn : FuncId) (args : Array Value) (A : Value → Prop) (T : Value → World → Prop) (hw : Region.wanted o (yielded ops a.tmps) = true) (h : ∀ w, (execOp a.eval o).run P w = .ok (.enter fn args) w)
    (hc : ∀ w, I w → S w → Calls P fn args w fun e w' => ∃ v, e = .returned v ∧ A v ∧ I w' ∧ T v w') : StabL P ops (fun w => I w ∧ S w) o (fun v w => A v ∧ I w ∧ T v w) a :=
  .inl ⟨hw, fun w hS => by
    rw [h w]
    refine (hc w hS.1 hS.2).mono fun e w' ⟨v, he, hv⟩ => ?_
    rw [he]
    exact ⟨v, samePut.rfl', hv⟩⟩
end
end Go.RL
namespace Go.RL
section
variable {P : Program} {ops : Array Oper} {I : World → Prop} {Q : Exit → Act → World → Prop} {S : World → Prop} {a : Act} {listed : Array Bool} {n f : Nat}
theorem AtL.two (i j : Nat) {o o' : Oper} (A A' : Value → Prop) (T T' : Value → World → Prop) (hin : (i < n) = True) (hjn : (j < n) = True) (hr : Region.ready .any ops listed = [i, j]) (hi : ops[i]? = some o) (hj : ops[j]? = some o')
    (hy : StabL P ops (fun w => I w ∧ S w) o (fun v w => A v ∧ I w ∧ T v w) a) (hy' : StabL P ops (fun w => I w ∧ S w) o' (fun v w => A' v ∧ I w ∧ T' v w) a)
    (h : ∀ v, A v → AtL P ops I Q n f (listed.setIfInBounds i true) (a.put o.dst v) (T v))
    (h' : ∀ v, A' v → AtL P ops I Q n f (listed.setIfInBounds j true) (a.put o'.dst v) (T' v)) : AtL P ops I Q n (f + 1) listed a S := ⟨fun inv => by
  have hin' : i < n := by rw [hin]; trivial
  have hjn' : j < n := by rw [hjn]; trivial
  refine ⟨by rw [hr]; simp, fun k hk => ?_⟩
  have hk' := hk
  rw [hr] at hk
  have hk2 : k = i ∨ k = j := by simpa using hk
  rcases hk2 with rfl | rfl
  · exact ⟨hin', o, A, T, hi, hy, fun v hv => (h v hv).h (inv.set hk' hin')⟩
  · exact ⟨hjn', o', A', T', hj, hy', fun v hv => (h' v hv).h (inv.set hk' hjn')⟩⟩
end
end Go.RL
