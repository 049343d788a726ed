/- Joined by a tool of this claim out of smaller texts. Conditions: as stated. -/
import Derived.Test.YtaefcahblmopfaaGreatDoorTn05
import Derived.Below
set_option linter.unusedVariables false
set_option linter.unusedSimpArgs false
namespace Go
open Go.RowKit
section
variable {P : Program} {ops : Array Oper} {md : Region.Mode}
/-- A condition that holds on behind whatever leaves old memory as it was. -/
def Pers (S : World → Prop) : Prop := ∀ w w', S w → Below w.heap.size w w' → S w'
theorem Pers.and {S T : World → Prop} (h : Pers S) (k : Pers T) : Pers (fun w => S w ∧ T w) := fun w w' hS hb => ⟨h w w' hS.1 hb, k w w' hS.2 hb⟩
/-- From every world that meets S the operation yields a value of V, and leaves old memory as it was. -/
def upN (P : Program) (w : World) (n : Nat) (dst : Option Tmp) (V : Value → World → Prop) : Result Next → Prop
  | .ok (.value u) w' => ∃ v, samePut n dst u v ∧ V v w' ∧ Below w.heap.size w w'
  | .ok .skip w' => ∃ v, samePut n dst undef v ∧ V v w' ∧ Below w.heap.size w w'
  | .ok (.enter f args) w' => Calls P f args w' fun e w'' => match e with
      | .returned u => ∃ v, samePut n dst u v ∧ V v w'' ∧ Below w.heap.size w w''
      | _ => False
  | .ok (.row row args) w' => Rows P row args w' fun u w'' => ∃ v, samePut n dst u v ∧ V v w'' ∧ Below w.heap.size w w''
  | _ => False
def StabN (P : Program) (ops : Array Oper) (S : World → Prop) (o : Oper) (V : Value → World → Prop) (a : Act) : Prop :=
  (Region.wanted o (yielded ops a.tmps) = true ∧ ∀ w, S w → upN P w a.tmps.size o.dst V ((execOp a.eval o).run P w)) ∨
  (Region.wanted o (yielded ops a.tmps) = false ∧ ∀ w, S w → V undef w)
theorem StabN.of_same {S : World → Prop} {o : Oper} {V : Value → World → Prop} {a a' : Act} (hy : StabN P ops S o V a) (he : execOp a'.eval o = execOp a.eval o)
    (hw : Region.wanted o (yielded ops a'.tmps) = Region.wanted o (yielded ops a.tmps)) (hs : a'.tmps.size = a.tmps.size) : StabN P ops S o V a' := by
  unfold StabN at *
  rw [he, hw, hs]
  exact hy
theorem StabN.strengthen {S T : World → Prop} {o : Oper} {V : Value → World → Prop} {a : Act} (h : ∀ w, T w → S w) (hy : StabN P ops S o V a) : StabN P ops T o V a := by
  rcases hy with ⟨hw, hv⟩ | ⟨hw, hv⟩
  · exact .inl ⟨hw, fun w hT => hv w (h w hT)⟩
  · exact .inr ⟨hw, fun w hT => hv w (h w hT)⟩
theorem StabN.wpOp {S : World → Prop} {Q : Exit → Act → World → Prop} {i : Nat} {o : Oper} {V : Value → World → Prop} {a : Act} (hi : ops[i]? = some o) (hp : Pers S) (hy : StabN P ops S o V a)
    {K : Act → World → Prop} {w : World} (hS : S w) (h : ∀ v w', S w' → V v w' → K (a.put o.dst v) w') : wpOp P ops Q i K a w := by
  unfold Go.wpOp
  simp only [hi]
  rcases hy with ⟨hw, hv⟩ | ⟨hw, hv⟩
  · simp only [hw, if_true, Oper.wp]
    refine .inl ?_
    have hv := hv w hS
    generalize (execOp a.eval o).run P w = r at *
    cases r with
    | ok n w' =>
      cases n <;> simp only [upN, Oper.upon] at hv ⊢
      case value u => obtain ⟨v, h1, h2, h3⟩ := hv; rw [h1 a rfl]; exact h _ _ (hp _ _ hS h3) h2
      case skip => obtain ⟨v, h1, h2, h3⟩ := hv; rw [h1 a rfl]; exact h _ _ (hp _ _ hS h3) h2
      case enter f args =>
        refine Calls.mono hv fun e w'' he => ?_
        cases e with
        | returned u => obtain ⟨v, h1, h2, h3⟩ := he; simp only; rw [h1 a rfl]; exact h _ _ (hp _ _ hS h3) h2
        | panicked c => exact he.elim
        | outgrown => exact he.elim
      case row row args => exact Rows.mono hv fun u w'' he => (by obtain ⟨v, h1, h2, h3⟩ := he; rw [h1 a rfl]; exact h _ _ (hp _ _ hS h3) h2)
    | halt x w' => exact hv.elim
  · simp only [hw, Bool.false_eq_true, if_false]; exact h _ _ hS (hv w hS)
/-- What an operation may yield (A), and what holds of the world then (T). -/
def AT (A : Value → Prop) (T : Value → World → Prop) : Value → World → Prop := fun v w => A v ∧ T v w
def wpUN (P : Program) (md : Region.Mode) (ops : Array Oper) (n : Nat) (L : Array Bool → Act → (World → Prop) → Prop) : Nat → Array Bool → Act → (World → Prop) → Prop
  | 0, listed, a, S => L listed a S
  | f + 1, listed, a, S =>
    Region.ready md ops listed ≠ [] ∧ ∀ i ∈ Region.ready md ops listed, i < n ∧ ∃ o A T, ops[i]? = some o ∧ (∀ v, Pers (T v)) ∧ StabN P ops S o (AT A T) a ∧
      ∀ v, A v → wpUN P md ops n L f (listed.setIfInBounds i true) (a.put o.dst v) (fun w => S w ∧ T v w)
theorem wpAny_of_headN {n g : Nat} {L : Array Bool → Act → (World → Prop) → Prop} {Q' : Exit → Act → World → Prop} (hL : ∀ listed a S, L listed a S → ∀ w, S w → wpAny P md ops Q' g listed a w) :
    ∀ (f : Nat) (listed : Array Bool) (a : Act) (S : World → Prop), Pers S → wpUN P md ops n L f listed a S → ∀ w, S w → wpAny P md ops Q' (f + g) listed a w
  | 0, listed, a, S, _, h, w, hS => by rw [Nat.zero_add]; exact hL _ _ _ h w hS
  | f + 1, listed, a, S, hp, h, w, hS => by
    rw [show f + 1 + g = (f + g) + 1 by omega]
    refine ⟨fun h0 => absurd h0 h.1, fun i hi => ?_⟩
    obtain ⟨_, o, A, T, ho, hT, hy, hr⟩ := h.2 i hi
    exact hy.wpOp ho hp hS (fun v w' hS' hV' => wpAny_of_headN hL f _ _ _ (hp.and (hT v)) (hr v hV'.1) w' ⟨hS', hV'.2⟩)
/-- The leaf does not mind a stronger or an equal condition. -/
def LeafOk (L : Array Bool → Act → (World → Prop) → Prop) : Prop := ∀ listed a (S T : World → Prop), (∀ w, T w → S w) → L listed a S → L listed a T
theorem wpUN.weaken {n : Nat} {L : Array Bool → Act → (World → Prop) → Prop} (hLk : LeafOk L) : ∀ (f : Nat) (listed : Array Bool) (a : Act) (S T : World → Prop), (∀ w, T w → S w) → wpUN P md ops n L f listed a S → wpUN P md ops n L f listed a T
  | 0, listed, a, S, T, h, hh => hLk listed a S T h hh
  | f + 1, listed, a, S, T, h, hh => by
    refine ⟨hh.1, fun i hi => ?_⟩
    obtain ⟨hn, o, A, V, ho, hV, hy, hr⟩ := hh.2 i hi
    exact ⟨hn, o, A, V, ho, hV, hy.strengthen h, fun v hv => wpUN.weaken hLk f _ _ _ _ (fun w ⟨h1, h2⟩ => ⟨h w h1, h2⟩) (hr v hv)⟩
/-- A stable operation: one value. -/
def Any : Value → World → Prop := fun _ _ => True
theorem Any.pers (u : Value) : Pers (Any u) := fun _ _ _ _ => trivial
theorem wpUN_first {n i : Nat} {oi : Oper} {v : Value} {L : Array Bool → Act → (World → Prop) → Prop} (hLk : LeafOk L) (hi : ops[i]? = some oi) (hsel : ∀ (j : Nat) (o : Oper) cs b, ops[j]? = some o → o.op ≠ .select cs b)
    (hs : Region.sinkB md ops n = true) (hc : Region.chainB md ops n = true) (hn : n < ops.size) (hin : i < n)
    (hdone : ∀ listed a S, L listed a S → ∀ j ∈ Region.ready md ops listed, n ≤ j) :
    ∀ (f : Nat) (listed : Array Bool) (a : Act) (S : World → Prop), HeadInv md ops n listed →
      (∀ j oj, ops[j]? = some oj → j ≠ i → listed.getD j true = false → (∀ e ∈ oj.after, Region.binds md e = true → e.on ≠ i) → oi.apart ops oj = true) →
      i ∈ Region.ready md ops listed → StabN P ops S oi (AT (· = v) Any) a →
      wpUN P md ops n L f (listed.setIfInBounds i true) (a.put oi.dst v) S → wpUN P md ops n L (f + 1) listed a S := by
  intro f
  induction f with
  | zero =>
    intro listed a S inv _ hr hy H
    have hun := (mem_ready.1 hr).1
    refine ⟨fun h => (by rw [h] at hr; cases hr), fun j hj => ?_⟩
    have hjn : j < n := by
      rcases Nat.lt_or_ge j n with h | h
      · exact h
      · exact absurd hj (tail_waits hs hc hn inv _ i rfl hin hun j h)
    refine ⟨hjn, ?_⟩
    by_cases hji : j = i
    · subst hji
      exact ⟨oi, _, _, hi, Any.pers, hy, fun u hu => by subst hu; exact hLk _ _ S _ (fun w h => h.1) H⟩
    · have := hdone _ _ _ H j (ready_mono hj hji)
      omega
  | succ f ih =>
    intro listed a S inv hfree hr hy H
    have hun := (mem_ready.1 hr).1
    refine ⟨fun h => (by rw [h] at hr; cases hr), fun j hj => ?_⟩
    have hjn : j < n := by
      rcases Nat.lt_or_ge j n with h | h
      · exact h
      · exact absurd hj (tail_waits hs hc hn inv _ i rfl hin hun j h)
    refine ⟨hjn, ?_⟩
    by_cases hji : j = i
    · subst hji
      exact ⟨oi, _, _, hi, Any.pers, hy, fun u hu => by subst hu; exact wpUN.weaken hLk _ _ _ S _ (fun w h => h.1) H⟩
    · obtain ⟨_, oj', A, T, hoj', hT, hyj, Hj⟩ := H.2 j (ready_mono hj hji)
      obtain ⟨hjun, oj, hoj, hall⟩ := mem_ready.1 hj
      obtain rfl : oj' = oj := Option.some.inj (hoj'.symm.trans hoj)
      have hnot : ∀ e ∈ oj'.after, Region.binds md e = true → e.on ≠ i := fun e he hb heq => by
        have h1 := hall e he hb
        rw [heq, getD_both hun] at h1
        cases h1
      obtain ⟨h1, h2, h3⟩ := Oper.apart_spec (hfree j oj' hoj hji hjun hnot)
      have hsi := fun cs b => hsel i oi cs b hi
      have hsj := fun cs b => hsel j oj' cs b hoj
      have hyj' : StabN P ops S oj' (AT A T) a := hyj.of_same (execOp_put oj' hsj a oi.dst v h1).symm (wanted_put oj' a oi.dst v h1).symm (Act.put_size _ _ _).symm
      have hfree' : ∀ k ok, ops[k]? = some ok → k ≠ i → (listed.setIfInBounds j true).getD k true = false →
          (∀ e ∈ ok.after, Region.binds md e = true → e.on ≠ i) → oi.apart ops ok = true := fun k ok hk hki hun hno => by
        refine hfree k ok hk hki ?_ hno
        by_cases hjk : j = k
        · subst hjk; exact hjun
        · rw [getD_set_ne true hjk] at hun; exact hun
      refine ⟨oj', A, T, hoj, hT, hyj', fun u hu => ?_⟩
      have hyi' : StabN P ops (fun w => S w ∧ T u w) oi (AT (· = v) Any) (a.put oj'.dst u) := (hy.of_same (execOp_put oi hsi a oj'.dst u h3) (wanted_put oi a oj'.dst u h3) (Act.put_size _ _ _)).strengthen (fun w h => h.1)
      refine ih (listed.setIfInBounds j true) _ _ (inv.set hj hjn) hfree' (ready_mono hr (Ne.symm hji)) hyi' ?_
      rw [Array.setIfInBounds_comm _ _ hji, ← Act.put_comm a v u h2]
      exact Hj u hu
/-- The leaf: the forced tail, from every world that meets the condition. -/
def tailN (P : Program) (ops : Array Oper) (Q : Exit → Act → World → Prop) (n : Nat) : Array Bool → Act → (World → Prop) → Prop := fun listed a S =>
  Region.seqB .any ops (ops.size - n) n listed = true ∧ ∀ w, S w → wpList P ops Q (ops.toList.drop n) a w
theorem tailN_ok {Q : Exit → Act → World → Prop} {n : Nat} : LeafOk (tailN P ops Q n) := fun _ _ _ _ h hh => ⟨hh.1, fun w hw => hh.2 w (h w hw)⟩
/-- A walk of the head: what is listed, the frame, the condition. -/
structure AtN (P : Program) (ops : Array Oper) (Q : Exit → Act → World → Prop) (n : Nat) (f : Nat) (listed : Array Bool) (a : Act) (S : World → Prop) : Prop where
  h : HeadInv .any ops n listed → wpUN P .any ops n (tailN P ops Q n) f listed a S
variable {Q : Exit → Act → World → Prop} {S : World → Prop} {a : Act} {listed : Array Bool} {n f : Nat}
def Region.tailB (ops : Array Oper) (n : Nat) : Bool := Region.noSelect ops && decide (n < ops.size) && Region.sinkB .any ops n && Region.chainB .any ops n
/-- Take number i, a stable operation, first. -/
theorem AtN.take (i : Nat) {o : Oper} {v : Value} (hB : Region.tailB ops n = true) (hi : ops[i]? = some o) (hin : (i < n) = True) (hf : Region.free .any ops listed i = true) (hr : (Region.ready .any ops listed).contains i = true)
    (hy : StabN P ops S o (AT (· = v) Any) a) (h : AtN P ops Q n f (listed.setIfInBounds i true) (a.put o.dst v) S) : AtN P ops Q n (f + 1) listed a S := ⟨fun inv => by
  simp only [Region.tailB, Bool.and_eq_true, decide_eq_true_eq] at hB
  obtain ⟨⟨⟨hsel, hn⟩, hs⟩, hc⟩ := hB
  have hr' : i ∈ Region.ready .any ops listed := by simpa using hr
  have hin' : i < n := by rw [hin]; trivial
  exact wpUN_first tailN_ok hi (Region.noSelect_spec hsel) hs hc hn hin' (fun listed a S hL => seqB_ready hL.1) f listed a S inv (Region.free_spec hi hf) hr' hy (h.h (inv.set hr' hin'))⟩
/-- At number c of the operations that are taken one behind the other. -/
def AtC (c : Nat) (P : Program) (ops : Array Oper) (Q : Exit → Act → World → Prop) (n : Nat) (f : Nat) (listed : Array Bool) (a : Act) (S : World → Prop) : Prop := c ≤ c ∧ AtN P ops Q n f listed a S
theorem AtN.go (c : Nat) (h : AtC c P ops Q n f listed a S) : AtN P ops Q n f listed a S := h.2
theorem AtC.back {c : Nat} (h : AtN P ops Q n f listed a S) : AtC c P ops Q n f listed a S := ⟨Nat.le_refl c, h⟩
theorem AtC.take {i : Nat} {o : Oper} {v : Value} (hB : Region.tailB ops n = true) (hi : ops[i]? = some o) (hin : (i < n) = True) (hf : Region.free .any ops listed i = true) (hr : (Region.ready .any ops listed).contains i = true)
    (hy : StabN P ops S o (AT (· = v) Any) a) (h : AtC (i + 1) P ops Q n f (listed.setIfInBounds i true) (a.put o.dst v) S) : AtC i P ops Q n (f + 1) listed a S := ⟨Nat.le_refl i, AtN.take i hB hi hin hf hr hy h.2⟩
/-- One alone may come up. -/
theorem AtN.one (i : Nat) {o : Oper} (A : Value → Prop) (T : Value → World → Prop) (hin : (i < n) = True) (hr : Region.ready .any ops listed = [i]) (hi : ops[i]? = some o) (hT : ∀ v, Pers (T v))
    (hy : StabN P ops S o (AT A T) a) (h : ∀ v, A v → AtN P ops Q n f (listed.setIfInBounds i true) (a.put o.dst v) (fun w => S w ∧ T v w)) : AtN P ops Q n (f + 1) listed a S := ⟨fun inv => by
  have hin' : i < n := by rw [hin]; trivial
  refine ⟨by rw [hr]; simp, fun j hj => ?_⟩
  have hj' := hj
  rw [hr] at hj
  obtain rfl : j = i := by simpa using hj
  exact ⟨hin', o, A, T, hi, hT, hy, fun v hv => (h v hv).h (inv.set hj' hin')⟩⟩
theorem AtN.done (hB : Region.seqB .any ops (ops.size - n) n listed = true) (h : ∀ w, S w → wpList P ops Q (ops.toList.drop n) a w) : AtN P ops Q n 0 listed a S := ⟨fun _ => ⟨hB, h⟩⟩
theorem wp_region_n {id : Nat} {w : World} (n : Nat) (S : World → Prop) (hm : P.follows .mixedOrders = true) (hB : Region.tailB ops n = true) (hp : Pers S) (hS : S w.drew)
    (h : AtN P ops Q n n (Array.replicate ops.size false) a S) : (Code.region id ops true).wp P Q a w := by
  simp only [Region.tailB, Bool.and_eq_true, decide_eq_true_eq] at hB
  obtain ⟨⟨⟨hsel, hn⟩, hs⟩, hc⟩ := hB
  have inv0 : HeadInv .any ops n (Array.replicate ops.size false) :=
    ⟨by simp, fun j oj _ hl => (by rw [getD_replicate_false] at hl; cases hl), fun t _ ht => getD_in (by simpa using ht) (getD_replicate_false _ _)⟩
  refine wp_region_any hm ?_
  have := wpAny_of_headN (Q' := Q) (g := ops.size - n) (fun listed a' S hL w' hS' => by
    have := wpAny_of_seq (md := .any) (Q' := Q) (ops.toList.drop n) n listed a' w' (fun j => by simp [List.getElem?_drop]) (by simpa using hL.1) (hL.2 w' hS')
    simpa using this) _ _ _ _ hp (h.h inv0) w.drew hS
  rw [show n + (ops.size - n) = ops.size by omega] at this
  exact this
/-- An operation that yields its value and leaves the world. -/
theorem StabN.val {o : Oper} {v : Value} (hw : Region.wanted o (yielded ops a.tmps) = true) (h : ∀ w, S w → (execOp a.eval o).run P w = .ok (.value v) w) : StabN P ops S o (AT (· = v) Any) a :=
  .inl ⟨hw, fun w hS => by rw [h w hS]; exact ⟨v, samePut.rfl', ⟨rfl, trivial⟩, Below.refl _ _⟩⟩
theorem StabN.call {o : Oper} (f : FuncId) (args : Array Value) (A : Value → Prop) (T : Value → World → Prop) (hw : Region.wanted o (yielded ops a.tmps) = true) (h : ∀ w, (execOp a.eval o).run P w = .ok (.enter f args) w)
    (hc : ∀ w, S w → Calls P f args w fun e w' => ∃ v, e = .returned v ∧ (A v ∧ T v w') ∧ Below w.heap.size w w') : StabN P ops S o (AT A T) a :=
  .inl ⟨hw, fun w hS => by
    rw [h w]
    refine (hc w hS).mono fun e w' ⟨v, he, hv, hb⟩ => ?_
    rw [he]
    exact ⟨v, samePut.rfl', hv, hb⟩⟩
theorem StabN.call1 {o : Oper} (f : FuncId) (args : Array Value) (v : Value) (hw : Region.wanted o (yielded ops a.tmps) = true) (h : ∀ w, (execOp a.eval o).run P w = .ok (.enter f args) w)
    (hc : ∀ w, S w → Calls P f args w fun e w' => e = .returned v ∧ Below w.heap.size w w') : StabN P ops S o (AT (· = v) Any) a :=
  StabN.call f args _ _ hw h (fun _ hS => (hc _ hS).mono fun _ _ ⟨he, hb⟩ => ⟨v, he, ⟨rfl, trivial⟩, hb⟩)
/-- An operation that makes a block. -/
theorem StabN.new {o : Oper} (A : Value → Prop) (T : Value → World → Prop) (hw : Region.wanted o (yielded ops a.tmps) = true)
    (h : ∀ w, S w → ∃ v w', (execOp a.eval o).run P w = .ok (.value v) w' ∧ A v ∧ T v w' ∧ Below w.heap.size w w') : StabN P ops S o (AT A T) a :=
  .inl ⟨hw, fun w hS => by
    obtain ⟨v, w', hr, hA, hT, hb⟩ := h w hS
    rw [hr]; exact ⟨v, samePut.rfl', ⟨hA, hT⟩, hb⟩⟩
/-- A pointer to a block that is known whole. -/
def NewP (t : TypeId) (cs : Array Value) : Value → World → Prop := fun v w => ∃ g, v = .pointer (some ⟨g, 0, none⟩) ∧ w.heap[g]? = some (.cells cs t (0, 0))
theorem lt_of_heap {w : World} {g : Nat} {o : Obj} (h : w.heap[g]? = some o) : g < w.heap.size := by
  rcases Nat.lt_or_ge g w.heap.size with hlt | hge
  · exact hlt
  · rw [Array.getElem?_eq_none hge] at h; cases h
theorem NewP.pers (t : TypeId) (cs : Array Value) (v : Value) : Pers (NewP t cs v) := fun _ _ ⟨g, hv, hh⟩ hb => ⟨g, hv, (hb.block g (lt_of_heap hh)).trans hh⟩
theorem NewP.at_ {t : TypeId} {cs : Array Value} {g : Nat} {w : World} (h : NewP t cs (.pointer (some ⟨g, 0, none⟩)) w) : w.heap[g]? = some (.cells cs t (0, 0)) := by
  obtain ⟨g', e, hh⟩ := h
  injection e with e
  injection e with e
  injection e with e1 _ _
  rw [e1]; exact hh
/-- A new variable. -/
theorem StabN.alloc {o : Oper} (base : Nat) (t : TypeId) (cs : Array Value) (avoid : List Nat) (hw : Region.wanted o (yielded ops a.tmps) = true)
    (h : ∀ w, S w → (execOp a.eval o).run P w = .ok (.value (.pointer (some ⟨w.heap.size, 0, none⟩))) (w.alloc (.cells cs t))) (hb : ∀ w, S w → base ≤ w.heap.size) (hav : ∀ w, S w → ∀ x ∈ avoid, x < w.heap.size) :
    StabN P ops S o (AT (fun v => ∃ g, v = .pointer (some ⟨g, 0, none⟩) ∧ base ≤ g ∧ ∀ x ∈ avoid, g ≠ x) (NewP t cs)) a :=
  StabN.new _ _ hw fun w hS => ⟨_, _, h w hS, ⟨_, rfl, hb w hS, fun x hx => Nat.ne_of_gt (hav w hS x hx)⟩, ⟨_, rfl, by
    show (w.heap.push _)[w.heap.size]? = _
    simp⟩, (Below.refl _ _).alloc (Nat.le_refl _) _⟩
end
end Go

namespace Go.Proofs.YtaefcahblmopfaaGreatDoor
open Go.RowKit
/-- A row's head, and the cells it stands for. -/
structure Rh where
  A : Option Addr
  cs : List Cl
  cap : Nat
  cont : Bool
def encRh (r : Rh) : List Value := [.slice r.A r.cs.length r.cap, .bool r.cont]
def roOf (r : Rh) : Ro := ⟨r.cs, r.cont⟩
def zeroRh : Rh := ⟨none, [], 0, false⟩
theorem encRh_len : ∀ r, (encRh r).length = 2 := fun _ => rfl
theorem encRh_one : ∀ r, ∀ v ∈ encRh r, v.oneCell' = true := fun r v hv => by
  simp only [encRh, List.mem_cons, List.not_mem_nil, or_false] at hv
  rcases hv with rfl | rfl <;> rfl
/-- The cells of a row are there, in a block of cells. -/
def RcAt (w : World) (r : Rh) : Prop :=
  r.cs.length ≤ 10000 ∧ Fine r.cs ∧ GrAt encCl 8 w r.A r.cs ∧ (0 < r.cs.length → ∃ b off cs f, r.A = some ⟨b, off, none⟩ ∧ w.heap[b]? = some (.cells cs 65 f))
def NoCel (w : World) (X : List Nat) : Prop := ∀ b ∈ X, ∀ cs f, w.heap[b]? ≠ some (.cells cs 65 f)
theorem RcAt.mod {X : List Nat} {w w' : World} {r : Rh} (h : RcAt w r) (hm : Mod X w w') (hX : NoCel w X) : RcAt w' r := by
  obtain ⟨h1, h2, h3, h4⟩ := h
  by_cases h0 : 0 < r.cs.length
  · obtain ⟨b, off, cs, f, hA, hb⟩ := h4 h0
    have hbX : b ∉ X := fun hx => hX b hx cs f hb
    refine ⟨h1, h2, ?_, fun _ => ⟨b, off, cs, f, hA, (hm.block b (Array.getElem?_eq_some_iff.1 hb).1 hbX).trans hb⟩⟩
    rw [hA] at h3 ⊢
    exact gr_mod h3 hm hbX
  · exact ⟨h1, h2, fun h => absurd h h0, fun h => absurd h h0⟩
theorem NoCel.nil (w : World) : NoCel w [] := fun _ h => by cases h
theorem RcAt.below {w w' : World} {r : Rh} (h : RcAt w r) (hb : Below w.heap.size w w') : RcAt w' r := h.mod (Mod.of_below (X := []) hb) (NoCel.nil w)
theorem RcAt.of_own {w : World} {base g cap : Nat} {l : List Cl} (h : CrO w base g cap l) (hz : l.length ≤ 10000) (hf : Fine l) (cont : Bool) : RcAt w ⟨some ⟨g, 0, none⟩, l, cap, cont⟩ := by
  refine ⟨hz, hf, fun h0 => ⟨g, 0, rfl, fun i x hx j v hv => by rw [Nat.zero_add]; exact h.range hx j v hv⟩, fun h0 => ?_⟩
  rcases h.2 with ⟨e, -⟩ | ⟨g', c', cur, e, _, e3, _⟩
  · cases e
  · simp only [Value.slice.injEq, Option.some.injEq, Addr.mk.injEq, and_true, true_and] at e
    obtain ⟨rfl, -⟩ := e
    exact ⟨g, 0, cur, (0, 0), rfl, e3⟩
/-- Another cont. -/
theorem RcAt.cont {w : World} {r : Rh} (h : RcAt w r) (b : Bool) : RcAt w { r with cont := b } := h
/-- Where the i-th row of a ring is. -/
def slotOf (m first i : Nat) : Nat := if m ≤ first + i then first + i - m else first + i
def histL (SL : List Rh) (first n : Nat) : List Rh := (List.range n).map (fun i => SL.getD (slotOf SL.length first i) zeroRh)
theorem histL_len (SL : List Rh) (first n : Nat) : (histL SL first n).length = n := by simp [histL]
theorem slotOf_lt {m first i : Nat} (hf : first < m) (hi : i < m) : slotOf m first i < m := by unfold slotOf; split <;> omega
theorem slotOf_inj {m first i j : Nat} (hf : first < m) (hi : i < m) (hj : j < m) (h : slotOf m first i = slotOf m first j) : i = j := by
  unfold slotOf at h
  split at h <;> split at h <;> omega
theorem histL_at {SL : List Rh} {first n i : Nat} (hf : first < SL.length) (hn : n ≤ SL.length) (hi : i < n) : (histL SL first n)[i]? = SL[slotOf SL.length first i]? := by
  have hs := slotOf_lt hf (show i < SL.length by omega)
  unfold histL
  rw [List.getElem?_map, List.getElem?_range hi]
  simp [List.getD_eq_getElem?_getD, List.getElem?_eq_getElem hs]
theorem histL_push {SL : List Rh} {first n : Nat} (hf : first < SL.length) (hn : n < SL.length) (r : Rh) : histL (SL.set (slotOf SL.length first n) r) first (n + 1) = histL SL first n ++ [r] := by
  have hs := slotOf_lt hf hn
  refine List.ext_getElem? fun i => ?_
  rcases Nat.lt_or_ge i (n + 1) with hi | hi
  · rw [histL_at (by simpa using hf) (by simp; omega) hi, List.length_set]
    rcases Nat.lt_or_ge i n with h | h
    · rw [List.getElem?_append_left (by rw [histL_len]; exact h), histL_at hf (by omega) h, List.getElem?_set_ne (fun e => by have := slotOf_inj hf (by omega) (by omega) e; omega)]
    · have : i = n := by omega
      subst this
      rw [List.getElem?_append_right (by rw [histL_len]; exact Nat.le_refl _), histL_len, List.getElem?_set_self hs]
      simp
  · rw [List.getElem?_eq_none (by rw [histL_len]; exact hi), List.getElem?_eq_none (by simp [histL_len]; omega)]
theorem histL_drop {SL : List Rh} {first n : Nat} (hf : first < SL.length) (hn : n ≤ SL.length) (h0 : 0 < n) (r : Rh) : histL (SL.set first r) (slotOf SL.length first 1) (n - 1) = (histL SL first n).drop 1 := by
  refine List.ext_getElem? fun i => ?_
  rw [List.getElem?_drop]
  rcases Nat.lt_or_ge i (n - 1) with hi | hi
  · have h1 : 1 < SL.length := by omega
    have hs := slotOf_lt hf h1
    rw [histL_at (by simpa using hs) (by simp; omega) hi, histL_at hf hn (by omega), List.length_set]
    have e : slotOf SL.length (slotOf SL.length first 1) i = slotOf SL.length first (1 + i) := by
      unfold slotOf
      repeat' split
      all_goals omega
    rw [e, List.getElem?_set_ne]
    unfold slotOf
    split <;> omega
  · rw [List.getElem?_eq_none (by rw [histL_len]; exact hi), List.getElem?_eq_none (by rw [histL_len]; omega)]
theorem histL_grown {H Z : List Rh} : histL (H ++ Z) 0 H.length = H := by
  refine List.ext_getElem? fun i => ?_
  rcases Nat.lt_or_ge i H.length with hi | hi
  · rw [histL_at (by simp; omega) (by simp) hi]
    have e : slotOf (H ++ Z).length 0 i = i := by unfold slotOf; rw [if_neg (by simp; omega)]; omega
    rw [e, List.getElem?_append_left hi]
  · rw [List.getElem?_eq_none (by rw [histL_len]; exact hi), List.getElem?_eq_none hi]
/-- A ring in memory. -/
structure RgO (base : Nat) (w : World) (R : Nat) (vl : Value) (SL : List Rh) (room first n : Nat) (gone : Int) : Prop where
  blk : w.heap[R]? = some (.cells #[vl, .int .i64 room, .int .i64 first, .int .i64 n, .int .u64 gone] 225 (0, 0))
  own : w.ownsRow base 52 2 vl SL.length (flat encRh SL)
  hb : base ≤ R
  hroom : room ≤ 100000
  hn : n ≤ SL.length
  hm : SL.length ≤ room
  hf : first < SL.length ∨ (first = 0 ∧ SL.length = 0)
  rows : ∀ r ∈ histL SL first n, RcAt w r ∧ 0 < r.cs.length
def ringX (R : Nat) (vl : Value) : List Nat := R :: vl.ownBlock.toList
theorem own_block {w : World} {base n size : Nat} {e : TypeId} {v : Value} {xs : List Value} (h : w.ownsRow base e size v n xs) {g : Nat} (hg : v.ownBlock = some g) : ∃ cur : Array Value, w.heap[g]? = some (.cells cur e (0, 0)) := by
  rcases h.2 with ⟨rfl, -⟩ | ⟨g', c', cur, rfl, _, e3, _⟩
  · simp [Value.ownBlock] at hg
  · simp [Value.ownBlock] at hg
    subst hg
    exact ⟨cur, e3⟩
theorem RgO.nocel {base : Nat} {w : World} {R : Nat} {vl : Value} {SL : List Rh} {room first n : Nat} {gone : Int} (h : RgO base w R vl SL room first n gone) : NoCel w (ringX R vl) := by
  intro b hb cs f he
  rcases List.mem_cons.1 hb with rfl | hb
  · rw [h.blk] at he
    injection he with he
    injection he with _ ht
    exact absurd ht (by decide)
  · obtain ⟨cur, hc⟩ := own_block h.own (by simpa [Option.mem_toList] using hb)
    rw [hc] at he
    injection he with he
    injection he with _ ht
    exact absurd ht (by decide)
theorem RgO.mod {X : List Nat} {base : Nat} {w w' : World} {R : Nat} {vl : Value} {SL : List Rh} {room first n : Nat} {gone : Int} (h : RgO base w R vl SL room first n gone) (hm : Mod X w w') (hX : NoCel w X) (hR : ∀ g ∈ ringX R vl, g ∉ X) : RgO base w' R vl SL room first n gone :=
  ⟨(hm.block R (Array.getElem?_eq_some_iff.1 h.blk).1 (hR R (by simp [ringX]))).trans h.blk, owns_mod h.own hm (fun g hg => hR g (by simp [ringX, hg])), h.hb, h.hroom, h.hn, h.hm, h.hf, fun r hr => ⟨(h.rows r hr).1.mod hm hX, (h.rows r hr).2⟩⟩
theorem RgO.below {base : Nat} {w w' : World} {R : Nat} {vl : Value} {SL : List Rh} {room first n : Nat} {gone : Int} (h : RgO base w R vl SL room first n gone) (hb : Below w.heap.size w w') : RgO base w' R vl SL room first n gone :=
  h.mod (Mod.of_below (X := []) hb) (NoCel.nil w) (fun _ _ h => by cases h)
theorem RgO.lt {base : Nat} {w : World} {R : Nat} {vl : Value} {SL : List Rh} {room first n : Nat} {gone : Int} (h : RgO base w R vl SL room first n gone) : ∀ g ∈ ringX R vl, base ≤ g ∧ g < w.heap.size := fun g hg => by
  rcases List.mem_cons.1 hg with rfl | hg
  · exact ⟨h.hb, (Array.getElem?_eq_some_iff.1 h.blk).1⟩
  · exact h.own.lt g (by simpa [Option.mem_toList] using hg)
theorem RgO.ne {base : Nat} {w : World} {R : Nat} {vl : Value} {SL : List Rh} {room first n : Nat} {gone : Int} (h : RgO base w R vl SL room first n gone) {g : Nat} (hg : vl.ownBlock = some g) : g ≠ R := by
  rintro rfl
  obtain ⟨cur, hc⟩ := own_block h.own hg
  rw [h.blk] at hc
  injection hc with hc
  injection hc with _ ht
  exact absurd ht (by decide)
end Go.Proofs.YtaefcahblmopfaaGreatDoor
namespace Go.Proofs.YtaefcahblmopfaaGreatDoor
open Go.RowKit
theorem copy_cells (r : Rh) (w : World) (h : RcAt w r) (h0 : 0 < r.cs.length) :
    ∃ g cap w', (Builtin.append_ #[50, 50] 50 #[.slice none 0 0, .slice r.A r.cs.length r.cap]).run Tryz.prog w = .ok (.slice (some ⟨g, 0, none⟩) r.cs.length cap) w' ∧ CrO w' w.heap.size g cap r.cs ∧ Below w.heap.size w w' := by
  obtain ⟨j0, hj, gz0, gz1, gz2⟩ := info_parts info_cellz
  obtain ⟨hz, hf, hg, hA⟩ := h
  obtain ⟨b, off, cs, f, hA, -⟩ := hA h0
  rw [hA] at hg ⊢
  obtain ⟨v', w', hr, ho, hgr, -⟩ := run_append_own_at (P := Tryz.prog) w w.heap.size 50 50 65 j0 _ 8 72 Tryz.underlying50 hj gz0 gz1 gz2 rfl (by decide) _ 0 [] (World.ownsRow_nil _ _ _ _) ⟨b, off, none⟩ r.cs.length r.cap (flat encCl r.cs) (flat_len encCl_len r.cs) (hg.news encCl_len) (flat_one encCl_one _) (by simp only [maxLen]; omega) (by omega) (Nat.le_refl _)
  rw [Nat.zero_add, List.nil_append] at ho
  obtain ⟨g, cap, hv⟩ := Go.Joins.ownsRow_form ho h0
  subst hv
  exact ⟨g, cap, w', hr, ho, (Below.refl _ _).grown hgr (Nat.le_refl _) (fun k hk => by cases hk)⟩
def OwnPost (r : Rh) (w : World) (e : Ending) (w' : World) : Prop := ∃ g cap, e = .returned (.agg #[.slice (some ⟨g, 0, none⟩) r.cs.length cap, .bool r.cont]) ∧ RcAt w' ⟨some ⟨g, 0, none⟩, r.cs, cap, r.cont⟩ ∧ Below w.heap.size w w' ∧ w.heap.size ≤ g
theorem info_row : (Tryz.prog.info? 52).map (·.size) = some 2 := by kernel_rfl
theorem ret_row {fn : Func} {p : Tmp} (hr : fn.results = #[.cell p 52]) (tmps : Array Value) (w : World) (b : Nat) (u v : Value) (hp : tmps.getD p undef = .pointer (some ⟨b, 0, none⟩)) (h0 : w.cell? ⟨b, 0, none⟩ = some u) (h1 : w.cell? ⟨b, 1, none⟩ = some v) :
    (results fn tmps).run Tryz.prog w = .ok (.agg #[u, v]) w := by
  rw [results_cell1 hr, hp]
  have := run_loadVar_mid (P := Tryz.prog) w b 0 52 [u, v] _ (fun j x hj => by
    rw [Nat.zero_add]
    match j, hj with
    | 0, hj => simp at hj; subst hj; exact h0
    | 1, hj => simp at hj; subst hj; exact h1) Tryz.underlying52 rfl info_row
  simp only [asAddr, Sem.run_pure, Result.andThen_ok, this]
set_option maxRecDepth 100000 in
set_option maxHeartbeats 3200000 in
theorem rown_any (r : Rh) (w : World) (h : RcAt w r) (h0 : 0 < r.cs.length) : Calls Tryz.prog 250 #[.agg #[.slice r.A r.cs.length r.cap, .bool r.cont]] w (OwnPost r w) := by
  have H := Lib.hid h
  have H0 := Lib.hid h0
  clear h h0
  obtain ⟨A, cs, cap0, cont⟩ := r
  simp only at H H0
  go_enter Tryz.func250, Tryz.ntmps250
  go_upto_region 1 with fail
  have HB := Lib.hid (below_allocs (below_allocs (Below.refl w.heap.size w) (.cells #[.slice A cs.length cap0, .bool cont] 52)) (.cells #[.slice none 0 0, .bool false] 52))
  have x := hp_old (o := .cells #[.slice none 0 0, .bool false] 52) (hp_new (W := w) (b := w.heap.size) (o := .cells #[.slice A cs.length cap0, .bool cont] 52) rfl)
  have y := hp_new (W := w.alloc (.cells #[.slice A cs.length cap0, .bool cont] 52)) (b := w.heap.size + 1) (o := .cells #[.slice none 0 0, .bool false] 52) (by simp)
  generalize World.alloc _ _ = W at HB x y ⊢
  have x0 := (at_ x 0 _ rfl).1
  have x1 := (at_ x 1 _ rfl).1
  have Y := Lib.hid y
  clear x y
  refine wp_region_n 5 (fun w' => Below W.heap.size W w' ∧ w'.cell? ⟨w.heap.size, 0, none⟩ = some (.slice A cs.length cap0) ∧ w'.cell? ⟨w.heap.size, 1, none⟩ = some (.bool cont)) (by kernel_rfl) (by kernel_rfl) (fun w1 w2 hS hb => ⟨below_tail hS.1 hb, holda hb hS.2.1, holda hb hS.2.2⟩) ⟨(Below.refl _ _).drew, x0, x1⟩ ?_
  refine AtN.go 0 ?_
  iterate 2 (refine AtC.take (o := ⟨_, _, _, _, _, _⟩) (v := ?_) (by kernel_rfl) rfl (by simp) (by kernel_rfl) (by kernel_rfl) ?_ ?_; rotate_left; (focus (first | exact StabN.skip (by rfl) | (refine StabN.val (by rfl) ?_; intro w' hS; obtain ⟨_, _, _⟩ := hS; go_simp; first | done | with_reducible rfl))); simp only [Act.put, List.setIfInBounds_toArray, List.set_cons_zero, List.set_cons_succ])
  refine AtC.back ?_
  refine AtN.go 3 ?_
  iterate 2 (refine AtC.take (o := ⟨_, _, _, _, _, _⟩) (v := ?_) (by kernel_rfl) rfl (by simp) (by kernel_rfl) (by kernel_rfl) ?_ ?_; rotate_left; (focus (first | exact StabN.skip (by rfl) | (refine StabN.val (by rfl) ?_; intro w' hS; obtain ⟨_, _, _⟩ := hS; go_simp; first | done | with_reducible rfl))); simp only [Act.put, List.setIfInBounds_toArray, List.set_cons_zero, List.set_cons_succ])
  refine AtC.back ?_
  refine AtN.one 2 (o := ⟨some 5, .call { callee := .builtin .append, args := #[.const (.slice none 0 0), .tmp 4], argTypes := #[50, 50] }, 50, _, _, none⟩) (fun v => ∃ g cap, v = .slice (some ⟨g, 0, none⟩) cs.length cap) (fun v w' => ∃ g cap, v = .slice (some ⟨g, 0, none⟩) cs.length cap ∧ RcAt w' ⟨some ⟨g, 0, none⟩, cs, cap, cont⟩ ∧ w.heap.size ≤ g) (by simp) (by kernel_rfl) rfl (fun v w1 w2 ⟨g, cap, hv, hr, hg⟩ hb => ⟨g, cap, hv, hr.below hb, hg⟩) (StabN.new _ _ (by rfl) (fun w' hS => ?_)) ?_
  · obtain ⟨g, cap, w2, hr, hc, hb⟩ := copy_cells ⟨A, cs, cap0, cont⟩ w' (H.out.below (below_tail HB.out hS.1)) H0.out
    exact ⟨_, w2, exec_append _ _ _ rfl _ _ _ rfl rfl hr, ⟨g, cap, rfl⟩, ⟨g, cap, rfl, .of_own hc H.out.1 H.out.2.1 cont, Nat.le_trans (below_tail HB.out hS.1).size hc.lt.1⟩, hb⟩
  rintro v ⟨g, cap, rfl⟩
  simp only [Act.put, List.setIfInBounds_toArray, List.set_cons_zero, List.set_cons_succ]
  refine AtN.done (by kernel_rfl) (fun w' hS => ?_)
  obtain ⟨⟨hb1, -, -⟩, g', cap', hv, hrc, hg⟩ := hS
  simp only [Value.slice.injEq, Option.some.injEq, Addr.mk.injEq, and_true, true_and] at hv
  obtain ⟨rfl, rfl⟩ := hv
  have HR := Lib.hid hrc
  have HG := Lib.hid hg
  have HB2 := Lib.hid (below_tail HB.out hb1)
  obtain ⟨y0, y0f⟩ := hold hb1 (at_ Y.out 0 _ rfl)
  obtain ⟨y1, y1f⟩ := hold hb1 (at_ Y.out 1 _ rfl)
  have HB1 := Lib.hid hb1
  clear hb1 hrc hg x0 x1
  go_wp2
  have HB3 := below_set (below_set HB2.out (show w.heap.size ≤ w.heap.size + 1 by omega) (o := 0) (.slice (some ⟨g, 0, none⟩) cs.length cap)) (show w.heap.size ≤ w.heap.size + 1 by omega) (o := 1) (.bool cont)
  have hset := set_two (u' := .slice (some ⟨g, 0, none⟩) cs.length cap) (v' := .bool cont) ⟨y0, y0f⟩ ⟨y1, y1f⟩
  refine bodyPost_ret (ret_row rfl _ _ (w.heap.size + 1) _ _ rfl hset.1.1 hset.2.1) rfl ⟨g, cap, rfl, HR.out.mod (X := [w.heap.size + 1]) (((Mod.refl _ _).setCell (a := ⟨w.heap.size + 1, 0, none⟩) (.inl (by simp)) _).setCell (a := ⟨w.heap.size + 1, 1, none⟩) (.inl (by simp)) _) ?_, HB3, HG.out⟩
  intro b hb cs' f he
  rw [List.mem_singleton.1 hb, HB1.out.block _ (lt_of_heap Y.out), Y.out] at he
  injection he with he
  injection he with _ ht
  exact absurd ht (by decide)
end Go.Proofs.YtaefcahblmopfaaGreatDoor
namespace Go.Proofs.YtaefcahblmopfaaGreatDoor
open Go.RowKit
theorem own_form {w : World} {base n size : Nat} {e : TypeId} {v : Value} {xs : List Value} (h : w.ownsRow base e size v n xs) (hn : 0 < n) : ∃ g c, v = .slice (some ⟨g, 0, none⟩) n c := by
  rcases h.2 with ⟨-, h0⟩ | ⟨g, cap, cur, rfl, -⟩
  · omega
  · exact ⟨g, cap, rfl⟩
set_option maxRecDepth 100000 in
theorem slot_raw {R m first c : Nat} {A : Option Addr} {w : World} (x0 : w.cell? ⟨R, 0, none⟩ = some (.slice A m c)) (x2 : w.cell? ⟨R, 2, none⟩ = some (.int .i64 first)) (hm : m ≤ 100000) (hf : first ≤ 100000) (i : Nat) (hi : i ≤ 100000) :
    Calls Tryz.prog 251 #[.pointer (some ⟨R, 0, none⟩), .int .i64 i] w fun e w' => e = .returned (.int .i64 (slotOf m first i)) ∧ w = w' := by
  obtain ⟨s, hs⟩ : ∃ s : Nat, s = first + i := ⟨_, rfl⟩
  have hsI : (i : Int) + (first : Int) = (s : Int) := by omega
  have hws : IntKind.i64.wrap (s : Int) = (s : Int) := IntWalk.i64_in _ (by omega)
  by_cases hc : m ≤ s
  · have hv2 : slotOf m first i = s - m := by unfold slotOf; rw [if_pos (by omega)]; omega
    rw [hv2]
    have hcI : (m : Int) ≤ (s : Int) := by omega
    have hd : (s : Int) - (m : Int) = ((s - m : Nat) : Int) := by omega
    have hwd : IntKind.i64.wrap ((s - m : Nat) : Int) = ((s - m : Nat) : Int) := IntWalk.i64_in _ (by omega)
    clear hs hf hm
    go_enter Tryz.func251, Tryz.ntmps251
    go_wp2
    go_ret
    exact ⟨rfl, rfl⟩
  · have hv2 : slotOf m first i = s := by unfold slotOf; rw [if_neg (by omega)]; omega
    rw [hv2]
    have hcI : ¬ (m : Int) ≤ (s : Int) := by omega
    clear hs hf hm
    go_enter Tryz.func251, Tryz.ntmps251
    go_wp2
    go_ret
    exact ⟨rfl, rfl⟩
section
variable {base : Nat} {w : World} {R : Nat} {vl : Value} {SL : List Rh} {room first n : Nat} {gone : Int}
set_option maxRecDepth 100000 in
theorem rlen_any (h : RgO base w R vl SL room first n gone) : Calls Tryz.prog 161 #[.pointer (some ⟨R, 0, none⟩)] w fun e w' => e = .returned (.int .i64 n) ∧ w = w' := by
  have x3 := (at_ h.blk 3 _ rfl).1
  clear h
  go_enter Tryz.func161, Tryz.ntmps161
  go_wp2
  go_ret
  exact ⟨rfl, rfl⟩
end
set_option maxRecDepth 100000 in
theorem rnew_ok (room : Nat) (w : World) (hr : room ≤ 100000) : Calls Tryz.prog 110 #[.int .i64 room] w fun e w' => e = .returned (.tuple #[.pointer (some ⟨w.heap.size, 0, none⟩), .int .i64 0]) ∧ RgO w.heap.size w' w.heap.size (.slice none 0 0) [] room 0 0 0 ∧ Below w.heap.size w w' := by
  have hrI : ¬ (100000 : Int) < (room : Int) := by omega
  have hrI0 : ¬ (room : Int) < 0 := by omega
  go_enter Tryz.func110, Tryz.ntmps110
  go_wp2
  go_ret2
  exact ⟨rfl, ⟨hp_new rfl, World.ownsRow_nil _ _ _ _, Nat.le_refl _, hr, Nat.le_refl _, Nat.zero_le _, .inr ⟨rfl, rfl⟩, fun r hr => by cases hr⟩, below_allocs (Below.refl _ _) _⟩
set_option maxRecDepth 100000 in
theorem rnew_bad (room : Int) (w : World) (hr : room < 0 ∨ 100000 < room) : Calls Tryz.prog 110 #[.int .i64 room] w fun e w' => e = .returned (.tuple #[.pointer none, .int .i64 1]) ∧ w = w' := by
  by_cases h0 : room < 0
  · go_enter Tryz.func110, Tryz.ntmps110
    go_wp2
    go_ret2
    exact ⟨rfl, rfl⟩
  · have h1 : (100000 : Int) < room := by omega
    go_enter Tryz.func110, Tryz.ntmps110
    go_wp2
    go_ret2
    exact ⟨rfl, rfl⟩
/-- What a ring's method leaves. -/
def RgPost (base : Nat) (w : World) (R : Nat) (vl : Value) (room : Nat) (gone' : Int) (H' : List Ro) (w' : World) : Prop :=
  ∃ vl' SL' first' n', RgO base w' R vl' SL' room first' n' gone' ∧ (histL SL' first' n').map roOf = H' ∧ Mod (ringX R vl) w w' ∧ ∀ g, vl'.ownBlock = some g → vl.ownBlock = some g ∨ w.heap.size ≤ g
theorem RgO.reblk {base : Nat} {w w' : World} {R : Nat} {vl vl' : Value} {SL SL' : List Rh} {room first n first' n' : Nat} {gone gone' : Int} (h : RgO base w R vl SL room first n gone)
    (hb : w'.heap[R]? = some (.cells #[vl', .int .i64 room, .int .i64 first', .int .i64 n', .int .u64 gone'] 225 (0, 0))) (ho : w'.ownsRow base 52 2 vl' SL'.length (flat encRh SL')) (hn : n' ≤ SL'.length) (hm : SL'.length ≤ room)
    (hf : first' < SL'.length ∨ (first' = 0 ∧ SL'.length = 0)) (hr : ∀ r ∈ histL SL' first' n', RcAt w' r ∧ 0 < r.cs.length) : RgO base w' R vl' SL' room first' n' gone' := ⟨hb, ho, h.hb, h.hroom, hn, hm, hf, hr⟩
section
variable {base : Nat} {w : World} {R : Nat} {vl : Value} {SL : List Rh} {room first n : Nat} {gone : Int}
end
end Go.Proofs.YtaefcahblmopfaaGreatDoor
