/- A region that draws its order, some of whose operations make memory: the stable ones are taken first, in an order of one's own; the others are met as they come; a forced tail is walked behind. Conditions: none. -/
import Derived.Test.YtffdblmdelgkaaaGreatRegU
import Derived.Below
namespace Go
open Go.RowKit
section
variable {P : Program} {ops : Array Oper} {md : Region.Mode}

/-- A condition that holds on behind whatever leaves old memory as it was. -/
def Pers (S : World → Prop) : Prop := ∀ w w', S w → Below w.heap.size w w' → S w'
theorem Pers.and {S T : World → Prop} (h : Pers S) (k : Pers T) : Pers (fun w => S w ∧ T w) := fun w w' hS hb => ⟨h w w' hS.1 hb, k w w' hS.2 hb⟩

/-- From every world that meets S the operation yields a value of V, and leaves old memory as it was. -/
def upN (P : Program) (w : World) (n : Nat) (dst : Option Tmp) (V : Value → World → Prop) : Result Next → Prop
  | .ok (.value u) w' => ∃ v, samePut n dst u v ∧ V v w' ∧ Below w.heap.size w w'
  | .ok .skip w' => ∃ v, samePut n dst undef v ∧ V v w' ∧ Below w.heap.size w w'
  | .ok (.enter f args) w' => Calls P f args w' fun e w'' => match e with
      | .returned u => ∃ v, samePut n dst u v ∧ V v w'' ∧ Below w.heap.size w w''
      | _ => False
  | .ok (.row row args) w' => Rows P row args w' fun u w'' => ∃ v, samePut n dst u v ∧ V v w'' ∧ Below w.heap.size w w''
  | _ => False
def StabN (P : Program) (ops : Array Oper) (S : World → Prop) (o : Oper) (V : Value → World → Prop) (a : Act) : Prop :=
  (Region.wanted o (yielded ops a.tmps) = true ∧ ∀ w, S w → upN P w a.tmps.size o.dst V ((execOp a.eval o).run P w)) ∨
  (Region.wanted o (yielded ops a.tmps) = false ∧ ∀ w, S w → V undef w)
theorem upN.mono {w : World} {n : Nat} {dst : Option Tmp} {V V' : Value → World → Prop} (hv : ∀ v w', V v w' → Below w.heap.size w w' → V' v w') {r : Result Next} (h : upN P w n dst V r) : upN P w n dst V' r := by
  cases r with
  | ok x w' =>
    cases x <;> simp only [upN] at h ⊢
    case value u => obtain ⟨v, a, b, c⟩ := h; exact ⟨v, a, hv _ _ b c, c⟩
    case skip => obtain ⟨v, a, b, c⟩ := h; exact ⟨v, a, hv _ _ b c, c⟩
    case enter f args =>
      refine Calls.mono h fun e w'' he => ?_
      cases e with
      | returned u => obtain ⟨v, a, b, c⟩ := he; exact ⟨v, a, hv _ _ b c, c⟩
      | panicked c => exact he
      | outgrown => exact he
    case row row args => exact Rows.mono h fun u w'' he => let ⟨v, a, b, c⟩ := he; ⟨v, a, hv _ _ b c, c⟩
  | halt x w' => exact h
theorem StabN.of_same {S : World → Prop} {o : Oper} {V : Value → World → Prop} {a a' : Act} (hy : StabN P ops S o V a) (he : execOp a'.eval o = execOp a.eval o)
    (hw : Region.wanted o (yielded ops a'.tmps) = Region.wanted o (yielded ops a.tmps)) (hs : a'.tmps.size = a.tmps.size) : StabN P ops S o V a' := by
  unfold StabN at *
  rw [he, hw, hs]
  exact hy
theorem StabN.strengthen {S T : World → Prop} {o : Oper} {V : Value → World → Prop} {a : Act} (h : ∀ w, T w → S w) (hy : StabN P ops S o V a) : StabN P ops T o V a := by
  rcases hy with ⟨hw, hv⟩ | ⟨hw, hv⟩
  · exact .inl ⟨hw, fun w hT => hv w (h w hT)⟩
  · exact .inr ⟨hw, fun w hT => hv w (h w hT)⟩

theorem StabN.wpOp {S : World → Prop} {Q : Exit → Act → World → Prop} {i : Nat} {o : Oper} {V : Value → World → Prop} {a : Act} (hi : ops[i]? = some o) (hp : Pers S) (hy : StabN P ops S o V a)
    {K : Act → World → Prop} {w : World} (hS : S w) (h : ∀ v w', S w' → V v w' → K (a.put o.dst v) w') : wpOp P ops Q i K a w := by
  unfold Go.wpOp
  simp only [hi]
  rcases hy with ⟨hw, hv⟩ | ⟨hw, hv⟩
  · simp only [hw, if_true, Oper.wp]
    refine .inl ?_
    have hv := hv w hS
    generalize (execOp a.eval o).run P w = r at *
    cases r with
    | ok n w' =>
      cases n <;> simp only [upN, Oper.upon] at hv ⊢
      case value u => obtain ⟨v, h1, h2, h3⟩ := hv; rw [h1 a rfl]; exact h _ _ (hp _ _ hS h3) h2
      case skip => obtain ⟨v, h1, h2, h3⟩ := hv; rw [h1 a rfl]; exact h _ _ (hp _ _ hS h3) h2
      case enter f args =>
        refine Calls.mono hv fun e w'' he => ?_
        cases e with
        | returned u => obtain ⟨v, h1, h2, h3⟩ := he; simp only; rw [h1 a rfl]; exact h _ _ (hp _ _ hS h3) h2
        | panicked c => exact he.elim
        | outgrown => exact he.elim
      case row row args => exact Rows.mono hv fun u w'' he => (by obtain ⟨v, h1, h2, h3⟩ := he; rw [h1 a rfl]; exact h _ _ (hp _ _ hS h3) h2)
    | halt x w' => exact hv.elim
  · simp only [hw, Bool.false_eq_true, if_false]; exact h _ _ hS (hv w hS)

/-- What an operation may yield (A), and what holds of the world then (T). -/
def AT (A : Value → Prop) (T : Value → World → Prop) : Value → World → Prop := fun v w => A v ∧ T v w
def wpUN (P : Program) (md : Region.Mode) (ops : Array Oper) (n : Nat) (L : Array Bool → Act → (World → Prop) → Prop) : Nat → Array Bool → Act → (World → Prop) → Prop
  | 0, listed, a, S => L listed a S
  | f + 1, listed, a, S =>
    Region.ready md ops listed ≠ [] ∧ ∀ i ∈ Region.ready md ops listed, i < n ∧ ∃ o A T, ops[i]? = some o ∧ (∀ v, Pers (T v)) ∧ StabN P ops S o (AT A T) a ∧
      ∀ v, A v → wpUN P md ops n L f (listed.setIfInBounds i true) (a.put o.dst v) (fun w => S w ∧ T v w)
theorem wpAny_of_headN {n g : Nat} {L : Array Bool → Act → (World → Prop) → Prop} {Q' : Exit → Act → World → Prop} (hL : ∀ listed a S, L listed a S → ∀ w, S w → wpAny P md ops Q' g listed a w) :
    ∀ (f : Nat) (listed : Array Bool) (a : Act) (S : World → Prop), Pers S → wpUN P md ops n L f listed a S → ∀ w, S w → wpAny P md ops Q' (f + g) listed a w
  | 0, listed, a, S, _, h, w, hS => by rw [Nat.zero_add]; exact hL _ _ _ h w hS
  | f + 1, listed, a, S, hp, h, w, hS => by
    rw [show f + 1 + g = (f + g) + 1 by omega]
    refine ⟨fun h0 => absurd h0 h.1, fun i hi => ?_⟩
    obtain ⟨_, o, A, T, ho, hT, hy, hr⟩ := h.2 i hi
    exact hy.wpOp ho hp hS (fun v w' hS' hV' => wpAny_of_headN hL f _ _ _ (hp.and (hT v)) (hr v hV'.1) w' ⟨hS', hV'.2⟩)

/-- The leaf does not mind a stronger or an equal condition. -/
def LeafOk (L : Array Bool → Act → (World → Prop) → Prop) : Prop := ∀ listed a (S T : World → Prop), (∀ w, T w → S w) → L listed a S → L listed a T
theorem wpUN.weaken {n : Nat} {L : Array Bool → Act → (World → Prop) → Prop} (hLk : LeafOk L) : ∀ (f : Nat) (listed : Array Bool) (a : Act) (S T : World → Prop), (∀ w, T w → S w) → wpUN P md ops n L f listed a S → wpUN P md ops n L f listed a T
  | 0, listed, a, S, T, h, hh => hLk listed a S T h hh
  | f + 1, listed, a, S, T, h, hh => by
    refine ⟨hh.1, fun i hi => ?_⟩
    obtain ⟨hn, o, A, V, ho, hV, hy, hr⟩ := hh.2 i hi
    exact ⟨hn, o, A, V, ho, hV, hy.strengthen h, fun v hv => wpUN.weaken hLk f _ _ _ _ (fun w ⟨h1, h2⟩ => ⟨h w h1, h2⟩) (hr v hv)⟩

/-- A stable operation: one value. -/
def Any : Value → World → Prop := fun _ _ => True
theorem Any.pers (u : Value) : Pers (Any u) := fun _ _ _ _ => trivial
theorem wpUN_first {n i : Nat} {oi : Oper} {v : Value} {L : Array Bool → Act → (World → Prop) → Prop} (hLk : LeafOk L) (hi : ops[i]? = some oi) (hsel : ∀ (j : Nat) (o : Oper) cs b, ops[j]? = some o → o.op ≠ .select cs b)
    (hs : Region.sinkB md ops n = true) (hc : Region.chainB md ops n = true) (hn : n < ops.size) (hin : i < n)
    (hdone : ∀ listed a S, L listed a S → ∀ j ∈ Region.ready md ops listed, n ≤ j) :
    ∀ (f : Nat) (listed : Array Bool) (a : Act) (S : World → Prop), HeadInv md ops n listed →
      (∀ j oj, ops[j]? = some oj → j ≠ i → listed.getD j true = false → (∀ e ∈ oj.after, Region.binds md e = true → e.on ≠ i) → oi.apart ops oj = true) →
      i ∈ Region.ready md ops listed → StabN P ops S oi (AT (· = v) Any) a →
      wpUN P md ops n L f (listed.setIfInBounds i true) (a.put oi.dst v) S → wpUN P md ops n L (f + 1) listed a S := by
  intro f
  induction f with
  | zero =>
    intro listed a S inv _ hr hy H
    have hun := (mem_ready.1 hr).1
    refine ⟨fun h => (by rw [h] at hr; cases hr), fun j hj => ?_⟩
    have hjn : j < n := by
      rcases Nat.lt_or_ge j n with h | h
      · exact h
      · exact absurd hj (tail_waits hs hc hn inv _ i rfl hin hun j h)
    refine ⟨hjn, ?_⟩
    by_cases hji : j = i
    · subst hji
      exact ⟨oi, _, _, hi, Any.pers, hy, fun u hu => by subst hu; exact hLk _ _ S _ (fun w h => h.1) H⟩
    · have := hdone _ _ _ H j (ready_mono hj hji)
      omega
  | succ f ih =>
    intro listed a S inv hfree hr hy H
    have hun := (mem_ready.1 hr).1
    refine ⟨fun h => (by rw [h] at hr; cases hr), fun j hj => ?_⟩
    have hjn : j < n := by
      rcases Nat.lt_or_ge j n with h | h
      · exact h
      · exact absurd hj (tail_waits hs hc hn inv _ i rfl hin hun j h)
    refine ⟨hjn, ?_⟩
    by_cases hji : j = i
    · subst hji
      exact ⟨oi, _, _, hi, Any.pers, hy, fun u hu => by subst hu; exact wpUN.weaken hLk _ _ _ S _ (fun w h => h.1) H⟩
    · obtain ⟨_, oj', A, T, hoj', hT, hyj, Hj⟩ := H.2 j (ready_mono hj hji)
      obtain ⟨hjun, oj, hoj, hall⟩ := mem_ready.1 hj
      obtain rfl : oj' = oj := Option.some.inj (hoj'.symm.trans hoj)
      have hnot : ∀ e ∈ oj'.after, Region.binds md e = true → e.on ≠ i := fun e he hb heq => by
        have h1 := hall e he hb
        rw [heq, getD_both hun] at h1
        cases h1
      obtain ⟨h1, h2, h3⟩ := Oper.apart_spec (hfree j oj' hoj hji hjun hnot)
      have hsi := fun cs b => hsel i oi cs b hi
      have hsj := fun cs b => hsel j oj' cs b hoj
      have hyj' : StabN P ops S oj' (AT A T) a := hyj.of_same (execOp_put oj' hsj a oi.dst v h1).symm (wanted_put oj' a oi.dst v h1).symm (Act.put_size _ _ _).symm
      have hfree' : ∀ k ok, ops[k]? = some ok → k ≠ i → (listed.setIfInBounds j true).getD k true = false →
          (∀ e ∈ ok.after, Region.binds md e = true → e.on ≠ i) → oi.apart ops ok = true := fun k ok hk hki hun hno => by
        refine hfree k ok hk hki ?_ hno
        by_cases hjk : j = k
        · subst hjk; exact hjun
        · rw [getD_set_ne true hjk] at hun; exact hun
      refine ⟨oj', A, T, hoj, hT, hyj', fun u hu => ?_⟩
      have hyi' : StabN P ops (fun w => S w ∧ T u w) oi (AT (· = v) Any) (a.put oj'.dst u) := (hy.of_same (execOp_put oi hsi a oj'.dst u h3) (wanted_put oi a oj'.dst u h3) (Act.put_size _ _ _)).strengthen (fun w h => h.1)
      refine ih (listed.setIfInBounds j true) _ _ (inv.set hj hjn) hfree' (ready_mono hr (Ne.symm hji)) hyi' ?_
      rw [Array.setIfInBounds_comm _ _ hji, ← Act.put_comm a v u h2]
      exact Hj u hu

/-- The leaf: the forced tail, from every world that meets the condition. -/
def tailN (P : Program) (ops : Array Oper) (Q : Exit → Act → World → Prop) (n : Nat) : Array Bool → Act → (World → Prop) → Prop := fun listed a S =>
  Region.seqB .any ops (ops.size - n) n listed = true ∧ ∀ w, S w → wpList P ops Q (ops.toList.drop n) a w
theorem tailN_ok {Q : Exit → Act → World → Prop} {n : Nat} : LeafOk (tailN P ops Q n) := fun _ _ _ _ h hh => ⟨hh.1, fun w hw => hh.2 w (h w hw)⟩
/-- A walk of the head: what is listed, the frame, the condition. -/
structure AtN (P : Program) (ops : Array Oper) (Q : Exit → Act → World → Prop) (n : Nat) (f : Nat) (listed : Array Bool) (a : Act) (S : World → Prop) : Prop where
  h : HeadInv .any ops n listed → wpUN P .any ops n (tailN P ops Q n) f listed a S
variable {Q : Exit → Act → World → Prop} {S : World → Prop} {a : Act} {listed : Array Bool} {n f : Nat}
def Region.tailB (ops : Array Oper) (n : Nat) : Bool := Region.noSelect ops && decide (n < ops.size) && Region.sinkB .any ops n && Region.chainB .any ops n
/-- Take number i, a stable operation, first. -/
theorem AtN.take (i : Nat) {o : Oper} {v : Value} (hB : Region.tailB ops n = true) (hi : ops[i]? = some o) (hin : (i < n) = True) (hf : Region.free .any ops listed i = true) (hr : (Region.ready .any ops listed).contains i = true)
    (hy : StabN P ops S o (AT (· = v) Any) a) (h : AtN P ops Q n f (listed.setIfInBounds i true) (a.put o.dst v) S) : AtN P ops Q n (f + 1) listed a S := ⟨fun inv => by
  simp only [Region.tailB, Bool.and_eq_true, decide_eq_true_eq] at hB
  obtain ⟨⟨⟨hsel, hn⟩, hs⟩, hc⟩ := hB
  have hr' : i ∈ Region.ready .any ops listed := by simpa using hr
  have hin' : i < n := by rw [hin]; trivial
  exact wpUN_first tailN_ok hi (Region.noSelect_spec hsel) hs hc hn hin' (fun listed a S hL => seqB_ready hL.1) f listed a S inv (Region.free_spec hi hf) hr' hy (h.h (inv.set hr' hin'))⟩
/-- One alone may come up. -/
theorem AtN.one (i : Nat) {o : Oper} (A : Value → Prop) (T : Value → World → Prop) (hin : (i < n) = True) (hr : Region.ready .any ops listed = [i]) (hi : ops[i]? = some o) (hT : ∀ v, Pers (T v))
    (hy : StabN P ops S o (AT A T) a) (h : ∀ v, A v → AtN P ops Q n f (listed.setIfInBounds i true) (a.put o.dst v) (fun w => S w ∧ T v w)) : AtN P ops Q n (f + 1) listed a S := ⟨fun inv => by
  have hin' : i < n := by rw [hin]; trivial
  refine ⟨by rw [hr]; simp, fun j hj => ?_⟩
  have hj' := hj
  rw [hr] at hj
  obtain rfl : j = i := by simpa using hj
  exact ⟨hin', o, A, T, hi, hT, hy, fun v hv => (h v hv).h (inv.set hj' hin')⟩⟩
/-- Two may come up. -/
theorem AtN.two (i j : Nat) {o o' : Oper} (A A' : Value → Prop) (T T' : Value → World → Prop) (hin : (i < n) = True) (hjn : (j < n) = True) (hr : Region.ready .any ops listed = [i, j]) (hi : ops[i]? = some o) (hj : ops[j]? = some o')
    (hT : ∀ v, Pers (T v)) (hT' : ∀ v, Pers (T' v)) (hy : StabN P ops S o (AT A T) a) (hy' : StabN P ops S o' (AT A' T') a)
    (h : ∀ v, A v → AtN P ops Q n f (listed.setIfInBounds i true) (a.put o.dst v) (fun w => S w ∧ T v w))
    (h' : ∀ v, A' v → AtN P ops Q n f (listed.setIfInBounds j true) (a.put o'.dst v) (fun w => S w ∧ T' v w)) : AtN P ops Q n (f + 1) listed a S := ⟨fun inv => by
  have hin' : i < n := by rw [hin]; trivial
  have hjn' : j < n := by rw [hjn]; trivial
  refine ⟨by rw [hr]; simp, fun k hk => ?_⟩
  have hk' := hk
  rw [hr] at hk
  have hk2 : k = i ∨ k = j := by simpa using hk
  rcases hk2 with rfl | rfl
  · exact ⟨hin', o, A, T, hi, hT, hy, fun v hv => (h v hv).h (inv.set hk' hin')⟩
  · exact ⟨hjn', o', A', T', hj, hT', hy', fun v hv => (h' v hv).h (inv.set hk' hjn')⟩⟩
theorem AtN.done (hB : Region.seqB .any ops (ops.size - n) n listed = true) (h : ∀ w, S w → wpList P ops Q (ops.toList.drop n) a w) : AtN P ops Q n 0 listed a S := ⟨fun _ => ⟨hB, h⟩⟩
theorem wp_region_n {id : Nat} {w : World} (n : Nat) (S : World → Prop) (hm : P.follows .mixedOrders = true) (hB : Region.tailB ops n = true) (hp : Pers S) (hS : S w.drew)
    (h : AtN P ops Q n n (Array.replicate ops.size false) a S) : (Code.region id ops true).wp P Q a w := by
  simp only [Region.tailB, Bool.and_eq_true, decide_eq_true_eq] at hB
  obtain ⟨⟨⟨hsel, hn⟩, hs⟩, hc⟩ := hB
  have inv0 : HeadInv .any ops n (Array.replicate ops.size false) :=
    ⟨by simp, fun j oj _ hl => (by rw [getD_replicate_false] at hl; cases hl), fun t _ ht => getD_in (by simpa using ht) (getD_replicate_false _ _)⟩
  refine wp_region_any hm ?_
  have := wpAny_of_headN (Q' := Q) (g := ops.size - n) (fun listed a' S hL w' hS' => by
    have := wpAny_of_seq (md := .any) (Q' := Q) (ops.toList.drop n) n listed a' w' (fun j => by simp [List.getElem?_drop]) (by simpa using hL.1) (hL.2 w' hS')
    simpa using this) _ _ _ _ hp (h.h inv0) w.drew hS
  rw [show n + (ops.size - n) = ops.size by omega] at this
  exact this
/-- An operation that yields its value and leaves the world. -/
theorem StabN.val {o : Oper} {v : Value} (hw : Region.wanted o (yielded ops a.tmps) = true) (h : ∀ w, S w → (execOp a.eval o).run P w = .ok (.value v) w) : StabN P ops S o (AT (· = v) Any) a :=
  .inl ⟨hw, fun w hS => by rw [h w hS]; exact ⟨v, samePut.rfl', ⟨rfl, trivial⟩, Below.refl _ _⟩⟩
theorem StabN.skip {o : Oper} (hw : Region.wanted o (yielded ops a.tmps) = false) : StabN P ops S o (AT (· = undef) Any) a :=
  .inr ⟨hw, fun _ _ => ⟨rfl, trivial⟩⟩
theorem StabN.call {o : Oper} (f : FuncId) (args : Array Value) (A : Value → Prop) (T : Value → World → Prop) (hw : Region.wanted o (yielded ops a.tmps) = true) (h : ∀ w, (execOp a.eval o).run P w = .ok (.enter f args) w)
    (hc : ∀ w, S w → Calls P f args w fun e w' => ∃ v, e = .returned v ∧ (A v ∧ T v w') ∧ Below w.heap.size w w') : StabN P ops S o (AT A T) a :=
  .inl ⟨hw, fun w hS => by
    rw [h w]
    refine (hc w hS).mono fun e w' ⟨v, he, hv, hb⟩ => ?_
    rw [he]
    exact ⟨v, samePut.rfl', hv, hb⟩⟩
theorem StabN.call1 {o : Oper} (f : FuncId) (args : Array Value) (v : Value) (hw : Region.wanted o (yielded ops a.tmps) = true) (h : ∀ w, (execOp a.eval o).run P w = .ok (.enter f args) w)
    (hc : ∀ w, S w → Calls P f args w fun e w' => e = .returned v ∧ Below w.heap.size w w') : StabN P ops S o (AT (· = v) Any) a :=
  StabN.call f args _ _ hw h (fun _ hS => (hc _ hS).mono fun _ _ ⟨he, hb⟩ => ⟨v, he, ⟨rfl, trivial⟩, hb⟩)
/-- An operation that makes a block. -/
theorem StabN.new {o : Oper} (A : Value → Prop) (T : Value → World → Prop) (hw : Region.wanted o (yielded ops a.tmps) = true)
    (h : ∀ w, S w → ∃ v w', (execOp a.eval o).run P w = .ok (.value v) w' ∧ A v ∧ T v w' ∧ Below w.heap.size w w') : StabN P ops S o (AT A T) a :=
  .inl ⟨hw, fun w hS => by
    obtain ⟨v, w', hr, hA, hT, hb⟩ := h w hS
    rw [hr]; exact ⟨v, samePut.rfl', ⟨hA, hT⟩, hb⟩⟩
/-- A pointer to a block that is known whole. -/
def NewP (t : TypeId) (cs : Array Value) : Value → World → Prop := fun v w => ∃ g, v = .pointer (some ⟨g, 0, none⟩) ∧ w.heap[g]? = some (.cells cs t (0, 0))
theorem lt_of_heap {w : World} {g : Nat} {o : Obj} (h : w.heap[g]? = some o) : g < w.heap.size := by
  rcases Nat.lt_or_ge g w.heap.size with hlt | hge
  · exact hlt
  · rw [Array.getElem?_eq_none hge] at h; cases h
theorem NewP.pers (t : TypeId) (cs : Array Value) (v : Value) : Pers (NewP t cs v) := fun _ _ ⟨g, hv, hh⟩ hb => ⟨g, hv, (hb.block g (lt_of_heap hh)).trans hh⟩
theorem NewP.at_ {t : TypeId} {cs : Array Value} {g : Nat} {w : World} (h : NewP t cs (.pointer (some ⟨g, 0, none⟩)) w) : w.heap[g]? = some (.cells cs t (0, 0)) := by
  obtain ⟨g', e, hh⟩ := h
  injection e with e
  injection e with e
  injection e with e1 _ _
  rw [e1]; exact hh
/-- A new variable. -/
theorem StabN.alloc {o : Oper} (base : Nat) (t : TypeId) (cs : Array Value) (avoid : List Nat) (hw : Region.wanted o (yielded ops a.tmps) = true)
    (h : ∀ w, S w → (execOp a.eval o).run P w = .ok (.value (.pointer (some ⟨w.heap.size, 0, none⟩))) (w.alloc (.cells cs t))) (hb : ∀ w, S w → base ≤ w.heap.size) (hav : ∀ w, S w → ∀ x ∈ avoid, x < w.heap.size) :
    StabN P ops S o (AT (fun v => ∃ g, v = .pointer (some ⟨g, 0, none⟩) ∧ base ≤ g ∧ ∀ x ∈ avoid, g ≠ x) (NewP t cs)) a :=
  StabN.new _ _ hw fun w hS => ⟨_, _, h w hS, ⟨_, rfl, hb w hS, fun x hx => Nat.ne_of_gt (hav w hS x hx)⟩, ⟨_, rfl, by
    show (w.heap.push _)[w.heap.size]? = _
    simp⟩, (Below.refl _ _).alloc (Nat.le_refl _) _⟩
end
end Go
