/- A region that draws its order, all of whose operations but a forced tail are stable: from every world that meets S each yields the same value, and S holds behind it. Such a region is walked once, in the order of the text. Conditions: none. -/
import Derived.StillTail
import Derived.OwnWalk
namespace Go
section
variable {P : Program} {ops : Array Oper} {md : Region.Mode} {S : World → Prop}

def samePut (n : Nat) (dst : Option Tmp) (u v : Value) : Prop := ∀ a : Act, a.tmps.size = n → a.put dst u = a.put dst v
theorem samePut.rfl' {n : Nat} {dst : Option Tmp} {v : Value} : samePut n dst v v := fun _ _ => rfl
theorem samePut_of {a : Act} {dst : Option Tmp} {u v : Value} (h : a.put dst u = a.put dst v) : samePut a.tmps.size dst u v := by
  cases dst with
  | none => exact fun _ _ => rfl
  | some d =>
    intro b hb
    simp only [Act.put, Act.mk.injEq, and_true] at h ⊢
    by_cases hlt : d < a.tmps.size
    · have := congrArg (fun x : Array Value => x[d]?) h
      simp [hlt] at this
      rw [this]
    · simp [Array.setIfInBounds, hb, hlt]

def upU (P : Program) (S : World → Prop) (n : Nat) (dst : Option Tmp) (v : Value) : Result Next → Prop
  | .ok (.value u) w' => samePut n dst u v ∧ S w'
  | .ok .skip w' => samePut n dst undef v ∧ S w'
  | .ok (.enter f args) w' => Calls P f args w' fun e w'' => match e with
      | .returned u => samePut n dst u v ∧ S w''
      | _ => False
  | .ok (.row row args) w' => Rows P row args w' fun u w'' => samePut n dst u v ∧ S w''
  | _ => False

/-- In state 'a', from every world that meets S, operation 'o' yields 'v' (up to its slot), and S holds behind it. -/
def StabU (P : Program) (ops : Array Oper) (S : World → Prop) (o : Oper) (v : Value) (a : Act) : Prop :=
  (Region.wanted o (yielded ops a.tmps) = true ∧ ∀ w, S w → upU P S a.tmps.size o.dst v ((execOp a.eval o).run P w)) ∨
  (Region.wanted o (yielded ops a.tmps) = false ∧ v = undef)

theorem StabU.of_same {o : Oper} {v : Value} {a a' : Act} (hy : StabU P ops S o v a) (he : execOp a'.eval o = execOp a.eval o)
    (hw : Region.wanted o (yielded ops a'.tmps) = Region.wanted o (yielded ops a.tmps)) (hs : a'.tmps.size = a.tmps.size) : StabU P ops S o v a' := by
  unfold StabU at *
  rw [he, hw, hs]
  exact hy
theorem Act.put_size (a : Act) (dst : Option Tmp) (v : Value) : (a.put dst v).tmps.size = a.tmps.size := by
  cases dst <;> simp [Act.put]
theorem StabU.wpOp {Q : Exit → Act → World → Prop} {i : Nat} {o : Oper} {v : Value} {a : Act} (hi : ops[i]? = some o) (hy : StabU P ops S o v a)
    {K : Act → World → Prop} {w : World} (hS : S w) (h : ∀ w', S w' → K (a.put o.dst v) w') : wpOp P ops Q i K a w := by
  unfold Go.wpOp
  simp only [hi]
  rcases hy with ⟨hw, hv⟩ | ⟨hw, rfl⟩
  · simp only [hw, if_true, Oper.wp]
    refine .inl ?_
    have hv := hv w hS
    generalize (execOp a.eval o).run P w = r at *
    cases r with
    | ok n w' =>
      cases n <;> simp only [upU, Oper.upon] at hv ⊢
      case value u => rw [hv.1 a rfl]; exact h _ hv.2
      case skip => rw [hv.1 a rfl]; exact h _ hv.2
      case enter f args =>
        refine Calls.mono hv fun e w'' he => ?_
        cases e with
        | returned u => simp only at he ⊢; rw [he.1 a rfl]; exact h _ he.2
        | panicked c => exact he.elim
        | outgrown => exact he.elim
      case row row args => exact Rows.mono hv fun u w'' he => (by rw [he.1 a rfl]; exact h _ he.2)
    | halt x w' => exact hv.elim
  · simp only [hw, Bool.false_eq_true, if_false]; exact h _ hS

/-- Whatever order is picked, each operation of the head (numbers below n) is stable; 'L' behind it. No world. -/
def wpUL (P : Program) (md : Region.Mode) (ops : Array Oper) (S : World → Prop) (n : Nat) (L : Array Bool → Act → Prop) : Nat → Array Bool → Act → Prop
  | 0, listed, a => L listed a
  | f + 1, listed, a =>
    Region.ready md ops listed ≠ [] ∧ ∀ i ∈ Region.ready md ops listed, i < n ∧ ∃ o v, ops[i]? = some o ∧ StabU P ops S o v a ∧ wpUL P md ops S n L f (listed.setIfInBounds i true) (a.put o.dst v)
theorem wpAny_of_headU {n g : Nat} {L : Array Bool → Act → Prop} {Q' : Exit → Act → World → Prop} (hL : ∀ listed a, L listed a → ∀ w, S w → wpAny P md ops Q' g listed a w) :
    ∀ (f : Nat) (listed : Array Bool) (a : Act), wpUL P md ops S n L f listed a → ∀ w, S w → wpAny P md ops Q' (f + g) listed a w
  | 0, listed, a, h, w, hS => by rw [Nat.zero_add]; exact hL _ _ h w hS
  | f + 1, listed, a, h, w, hS => by
    rw [show f + 1 + g = (f + g) + 1 by omega]
    refine ⟨fun h0 => absurd h0 h.1, fun i hi => ?_⟩
    obtain ⟨_, o, v, ho, hy, hr⟩ := h.2 i hi
    exact hy.wpOp ho hS (fun w' hS' => wpAny_of_headU hL f _ _ hr w' hS')

theorem wpUL_first {n i : Nat} {oi : Oper} {v : Value} {L : Array Bool → Act → Prop} (hi : ops[i]? = some oi) (hsel : ∀ (j : Nat) (o : Oper) cs b, ops[j]? = some o → o.op ≠ .select cs b)
    (hs : Region.sinkB md ops n = true) (hc : Region.chainB md ops n = true) (hn : n < ops.size) (hin : i < n)
    (hdone : ∀ listed a, L listed a → ∀ j ∈ Region.ready md ops listed, n ≤ j) :
    ∀ (f : Nat) (listed : Array Bool) (a : Act), HeadInv md ops n listed →
      (∀ j oj, ops[j]? = some oj → j ≠ i → listed.getD j true = false → (∀ e ∈ oj.after, Region.binds md e = true → e.on ≠ i) → oi.apart ops oj = true) →
      i ∈ Region.ready md ops listed → StabU P ops S oi v a →
      wpUL P md ops S n L f (listed.setIfInBounds i true) (a.put oi.dst v) → wpUL P md ops S n L (f + 1) listed a := by
  intro f
  induction f with
  | zero =>
    intro listed a inv _ hr hy H
    have hun := (mem_ready.1 hr).1
    refine ⟨fun h => (by rw [h] at hr; cases hr), fun j hj => ?_⟩
    have hjn : j < n := by
      rcases Nat.lt_or_ge j n with h | h
      · exact h
      · exact absurd hj (tail_waits hs hc hn inv _ i rfl hin hun j h)
    refine ⟨hjn, ?_⟩
    by_cases hji : j = i
    · subst hji; exact ⟨oi, v, hi, hy, H⟩
    · have := hdone _ _ H j (ready_mono hj hji)
      omega
  | succ f ih =>
    intro listed a inv hfree hr hy H
    have hun := (mem_ready.1 hr).1
    refine ⟨fun h => (by rw [h] at hr; cases hr), fun j hj => ?_⟩
    have hjn : j < n := by
      rcases Nat.lt_or_ge j n with h | h
      · exact h
      · exact absurd hj (tail_waits hs hc hn inv _ i rfl hin hun j h)
    refine ⟨hjn, ?_⟩
    by_cases hji : j = i
    · subst hji; exact ⟨oi, v, hi, hy, H⟩
    · obtain ⟨_, oj', u, hoj', hyj, Hj⟩ := H.2 j (ready_mono hj hji)
      obtain ⟨hjun, oj, hoj, hall⟩ := mem_ready.1 hj
      obtain rfl : oj' = oj := Option.some.inj (hoj'.symm.trans hoj)
      have hnot : ∀ e ∈ oj'.after, Region.binds md e = true → e.on ≠ i := fun e he hb heq => by
        have h1 := hall e he hb
        rw [heq, getD_both hun] at h1
        cases h1
      obtain ⟨h1, h2, h3⟩ := Oper.apart_spec (hfree j oj' hoj hji hjun hnot)
      have hsi := fun cs b => hsel i oi cs b hi
      have hsj := fun cs b => hsel j oj' cs b hoj
      have hyj' : StabU P ops S oj' u a := hyj.of_same (execOp_put oj' hsj a oi.dst v h1).symm (wanted_put oj' a oi.dst v h1).symm (Act.put_size _ _ _).symm
      have hyi' : StabU P ops S oi v (a.put oj'.dst u) := hy.of_same (execOp_put oi hsi a oj'.dst u h3) (wanted_put oi a oj'.dst u h3) (Act.put_size _ _ _)
      have hfree' : ∀ k ok, ops[k]? = some ok → k ≠ i → (listed.setIfInBounds j true).getD k true = false →
          (∀ e ∈ ok.after, Region.binds md e = true → e.on ≠ i) → oi.apart ops ok = true := fun k ok hk hki hun hno => by
        refine hfree k ok hk hki ?_ hno
        by_cases hjk : j = k
        · subst hjk; exact hjun
        · rw [getD_set_ne true hjk] at hun; exact hun
      refine ⟨oj', u, hoj, hyj', ih (listed.setIfInBounds j true) _ (inv.set hj hjn) hfree' (ready_mono hr (Ne.symm hji)) hyi' ?_⟩
      rw [Array.setIfInBounds_comm _ _ hji, ← Act.put_comm a v u h2]
      exact Hj

/-- The walk in the order of the text. -/
def seqU (P : Program) (ops : Array Oper) (S : World → Prop) (Lq : Act → Prop) : List Oper → Act → Prop
  | [], a => Lq a
  | o :: l, a => ∃ v, StabU P ops S o v a ∧ seqU P ops S Lq l (a.put o.dst v)

theorem wpUL_lex {n g : Nat} {Lq : Act → Prop} (hsel : Region.noSelect ops = true) (hs : Region.sinkB md ops n = true) (hc : Region.chainB md ops n = true) (hn : n < ops.size) :
    ∀ (l : List Oper) (k : Nat) (listed : Array Bool) (a : Act), (∀ j, j < l.length → l[j]? = ops[k + j]?) → k + l.length = n → HeadInv md ops n listed →
    Region.lexHead md ops g l.length k listed = true → seqU P ops S Lq l a →
    wpUL P md ops S n (fun listed' a' => Region.seqB md ops g n listed' = true ∧ Lq a') l.length listed a
  | [], k, listed, a, _, hk, _, hB, h => by
    have : k = n := by simpa using hk
    subst this
    exact ⟨by simpa [Region.lexHead] using hB, h⟩
  | o :: l, k, listed, a, hl, hk, inv, hB, h => by
    have h0 : ops[k]? = some o := by simpa using (hl 0 (by simp)).symm
    simp only [List.length_cons, Region.lexHead, Bool.and_eq_true] at hB
    obtain ⟨⟨hr, hf⟩, hB'⟩ := hB
    have hkn : k < n := by simp only [List.length_cons] at hk; omega
    have hr' : k ∈ Region.ready md ops listed := by simpa using hr
    obtain ⟨v, hy, hK⟩ := h
    exact wpUL_first h0 (Region.noSelect_spec hsel) hs hc hn hkn (fun listed' a' hL => seqB_ready hL.1) l.length listed a inv (Region.free_spec h0 hf) hr' hy
      (wpUL_lex hsel hs hc hn l (k + 1) _ _ (fun j hj => by have := hl (j + 1) (by simp; omega); simpa [Nat.add_assoc, Nat.add_comm 1 j] using this) (by simp only [List.length_cons] at hk; omega) (inv.set hr' hkn) hB' hK)

theorem wp_region_u {id : Nat} {Q : Exit → Act → World → Prop} {a : Act} {w : World} {l : List Oper} (n : Nat) (S : World → Prop) (hm : P.follows .mixedOrders = true) (hB : Region.lexTailB .any l.toArray n = true)
    (hS : S w.drew) (h : seqU P l.toArray S (fun a' => ∀ w', S w' → wpList P l.toArray Q (l.drop n) a' w') (l.take n) a) : (Code.region id l.toArray true).wp P Q a w := by
  simp only [Region.lexTailB, Bool.and_eq_true, decide_eq_true_eq] at hB
  obtain ⟨⟨⟨⟨hsel, hn⟩, hs⟩, hc⟩, hlex⟩ := hB
  have htl : (l.take n).length = n := by
    have hn' : n < l.length := by simpa using hn
    simp; omega
  have hdl : (l.drop n).length = l.toArray.size - n := by simp
  have inv0 : HeadInv .any l.toArray n (Array.replicate l.toArray.size false) :=
    ⟨by simp, fun j oj _ hl => (by rw [getD_replicate_false] at hl; cases hl), fun t _ ht => getD_in (by simpa using ht) (getD_replicate_false _ _)⟩
  have H := wpUL_lex (md := .any) (g := l.toArray.size - n) hsel hs hc hn (l.take n) 0 _ a (fun j hj => by
    have hj' : j < n := by rw [htl] at hj; exact hj
    simp [hj']) (by simpa using htl) inv0 (by rw [htl]; exact hlex) h
  refine wp_region_any hm ?_
  have := wpAny_of_headU (Q' := Q) (g := l.toArray.size - n) (fun listed a' hL w' hS' => by
    have := wpAny_of_seq (md := .any) (Q' := Q) (l.drop n) n listed a' w' (fun j => by simp [List.getElem?_drop]) (by rw [hdl]; exact hL.1) (hL.2 w' hS')
    rwa [hdl] at this) _ _ _ H w.drew hS
  rw [htl, show n + (l.toArray.size - n) = l.toArray.size by simp at hn; simp; omega] at this
  exact this

variable {Lq : Act → Prop}
theorem seqU_nil {a : Act} (h : Lq a) : seqU P ops S Lq [] a := h
/-- One operation, by the walk: at every world that meets S, whatever comes behind. -/
theorem seqU_cons {o : Oper} {l : List Oper} {a : Act} (v : Value)
    (h : ∀ w, S w → ∀ K : Act → World → Prop, (∀ a' w', a' = a.put o.dst v → S w' → K a' w') →
      if Region.wanted o (yielded ops a.tmps) = true then o.wp P a w K (fun _ _ _ => False) else K (a.put o.dst undef) w)
    (hw : Region.wanted o (yielded ops a.tmps) = true) (hr : seqU P ops S Lq l (a.put o.dst v)) : seqU P ops S Lq (o :: l) a := by
  refine ⟨v, .inl ⟨hw, fun w hS => ?_⟩, hr⟩
  have h1 := h w hS (fun a' w' => a' = a.put o.dst v ∧ S w') (fun a' w' h1 h2 => ⟨h1, h2⟩)
  rw [if_pos hw] at h1
  unfold Oper.wp at h1
  generalize (execOp a.eval o).run P w = r at *
  cases r with
  | ok n w' =>
    cases n <;> simp only [upU, Oper.upon] at h1 ⊢
    case value u => exact ⟨samePut_of h1.1, h1.2⟩
    case skip => exact ⟨samePut_of h1.1, h1.2⟩
    case enter f args =>
      refine Calls.mono h1 fun e w'' he => ?_
      cases e with
      | returned u => exact ⟨samePut_of he.1, he.2⟩
      | panicked c => exact he
      | outgrown => obtain ⟨_, _, hx⟩ := he; exact hx
    case row row args => exact Rows.mono h1 fun u w'' he => ⟨samePut_of he.1, he.2⟩
    case defer d =>
      exfalso
      have := congrArg Act.defers h1.1
      cases hd : o.dst <;> simp [Act.put, hd] at this
  | halt x w' => cases x <;> exact (h1 : False).elim
theorem seqU_skip {o : Oper} {l : List Oper} {a : Act} (hw : Region.wanted o (yielded ops a.tmps) = false) (hr : seqU P ops S Lq l (a.put o.dst undef)) : seqU P ops S Lq (o :: l) a :=
  ⟨undef, .inr ⟨hw, rfl⟩, hr⟩
/-- An operation that yields its value and leaves the world. -/
theorem seqU_val {o : Oper} {l : List Oper} {a : Act} (v : Value) (hw : Region.wanted o (yielded ops a.tmps) = true) (h : ∀ w, S w → (execOp a.eval o).run P w = .ok (.value v) w)
    (hr : seqU P ops S Lq l (a.put o.dst v)) : seqU P ops S Lq (o :: l) a :=
  ⟨v, .inl ⟨hw, fun w hS => by rw [h w hS]; exact ⟨samePut.rfl', hS⟩⟩, hr⟩
/-- A call. -/
theorem seqU_call {o : Oper} {l : List Oper} {a : Act} (f : FuncId) (args : Array Value) (v : Value) (hw : Region.wanted o (yielded ops a.tmps) = true) (h : ∀ w, (execOp a.eval o).run P w = .ok (.enter f args) w)
    (hc : ∀ w, S w → Calls P f args w fun e w' => e = .returned v ∧ S w')
    (hr : seqU P ops S Lq l (a.put o.dst v)) : seqU P ops S Lq (o :: l) a :=
  ⟨v, .inl ⟨hw, fun w hS => by
    rw [h w]
    refine (hc w hS).mono fun e w' he => ?_
    rw [he.1]
    exact ⟨samePut.rfl', he.2⟩⟩, hr⟩
end
end Go
