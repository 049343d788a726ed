/- Memory that is as it was, but for some blocks. Conditions: none. -/
import Derived.Test.YtffdblmdelgkaaaGreatGr
namespace Go.Proofs.YtffdblmdelgkaaaGreat
open Go.RowKit

/-- w' is w but for the blocks of X, and new ones. -/
structure Mod (X : List Nat) (w w' : World) : Prop where
  os : w'.os = w.os
  tape : w'.tape = w.tape
  output : w'.output = w.output
  size : w.heap.size ≤ w'.heap.size
  block : ∀ k, k < w.heap.size → k ∉ X → w'.heap[k]? = w.heap[k]?
theorem Mod.refl (X : List Nat) (w : World) : Mod X w w := ⟨rfl, rfl, rfl, Nat.le_refl _, fun _ _ _ => rfl⟩
/-- Two steps; the second one may write to what the first one made. -/
theorem Mod.trans {X Y : List Nat} {a b c : World} (h : Mod X a b) (k : Mod Y b c) (hY : ∀ g ∈ Y, g ∈ X ∨ a.heap.size ≤ g) : Mod X a c :=
  ⟨k.os.trans h.os, k.tape.trans h.tape, k.output.trans h.output, Nat.le_trans h.size k.size, fun i hi hx => (k.block i (Nat.lt_of_lt_of_le hi h.size) (fun hy => by
    rcases hY i hy with h1 | h1
    · exact hx h1
    · omega)).trans (h.block i hi hx)⟩
theorem Mod.of_below {X : List Nat} {w w' : World} (h : Below w.heap.size w w') : Mod X w w' := ⟨h.os, h.tape, h.output, h.size, fun k hk _ => h.block k hk⟩
theorem Mod.below {X : List Nat} {w w' : World} {B : Nat} (h : Mod X w w') (hX : ∀ g ∈ X, B ≤ g) (hB : B ≤ w.heap.size) : Below B w w' := ⟨h.os, h.tape, h.output, h.size, fun k hk => h.block k (by omega) (fun hx => by have := hX k hx; omega)⟩
theorem Mod.mono {X Y : List Nat} {w w' : World} (h : Mod X w w') (hXY : ∀ g ∈ X, g ∈ Y) : Mod Y w w' := ⟨h.os, h.tape, h.output, h.size, fun k hk hy => h.block k hk (fun hx => hy (hXY k hx))⟩
theorem Mod.then_below {X : List Nat} {a b c : World} (h : Mod X a b) (k : Below b.heap.size b c) : Mod X a c := h.trans (Mod.of_below (X := []) k) (fun g hg => by cases hg)
theorem Mod.of_grown {X : List Nat} {w w' : World} {row : Option Nat} (h : w.grownBy w' row) (hX : ∀ g, row = some g → g ∈ X) : Mod X w w' :=
  ⟨h.os, h.tape, h.output, h.size, fun k hk hx => h.block k hk (fun e => hx (hX k e.symm))⟩
theorem Mod.setCell {X : List Nat} {w w1 : World} (h : Mod X w w1) {a : Addr} (ha : a.block ∈ X ∨ w.heap.size ≤ a.block) (v : Value) : Mod X w (w1.setCell a v) :=
  ⟨h.os, h.tape, h.output, by simpa [World.setCell] using h.size, fun k hk hx => by
    rw [Below.heap_setCell _ _ _ _ (fun e => by subst e; rcases ha with h1 | h1; exact hx h1; omega)]
    exact h.block k hk hx⟩
theorem Mod.cell {X : List Nat} {w w1 : World} (h : Mod X w w1) {b o : Nat} {v : Value} (hb : b ∉ X) (hc : w.cell? ⟨b, o, none⟩ = some v) : w1.cell? ⟨b, o, none⟩ = some v :=
  (World.cell?_of_block (w := w) (h.block b (lt_of_cell hc) hb)).trans hc
theorem Mod.hold {X : List Nat} {w w1 : World} (h : Mod X w w1) {b o : Nat} {v : Value} (hb : b ∉ X) (hc : w.cell? ⟨b, o, none⟩ = some v ∧ w.frozen? ⟨b, o, none⟩ = false) : w1.cell? ⟨b, o, none⟩ = some v ∧ w1.frozen? ⟨b, o, none⟩ = false :=
  ⟨h.cell hb hc.1, (World.frozen?_of_block (w := w) (h.block b (lt_of_cell hc.1) hb)).trans hc.2⟩
theorem owns_mod {X : List Nat} {w w' : World} {base : Nat} {e : TypeId} {size : Nat} {v : Value} {n : Nat} {xs : List Value} (h : w.ownsRow base e size v n xs) (hm : Mod X w w') (hX : ∀ g, v.ownBlock = some g → g ∉ X) : w'.ownsRow base e size v n xs := by
  obtain ⟨h1, h2 | ⟨g, cap, cur, rfl, e2, e3, e4⟩⟩ := h
  · exact ⟨h1, .inl h2⟩
  · refine ⟨h1, .inr ⟨g, cap, cur, rfl, e2, ?_, e4⟩⟩
    rw [hm.block g ?_ (hX g rfl)]; exact e3
    rcases Nat.lt_or_ge g w.heap.size with h | h
    · exact h
    · rw [Array.getElem?_eq_none h] at e3; cases e3
theorem owns_bl {w w' : World} {base : Nat} {e : TypeId} {size : Nat} {v : Value} {n : Nat} {xs : List Value} (h : w.ownsRow base e size v n xs) (hb : Below w.heap.size w w') : w'.ownsRow base e size v n xs :=
  owns_mod h (Mod.of_below (X := []) hb) (fun _ _ h => by cases h)
theorem gr_mod {α : Type} {enc : α → List Value} {k : Nat} {X : List Nat} {w w1 : World} {b off : Nat} {l : List α} (h : GrAt enc k w (some ⟨b, off, none⟩) l) (hm : Mod X w w1) (hX : b ∉ X) : GrAt enc k w1 (some ⟨b, off, none⟩) l := fun hl => by
  obtain ⟨b', off', e, hc⟩ := h hl
  simp only [Option.some.injEq, Addr.mk.injEq] at e
  obtain ⟨rfl, rfl, -⟩ := e
  exact ⟨b, off, rfl, fun i x hx j v hv => hm.cell hX (hc i x hx j v hv)⟩
theorem owns_weaken {w : World} {base base' : Nat} {e : TypeId} {size : Nat} {v : Value} {n : Nat} {xs : List Value} (h : w.ownsRow base e size v n xs) (hb : base' ≤ base) : w.ownsRow base' e size v n xs := by
  obtain ⟨h1, h2 | ⟨g, cap, cur, rfl, e2, e3⟩⟩ := h
  · exact ⟨h1, .inl h2⟩
  · exact ⟨h1, .inr ⟨g, cap, cur, rfl, Nat.le_trans hb e2, e3⟩⟩
theorem keep_none {w w' : World} (hg : w.grownBy w' (Value.ownBlock (.slice none 0 0))) {b o : Nat} {v : Value} (h : w.cell? ⟨b, o, none⟩ = some v) : w'.cell? ⟨b, o, none⟩ = some v := hg.cell h (fun e => by cases e)
theorem keep_none_f {w w' : World} (hg : w.grownBy w' (Value.ownBlock (.slice none 0 0))) {b o : Nat} {v : Value} (h : w.cell? ⟨b, o, none⟩ = some v) (hf : w.frozen? ⟨b, o, none⟩ = false) : w'.frozen? ⟨b, o, none⟩ = false :=
  (World.frozen?_of_block (w := w) (hg.block b (lt_of_cell h) (fun e => by cases e))).trans hf
section
variable {P : Program}
theorem exec_append {w w' : World} {ρ : Operand → Value} {o : Oper} (s x : Operand) (t : TypeId) (ho : o.op = .call { callee := .builtin .append, args := #[s, x], argTypes := #[t, t] }) (vs vx v' : Value) (hs : ρ s = vs) (hx : ρ x = vx)
    (hr : (Builtin.append_ #[t, t] o.type #[vs, vx]).run P w = .ok v' w') : (execOp ρ o).run P w = .ok (.value v') w' := by
  unfold execOp
  simp only [ho, resolve, invoke, builtin, Sem.run_bind, Sem.run_pure, Result.andThen_ok, List.map_toArray, List.map_cons, List.map_nil, hs, hx, hr]
end
end Go.Proofs.YtffdblmdelgkaaaGreat
