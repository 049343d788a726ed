/- More small lemmas on worlds for the walks. Conditions: none. -/
import Derived.Test.YtffdblmdelgkaaaGreatBase
namespace Go.Proofs.YtffdblmdelgkaaaGreat
open Go.RowKit
theorem hp_drewN {W : World} {b n : Nat} {x : Obj} (h : W.heap[b]? = some x) : (W.drewN n).heap[b]? = some x := h
theorem hp_drew {W : World} {b : Nat} {x : Obj} (h : W.heap[b]? = some x) : (W.drew).heap[b]? = some x := h
theorem below_drewNs {B : Nat} {W w1 : World} (h : Below B W w1) (n : Nat) : Below B W (w1.drewN n) := ⟨h.os, h.tape, h.output, h.size, h.block⟩
theorem at_ {W : World} {b : Nat} {cs : Array Value} {t : TypeId} (h : W.heap[b]? = some (.cells cs t (0, 0))) (i : Nat) (v : Value) (hv : cs[i]? = some v) : W.cell? ⟨b, i, none⟩ = some v ∧ W.frozen? ⟨b, i, none⟩ = false := by
  refine ⟨?_, ?_⟩
  · simp [World.cell?, h, hv]
  · simp [World.frozen?, h]
/-- An operation whose run is known. -/
theorem wpList_val {P : Program} {ops : Array Oper} {Q : Exit → Act → World → Prop} {o : Oper} {rest : List Oper} {a : Act} {w : World} (v : Value) (hg : o.guard = none) (hr : (execOp a.eval o).run P w = .ok (.value v) w) (h : wpList P ops Q rest (a.put o.dst v) w) : wpList P ops Q (o :: rest) a w :=
  wpList_plain hg fun _ hK => by unfold Oper.wp; rw [hr]; exact hK _ _ h
end Go.Proofs.YtffdblmdelgkaaaGreat
