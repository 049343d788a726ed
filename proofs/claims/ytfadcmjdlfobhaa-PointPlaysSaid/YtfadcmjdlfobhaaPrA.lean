/- The document's store of points: what it is in memory; put. Conditions: as stated. -/
import Derived.Test.YtfadcmjdlfobhaaPtG
import Derived.Test.YtfadcmjdlfobhaaRegU
import Derived.Deep.CutBlock
import Derived.Deep.DeepCutAuto
namespace Go.Proofs.Ytfadcmjdlfobhaa
open Go.RowKit Go.Sort

def encA (p : PA) : List Value := [.int .i64 p.1.1, .int .i64 p.1.2, .int .i64 p.2]
theorem encA_len : ∀ x, (encA x).length = 3 := fun _ => rfl
theorem encA_one : ∀ x, ∀ v ∈ encA x, v.oneCell' = true := fun x v hv => by simp [encA] at hv; rcases hv with rfl | rfl | rfl <;> rfl
theorem info_pt : (Try.prog.info? 82).map (fun i => (i.zero, i.size, i.bytes)) = some (some (.agg #[.int .i64 0, .int .i64 0, .int .i64 0]), 3, 24) := by kernel_rfl
theorem cell_three_new (w : World) (a b c : Value) (t : TypeId) : ∀ j u, [a, b, c][j]? = some u → (w.alloc (.cells #[a, b, c] t)).cell? ((⟨w.heap.size, 0, none⟩ : Addr).add j) = some u := by
  intro j u hj
  rw [add_lit', Nat.zero_add, cell_of_row _ _ j _ _ _ (hp_new rfl)]
  simpa using hj
/-- The store at q: its points with their ages M; the next age; G: its blocks. -/
def PrSt (w : World) (q : Nat) (G : List Nat) (most next : Int) (M : List PA) : Prop :=
  ∃ v : Value, G = q :: v.ownBlock.toList ∧ w.cell? ⟨q, 0, none⟩ = some (.int .i64 most) ∧ (w.cell? ⟨q, 1, none⟩ = some (.int .i64 next) ∧ w.frozen? ⟨q, 1, none⟩ = false) ∧ (w.cell? ⟨q, 2, none⟩ = some v ∧ w.frozen? ⟨q, 2, none⟩ = false) ∧ w.ownsRow (q + 1) 82 3 v M.length (flat encA M)
theorem PrSt.lt {w : World} {q : Nat} {G : List Nat} {most next : Int} {M : List PA} (h : PrSt w q G most next M) : ∀ g ∈ G, g < w.heap.size := by
  obtain ⟨v, rfl, h0, -, -, ho⟩ := h
  intro g hg
  rcases List.mem_cons.1 hg with rfl | hg
  · exact lt_of_cell h0
  · exact (ho.lt g (by simpa [Option.mem_toList] using hg)).2
theorem PrSt.mod {w w' : World} {q : Nat} {G X : List Nat} {most next : Int} {M : List PA} (h : PrSt w q G most next M) (hm : Mod X w w') (hX : ∀ g ∈ G, g ∉ X) : PrSt w' q G most next M := by
  obtain ⟨v, rfl, h0, h1, h2, ho⟩ := h
  have hq := hX q (by simp)
  exact ⟨v, rfl, hm.cell hq h0, hm.hold hq h1, hm.hold hq h2, owns_mod ho hm (fun g hg => hX g (by simp [hg]))⟩
theorem PrSt.below {w w' : World} {q : Nat} {G : List Nat} {most next : Int} {M : List PA} (h : PrSt w q G most next M) (hb : Below w.heap.size w w') : PrSt w' q G most next M :=
  h.mod (Mod.of_below (X := []) hb) (fun _ _ h => by cases h)
def PrPost (w : World) (q : Nat) (G : List Nat) (most next : Int) (M : List PA) (e : Ending) (w' : World) : Prop :=
  e = .returned (.tuple #[]) ∧ ∃ G', PrSt w' q G' most next M ∧ Mod G w w' ∧ ∀ g ∈ G', g ∈ G ∨ w.heap.size ≤ g
theorem takeA_snoc {L : List PA} {i : Nat} {x : PA} (hx : L[i]? = some x) : L.take (i + 1) = L.take i ++ [x] := by
  have := List.getElem?_eq_some_iff.1 hx
  rw [List.take_succ_eq_append_getElem this.1, this.2]
section
variable {P : Program}
/-- Nothing appended to a row. -/
theorem wpList_append_zero {ops : Array Oper} {rest : List Oper} {o : Oper} {a : Act} {w : World} {Q : Exit → Act → World → Prop} (hgd : o.guard = none) (s x : Operand) (t : TypeId)
    (ho : o.op = .call { callee := .builtin .append, args := #[s, x], argTypes := #[t, t] }) {e : TypeId} {i : TypeInfo} (ht : P.underlying t = some (.slice e)) (hi : P.info? e = some i) (g : Addr) (n cap : Nat) (hn : n ≤ cap) (X : Option Addr) (c : Nat)
    (hs : a.eval s = .slice (some g) n cap) (hx : a.eval x = .slice X 0 c) (h : wpList P ops Q rest (a.put o.dst (.slice (some g) n cap)) w) : wpList P ops Q (o :: rest) a w := by
  refine wpList_plain hgd fun K hK => ?_
  have hr : (Builtin.append_ #[t, t] o.type #[.slice (some g) n cap, .slice X 0 c]).run P w = .ok (.slice (some g) n cap) w := by
    cases X <;> simp [Builtin.append_, run_underlying ht, sizeOf, typeInfo, hi, Builtin.lenOf, Builtin.firstCells, loadCells, loadCellsFrom, hn, storeCells]
  unfold Oper.wp execOp
  simp only [ho, resolve, invoke, builtin, Sem.run_bind, Sem.run_pure, Result.andThen_ok, List.map_toArray, List.map_cons, List.map_nil, hs, hx, hr]
  exact hK _ _ h
end
/-- What put holds: the points ahead, in a row of its own. -/
def PutSt (W0 : World) (M : List PA) (k : Nat) (v : Value) (wr : World) : Prop := wr.ownsRow W0.heap.size 82 3 v k (flat encA (M.take k)) ∧ Below W0.heap.size W0 wr
theorem PutSt.add {W0 wr wm w1 : World} {M : List PA} {k : Nat} {v v1 : Value} {y : PA} {o : Obj} (h : PutSt W0 M k v wr) (hy : M[k]? = some y) (hm : Below wr.heap.size wr wm) (hown : w1.ownsRow W0.heap.size 82 3 v1 (k + 1) (flat encA (M.take k) ++ encA y)) (hg : (wm.alloc o).grownBy w1 v.ownBlock) : PutSt W0 M (k + 1) v1 w1 := by
  refine ⟨?_, ?_⟩
  · rw [takeA_snoc hy, ← flat_snoc]; exact hown
  · have hB1 := below_allocs (below_tail h.2 hm) o
    exact hB1.grown hg hB1.size (fun k hk => (h.1.lt k hk).1)
theorem PutSt.below {W0 wr w1 : World} {M : List PA} {k : Nat} {v : Value} (h : PutSt W0 M k v wr) (hb : Below wr.heap.size wr w1) : PutSt W0 M k v w1 := ⟨owns_bl h.1 hb, below_tail h.2 hb⟩
theorem gr_drop {α : Type} {enc : α → List Value} {k : Nat} {w : World} {b off : Nat} {l : List α} (h : GrAt enc k w (some ⟨b, off, none⟩) l) (i : Nat) : GrAt enc k w (some ⟨b, off + i * k, none⟩) (l.drop i) := fun hl => by
  rw [List.length_drop] at hl
  obtain ⟨b', off', e, hc⟩ := h (by omega)
  simp only [Option.some.injEq, Addr.mk.injEq, and_true] at e
  obtain ⟨rfl, rfl⟩ := e
  refine ⟨b, off + i * k, rfl, fun j x hx t v hv => ?_⟩
  rw [List.getElem?_drop] at hx
  have := hc (i + j) x hx t v hv
  rwa [Nat.add_mul, ← Nat.add_assoc] at this
theorem owns_le {w : World} {base : Nat} {e : TypeId} {size : Nat} {A : Option Addr} {n cap : Nat} {xs : List Value} (h : w.ownsRow base e size (.slice A n cap) n xs) : n ≤ cap := by
  rcases h.2 with ⟨hv, -⟩ | ⟨g, cap', cur, hv, -, -, hc, -⟩
  · simp only [Value.slice.injEq] at hv; omega
  · simp only [Value.slice.injEq] at hv; omega
/-- The new row is laid into the store. -/
theorem put_end {w W0 wf : World} {q g2 N n2 : Nat} {G : List Nat} {most next : Int} {M M' : List PA} (h : PrSt w q G most next M) (hb : Below w.heap.size w W0) (hf : Below W0.heap.size W0 wf) (ho : wf.ownsRow W0.heap.size 82 3 (.slice (some ⟨g2, 0, none⟩) N n2) N (flat encA M')) (hN : N = M'.length) :
    PrPost w q G most next M' (.returned (.tuple #[])) (wf.setCell ⟨q, 2, none⟩ (.slice (some ⟨g2, 0, none⟩) N n2)) := by
  subst hN
  obtain ⟨v, rfl, h0, h1, h2, -⟩ := h
  have hq := lt_of_cell h0
  have hs := hb.size
  replace h0 := holda hf (holda hb h0)
  replace h1 := hold hf (hold hb h1)
  replace h2 := hold hf (hold hb h2)
  have hbt := hb.trans ((Mod.of_below (X := []) hf).below (fun g hg => by cases hg) hs)
  refine ⟨rfl, q :: [g2], ⟨.slice (some ⟨g2, 0, none⟩) M'.length n2, rfl, ?_, ⟨?_, ?_⟩, set_self h2, ?_⟩, (Mod.of_below (X := q :: v.ownBlock.toList) hbt).setCell (.inl (by simp)) _, fun g hg => ?_⟩
  · exact (World.cell?_setCell_other _ _ _ _ (fun e => by injection e with e1 e2; omega)).trans h0
  · exact (World.cell?_setCell_other _ _ _ _ (fun e => by injection e with e1 e2; omega)).trans h1.1
  · rw [World.frozen?_setCell]; exact h1.2
  · exact ownsRow_setCell_below (owns_weaken ho (by omega)) (Nat.lt_succ_self q) _
  · rcases List.mem_cons.1 hg with rfl | hg
    · exact .inl (by simp)
    · rw [List.mem_singleton.1 hg]
      exact .inr (Nat.le_trans hs (ho.lt g2 rfl).1)
end Go.Proofs.Ytfadcmjdlfobhaa
