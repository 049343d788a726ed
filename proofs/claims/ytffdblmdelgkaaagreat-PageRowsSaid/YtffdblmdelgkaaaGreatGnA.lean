/- General: places as cells; blocks known whole; a slice of one-cell elements at any offset, appended to. Conditions: none. -/
import Derived.Test.YtffdblmdelgkaaaGreatModA
import Derived.Test.YtffdblmdelgkaaaGreatPtPl
import Derived.Laws.ResultCell
import Derived.Deep.MidRow
namespace Go.Proofs.YtffdblmdelgkaaaGreat
open Go.RowKit

def encP (p : P2) : List Value := [.int .i64 p.1, .int .i64 p.2]
theorem encP_len : ∀ x, (encP x).length = 2 := fun _ => rfl
theorem encP_one : ∀ x, ∀ v ∈ encP x, v.oneCell' = true := fun x v hv => by simp [encP] at hv; rcases hv with rfl | rfl <;> rfl
def HoldAt (W : World) (b i : Nat) (v : Value) : Prop := W.cell? ⟨b, i, none⟩ = some v ∧ W.frozen? ⟨b, i, none⟩ = false
def TruePost (w : World) (e : Ending) (w' : World) : Prop := e = .returned (.bool true) ∧ Below w.heap.size w w'
theorem heap_setCell_eq {w : World} {b o : Nat} {v : Value} {cs : Array Value} {e : TypeId} {fz : Nat × Nat} (h : w.heap[b]? = some (.cells cs e fz)) : (w.setCell ⟨b, o, none⟩ v).heap[b]? = some (.cells (cs.setIfInBounds o v) e fz) := by
  unfold World.setCell
  simp only [Array.getElem?_modify, if_true, h]
  rfl
theorem flat_set : ∀ (X : List P2) (k : Nat) (p : P2), k < X.length → ((flat encP X).set (k * 2) (.int .i64 p.1)).set (k * 2 + 1) (.int .i64 p.2) = flat encP (X.set k p)
  | [], k, p, h => by simp at h
  | x :: X, 0, p, h => rfl
  | x :: X, k + 1, p, h => by
    have ih := flat_set X k p (by simpa using h)
    have e : flat encP (x :: X) = Value.int .i64 x.1 :: Value.int .i64 x.2 :: flat encP X := rfl
    have e2 : flat encP ((x :: X).set (k + 1) p) = Value.int .i64 x.1 :: Value.int .i64 x.2 :: flat encP (X.set k p) := rfl
    rw [e, e2, ← ih, show (k + 1) * 2 = k * 2 + 1 + 1 by omega]
    simp
theorem set_two {W : World} {b : Nat} {u v u' v' : Value} (h0 : W.cell? ⟨b, 0, none⟩ = some u ∧ W.frozen? ⟨b, 0, none⟩ = false) (h1 : W.cell? ⟨b, 1, none⟩ = some v ∧ W.frozen? ⟨b, 1, none⟩ = false) :
    (((W.setCell ⟨b, 0, none⟩ u').setCell ⟨b, 1, none⟩ v').cell? ⟨b, 0, none⟩ = some u' ∧ ((W.setCell ⟨b, 0, none⟩ u').setCell ⟨b, 1, none⟩ v').frozen? ⟨b, 0, none⟩ = false) ∧ ((W.setCell ⟨b, 0, none⟩ u').setCell ⟨b, 1, none⟩ v').cell? ⟨b, 1, none⟩ = some v' ∧ ((W.setCell ⟨b, 0, none⟩ u').setCell ⟨b, 1, none⟩ v').frozen? ⟨b, 1, none⟩ = false := by
  have k0 := set_self (u := u') h0
  have k1 : (W.setCell ⟨b, 0, none⟩ u').cell? ⟨b, 1, none⟩ = some v ∧ (W.setCell ⟨b, 0, none⟩ u').frozen? ⟨b, 1, none⟩ = false := ⟨(World.cell?_setCell_other W _ _ _ (fun e => by injection e with e1 e2; omega)).trans h1.1, by rw [World.frozen?_setCell]; exact h1.2⟩
  exact ⟨⟨(World.cell?_setCell_other _ _ _ _ (fun e => by injection e with e1 e2; omega)).trans k0.1, by rw [World.frozen?_setCell]; exact k0.2⟩, set_self k1⟩

theorem row_form {w : World} {base n : Nat} {e : TypeId} {v : Value} {xs : List Value} {size : Nat} (h : w.ownsRow base e size v n xs) : ∃ A c, v = .slice A n c := by
  rcases h.2 with ⟨rfl, rfl⟩ | ⟨g, cap, cur, rfl, _⟩
  · exact ⟨none, 0, rfl⟩
  · exact ⟨_, cap, rfl⟩
/-- A block that is known whole, one cell of which is set. -/
theorem whole_set {w : World} {b : Nat} {cs cs' : List Value} {t : TypeId} (h : w.heap[b]? = some (.cells cs.toArray t (0, 0))) (i : Nat) (v : Value) (hc : cs.set i v = cs') : (w.setCell ⟨b, i, none⟩ v).heap[b]? = some (.cells cs'.toArray t (0, 0)) := by
  rw [heap_setCell_eq h, ← hc]
  simp
theorem whole_at {w : World} {b : Nat} {cs : List Value} {t : TypeId} (h : w.heap[b]? = some (.cells cs.toArray t (0, 0))) (i : Nat) (v : Value) (hc : cs[i]? = some v) : HoldAt w b i v :=
  at_ h i v (by simpa using hc)
theorem heap_other {w : World} {b k i : Nat} {v : Value} (h : k ≠ b) : (w.setCell ⟨b, i, none⟩ v).heap[k]? = w.heap[k]? := Below.heap_setCell _ _ _ _ h
/-- A slice of one-cell elements, wherever in its row it begins. -/
def OwnsAt (w : World) (base : Nat) (e : TypeId) (v : Value) (ps : List Value) : Prop :=
  (v = .slice none 0 0 ∧ ps = []) ∨
  ∃ g o cap cur, v = .slice (some ⟨g, o, none⟩) ps.length cap ∧ base ≤ g ∧ w.heap[g]? = some (.cells cur e (0, 0)) ∧ ps.length ≤ cap ∧ o + cap ≤ maxLen ∧ cur.size = o + cap ∧ (cur.toList.drop o).take ps.length = ps
theorem OwnsAt.lt {w : World} {base : Nat} {e : TypeId} {v : Value} {ps : List Value} (h : OwnsAt w base e v ps) : ∀ g, v.ownBlock = some g → base ≤ g ∧ g < w.heap.size := by
  intro k hk
  rcases h with ⟨rfl, -⟩ | ⟨g, o, cap, cur, rfl, hb, hg, -⟩
  · simp [Value.ownBlock] at hk
  · simp [Value.ownBlock] at hk
    subst hk
    exact ⟨hb, (Array.getElem?_eq_some_iff.1 hg).1⟩
theorem OwnsAt.form {w : World} {base : Nat} {e : TypeId} {v : Value} {ps : List Value} (h : OwnsAt w base e v ps) : ∃ A c, v = .slice A ps.length c ∧ ps.length ≤ c := by
  rcases h with ⟨rfl, rfl⟩ | ⟨g, o, cap, cur, rfl, -, -, hc, -⟩
  · exact ⟨none, 0, rfl, Nat.le_refl _⟩
  · exact ⟨_, cap, rfl, hc⟩
theorem OwnsAt.mod {X : List Nat} {w w' : World} {base : Nat} {e : TypeId} {v : Value} {ps : List Value} (h : OwnsAt w base e v ps) (hm : Mod X w w') (hX : ∀ g, v.ownBlock = some g → g ∉ X) : OwnsAt w' base e v ps := by
  rcases h with h | ⟨g, o, cap, cur, rfl, e2, e3, e4⟩
  · exact .inl h
  · refine .inr ⟨g, o, cap, cur, rfl, e2, ?_, e4⟩
    rw [hm.block g (Array.getElem?_eq_some_iff.1 e3).1 (hX g rfl)]; exact e3
theorem OwnsAt.setCell {w : World} {base : Nat} {e : TypeId} {v : Value} {ps : List Value} (h : OwnsAt w base e v ps) {b i : Nat} (hb : ∀ g, v.ownBlock = some g → g ≠ b) (u : Value) : OwnsAt (w.setCell ⟨b, i, none⟩ u) base e v ps := by
  rcases h with h | ⟨g, o, cap, cur, rfl, e2, e3, e4⟩
  · exact .inl h
  · refine .inr ⟨g, o, cap, cur, rfl, e2, ?_, e4⟩
    rw [heap_other (hb g rfl)]; exact e3
theorem OwnsAt.at_ {w : World} {base : Nat} {e : TypeId} {A : Option Addr} {n c : Nat} {ps : List Value} (h : OwnsAt w base e (.slice A n c) ps) {i : Nat} {u : Value} (hu : ps[i]? = some u) : ∃ g o, A = some ⟨g, o, none⟩ ∧ w.cell? ⟨g, o + i, none⟩ = some u ∧ w.frozen? ⟨g, o + i, none⟩ = false := by
  rcases h with ⟨-, rfl⟩ | ⟨g, o, cap, cur, hv, -, hg, hc, -, hs, ht⟩
  · simp at hu
  · simp only [Value.slice.injEq] at hv
    have hlt := (List.getElem?_eq_some_iff.1 hu).1
    refine ⟨g, o, hv.1, ?_, frozen_of_row w g (o + i) cur _ hg⟩
    rw [cell_of_row w g (o + i) cur _ _ hg]
    rw [← ht, List.getElem?_take, if_pos hlt, List.getElem?_drop] at hu
    simpa using hu
/-- The first one goes. -/
theorem OwnsAt.tail {w : World} {base : Nat} {e : TypeId} {g o n c : Nat} {p : Value} {ps : List Value} (h : OwnsAt w base e (.slice (some ⟨g, o, none⟩) n c) (p :: ps)) (hn : n = (p :: ps).length) : OwnsAt w base e (.slice (some ⟨g, o + 1, none⟩) (n - 1) (c - 1)) ps := by
  subst hn
  rcases h with ⟨h, -⟩ | ⟨g', o', cap, cur, hv, e2, e3, e4, e5, e6, e7⟩
  · cases h
  · simp only [Value.slice.injEq, Option.some.injEq, Addr.mk.injEq, and_true] at hv
    obtain ⟨⟨rfl, rfl⟩, -, rfl⟩ := hv
    simp only [List.length_cons] at *
    refine .inr ⟨g, o + 1, c - 1, cur, by simp, e2, e3, by omega, by omega, by omega, ?_⟩
    have hd : cur.toList.drop o = p :: (cur.toList.drop (o + 1)) := by
      have hlt : o < cur.toList.length := by simp; omega
      rw [List.drop_eq_getElem_cons hlt]
      congr 1
      rw [List.drop_eq_getElem_cons hlt, List.take_succ_cons] at e7
      exact (List.cons.inj e7).1
    rw [hd, List.take_succ_cons] at e7
    exact (List.cons.inj e7).2
theorem OwnsAt.of_owns {w : World} {base n : Nat} {e : TypeId} {v : Value} {xs : List Value} (h : w.ownsRow base e 1 v n xs) : OwnsAt w base e v xs := by
  obtain ⟨h1, ⟨rfl, rfl⟩ | ⟨g, cap, cur, rfl, e2, e3, e4, e5, e6, e7⟩⟩ := h
  · exact .inl ⟨rfl, List.length_eq_zero_iff.1 (by simpa using h1)⟩
  · have hn : n = xs.length := by omega
    subst hn
    exact .inr ⟨g, 0, cap, cur, rfl, e2, e3, e4, by omega, by omega, by simpa using e7⟩
section
variable {P : Program}
/-- One is appended. -/
theorem run_append_at (w : World) (base : Nat) (t ty e : TypeId) (i : TypeInfo) (z : Value) (bytes : Nat) (ht : P.underlying t = some (.slice e)) (hi : P.info? e = some i) (hz : i.zero = some z) (hsize : i.size = 1) (hby : i.bytes = bytes) (hzs : z.cells.size = 1)
    (v : Value) (ps : List Value) (hown : OwnsAt w base e v ps) (a : Addr) (c : Nat) (u : Value) (hu : w.cell? a = some u) (h1 : u.oneCell' = true) (h63 : ps.length + 1 ≤ maxLen) (hbytes : (ps.length + 1) * bytes ≤ 140737488355328) (hbase : base ≤ w.heap.size) :
    ∃ v' w', (Builtin.append_ #[t, t] ty #[v, .slice (some a) 1 c]).run P w = .ok v' w' ∧ OwnsAt w' base e v' (ps ++ [u]) ∧ w.grownBy w' v.ownBlock ∧ ∀ g, v'.ownBlock = some g → v.ownBlock = some g ∨ w.heap.size ≤ g := by
  have hnews : ∀ j x, [u][j]? = some x → w.cell? (a.add j) = some x := fun j x hj => by
    match j, hj with
    | 0, hj => simp at hj; subst hj; simpa [Addr.add] using hu
  rcases hown with ⟨rfl, rfl⟩ | ⟨g, o, cap, cur, rfl, hbg, hg, hnc, hcm, hcs, htake⟩
  · obtain ⟨v', w', hr, ho, hgr, -⟩ := run_append_own_at (P := P) w w.heap.size t ty e i z 1 bytes ht hi hz hsize hby hzs (by decide) _ 0 [] (World.ownsRow_nil _ _ _ _) a 1 c [u] rfl hnews (by simpa using h1) (by simpa using h63) (by simpa using hbytes) (Nat.le_refl _)
    exact ⟨v', w', hr, .of_owns (owns_weaken ho hbase), hgr, fun g hg => .inr (ho.lt g hg).1⟩
  · have hold : ∀ j x, ps[j]? = some x → w.cell? ((⟨g, o, none⟩ : Addr).add j) = some x := fun j x hj => by
      have hlt := (List.getElem?_eq_some_iff.1 hj).1
      rw [add_lit', cell_of_row w g (o + j) cur _ _ hg]
      rw [← htake, List.getElem?_take, if_pos hlt, List.getElem?_drop] at hj
      simpa using hj
    by_cases hroom : ps.length + 1 ≤ cap
    · have hf := run_firstCells_some (P := P) w i.size 1 a 1 c [u] (by rw [hsize]; rfl) hnews
      have hst := run_storeCells_at P g (o + ps.length) e [u] 0 cur w hg (by simp; omega) (by simpa using h1)
      simp only [Nat.add_zero] at hst
      rw [hsize] at hf
      refine ⟨.slice (some ⟨g, o, none⟩) (ps.length + 1) cap, w.setRow g (cur.toList.take (o + ps.length) ++ [u] ++ cur.toList.drop (o + ps.length + [u].length)).toArray, by
        simp [Builtin.append_, run_underlying ht, sizeOf, typeInfo, hi, hsize, Builtin.lenOf, hroom, hf, add_lit', hst], .inr ⟨g, o, cap, _, by simp, hbg, setRow_heap w g cur _ e _ hg, by simpa using hroom, hcm, ?_, ?_⟩, ⟨rfl, rfl, rfl, by simp, fun k _ hk => setRow_other w g k _ (fun e => hk (by simp [Value.ownBlock, e]))⟩, fun g hg => .inl hg⟩
      · simp; omega
      · have hlen : (cur.toList.take (o + ps.length)).length = o + ps.length := by simp; omega
        show List.take (ps ++ [u]).length (List.drop o (List.take (o + ps.length) cur.toList ++ [u] ++ List.drop (o + ps.length + [u].length) cur.toList)) = ps ++ [u]
        rw [List.append_assoc, List.drop_append_of_le_length (by rw [hlen]; omega), List.drop_take, show o + ps.length - o = ps.length by omega, htake, ← List.append_assoc]
        exact List.take_left
    · have hge := grownCap_ge w (ps.length + 1) cap e
      have hcm' : grownCap w (ps.length + 1) cap e ≤ maxLen := grownCap_le_maxLen w (ps.length + 1) cap e h63
      have hr := run_append_grow (P := P) w t ty e i z ht hi hz ⟨g, o, none⟩ ps.length cap ps (by rw [hsize]; simp) hold a 1 c [u] (by rw [hsize]; rfl) hnews (by omega) (by simp only [maxLen] at h63; omega) (growslice_fits (by omega) (by rw [hby]; exact hbytes))
      refine ⟨_, _, hr, .inr ⟨w.heap.size, 0, _, _, by rw [List.length_append]; rfl, hbase, heap_alloc_new w.drew _, by simpa using hge, by rw [Nat.zero_add]; exact hcm', ?_, ?_⟩, ⟨rfl, rfl, rfl, by simp, fun k hk _ => heap_alloc_old w.drew _ hk⟩, fun g hg => .inr (by simp [Value.ownBlock] at hg; omega)⟩
      · simp only [Array.size_append, List.size_toArray, size_zeroCells, hzs, List.length_singleton]
        omega
      · simp only [List.drop_zero, Array.toList_append, List.append_assoc]
        rw [← List.append_assoc]
        exact List.take_left
theorem wpList_append_at {ops : Array Oper} {rest : List Oper} {o : Oper} {a : Act} {w : World} {Q : Exit → Act → World → Prop} (hgd : o.guard = none) (s x : Operand) (t : TypeId)
    (ho : o.op = .call { callee := .builtin .append, args := #[s, x], argTypes := #[t, t] }) (base : Nat) (e : TypeId) (i : TypeInfo) (z : Value) (bytes : Nat) (ht : P.underlying t = some (.slice e)) (hi : P.info? e = some i) (hz : i.zero = some z) (hsize : i.size = 1) (hby : i.bytes = bytes) (hzs : z.cells.size = 1)
    (v : Value) (ps : List Value) (hs : a.eval s = v) (hown : OwnsAt w base e v ps) (ad : Addr) (c : Nat) (u : Value) (hx : a.eval x = .slice (some ad) 1 c) (hu : w.cell? ad = some u) (h1 : u.oneCell' = true) (h63 : ps.length + 1 ≤ maxLen) (hbytes : (ps.length + 1) * bytes ≤ 140737488355328) (hbase : base ≤ w.heap.size)
    (h : ∀ v' w', OwnsAt w' base e v' (ps ++ [u]) → w.grownBy w' v.ownBlock → (∀ g, v'.ownBlock = some g → v.ownBlock = some g ∨ w.heap.size ≤ g) → wpList P ops Q rest (a.put o.dst v') w') : wpList P ops Q (o :: rest) a w := by
  obtain ⟨v', w', hr, h2, h3, h4⟩ := run_append_at (P := P) w base t o.type e i z bytes ht hi hz hsize hby hzs v ps hown ad c u hu h1 h63 hbytes hbase
  refine wpList_plain hgd fun K hK => ?_
  unfold Oper.wp execOp
  simp only [ho, resolve, invoke, builtin, Sem.run_bind, Sem.run_pure, Result.andThen_ok, List.map_toArray, List.map_cons, List.map_nil, hs, hx, hr]
  exact hK _ _ (h _ _ h2 h3 h4)
end
end Go.Proofs.YtffdblmdelgkaaaGreat
