/- The program's store of points: Shift (a filter in the row's own place). Conditions: as stated. -/
import Derived.Test.YtfadcmjdlfobhaaPtB
import Derived.Test.YtfadcmjdlfobhaaShC
import Derived.ArgAppend
namespace Go.Proofs.Ytfadcmjdlfobhaa
open Go.RowKit Go.Sort

theorem heap_setCell_eq {w : World} {b o : Nat} {v : Value} {cs : Array Value} {e : TypeId} {fz : Nat × Nat} (h : w.heap[b]? = some (.cells cs e fz)) : (w.setCell ⟨b, o, none⟩ v).heap[b]? = some (.cells (cs.setIfInBounds o v) e fz) := by
  unfold World.setCell
  simp only [Array.getElem?_modify, if_true, h]
  rfl
/-- A cell of a row, set. -/
theorem owns_set1 {w : World} {base g : Nat} {e : TypeId} {size n cap : Nat} {xs : List Value} (h : w.ownsRow base e size (.slice (some ⟨g, 0, none⟩) n cap) n xs) (o : Nat) (v : Value) :
    (w.setCell ⟨g, o, none⟩ v).ownsRow base e size (.slice (some ⟨g, 0, none⟩) n cap) n (xs.set o v) := by
  obtain ⟨h1, h2 | ⟨g', cap', cur, hv, e2, e3, e4, e5, e6, e7⟩⟩ := h
  · exact absurd h2.1 (by simp)
  · simp only [Value.slice.injEq, Option.some.injEq, Addr.mk.injEq, and_true, true_and] at hv
    obtain ⟨rfl, rfl⟩ := hv
    refine ⟨by simpa using h1, .inr ⟨g, cap, cur.setIfInBounds o v, rfl, e2, heap_setCell_eq e3, e4, e5, by simpa using e6, ?_⟩⟩
    rw [← e7, Array.toList_setIfInBounds]
    rw [List.take_set]
theorem flat_set : ∀ (X : List P2) (k : Nat) (p : P2), k < X.length → ((flat encP X).set (k * 2) (.int .i64 p.1)).set (k * 2 + 1) (.int .i64 p.2) = flat encP (X.set k p)
  | [], k, p, h => by simp at h
  | x :: X, 0, p, h => rfl
  | x :: X, k + 1, p, h => by
    have ih := flat_set X k p (by simpa using h)
    have e : flat encP (x :: X) = Value.int .i64 x.1 :: Value.int .i64 x.2 :: flat encP X := rfl
    have e2 : flat encP ((x :: X).set (k + 1) p) = Value.int .i64 x.1 :: Value.int .i64 x.2 :: flat encP (X.set k p) := rfl
    rw [e, e2, ← ih, show (k + 1) * 2 = k * 2 + 1 + 1 by omega]
    simp
theorem owns_setP {w : World} {base g : Nat} {e : TypeId} {n cap : Nat} {X : List P2} (h : w.ownsRow base e 2 (.slice (some ⟨g, 0, none⟩) n cap) n (flat encP X)) {k : Nat} (hk : k < n) (hn : n = X.length) (r c : Int) :
    (w.setCells g (k * 2) [.int .i64 r, .int .i64 c]).ownsRow base e 2 (.slice (some ⟨g, 0, none⟩) n cap) n (flat encP (X.set k (r, c))) := by
  have h1 := owns_set1 h (k * 2) (.int .i64 r)
  have h2 := owns_set1 h1 (k * 2 + 1) (.int .i64 c)
  rw [flat_set X k (r, c) (by omega)] at h2
  exact h2
section
variable {P : Program}
/-- An append that has room: the cells behind are set. -/
theorem wpList_append_room2 {ops : Array Oper} {rest : List Oper} {o : Oper} {a : Act} {w : World} {Q : Exit → Act → World → Prop} (hgd : o.guard = none) (s x : Operand) (t : TypeId)
    (ho : o.op = .call { callee := .builtin .append, args := #[s, x], argTypes := #[t, t] }) (e : TypeId) (i : TypeInfo) (size : Nat) (ht : P.underlying t = some (.slice e)) (hi : P.info? e = some i) (hsize : i.size = size)
    (b k cap : Nat) (hs : a.eval s = .slice (some ⟨b, 0, none⟩) k cap) (ad : Addr) (m c : Nat) (news : List Value) (hx : a.eval x = .slice (some ad) m c) (hl : news.length = m * size) (hnews : ∀ j u, news[j]? = some u → w.cell? (ad.add j) = some u) (h1 : ∀ u ∈ news, u.oneCell' = true)
    (hroom : k + m ≤ cap) (hc : ∀ j, j < news.length → (w.cell? ⟨b, k * size + j, none⟩).isSome = true) (hf : ∀ j, j < news.length → w.frozen? ⟨b, k * size + j, none⟩ = false)
    (h : wpList P ops Q rest (a.put o.dst (.slice (some ⟨b, 0, none⟩) (k + m) cap)) (w.setCells b (k * size) news)) : wpList P ops Q (o :: rest) a w := by
  subst hsize
  refine wpList_plain hgd fun K hK => ?_
  have hr := run_append_room_cells (P := P) w t o.type e i ht hi b 0 k cap ad m c news hl hnews h1 hroom (fun j hj => by rw [Nat.zero_add]; exact hc j hj) (fun j hj => by rw [Nat.zero_add]; exact hf j hj)
  rw [Nat.zero_add] at hr
  unfold Oper.wp execOp
  simp only [ho, resolve, invoke, builtin, Sem.run_bind, Sem.run_pure, Result.andThen_ok, List.map_toArray, List.map_cons, List.map_nil, hs, hx, hr]
  exact hK _ _ h
end
theorem mod_setCells {X : List Nat} {w w1 : World} (h : Mod X w w1) {g : Nat} (hg : g ∈ X ∨ w.heap.size ≤ g) (o : Nat) (a b : Value) : Mod X w (w1.setCells g o [a, b]) :=
  (h.setCell (a := ⟨g, o, none⟩) hg a).setCell (a := ⟨g, o + 1, none⟩) hg b

def goP (k a n : Int) (p : P2) : Bool := k == 2 && lostB p.1 p.2 k a n
def mvP (k a n : Int) (p : P2) : P2 := mv p.1 p.2 k a n
def shiftL (k a n : Int) (L : List P2) : List P2 := if rightS k a n then (L.filter (fun p => !goP k a n p)).map (mvP k a n) else L
def keptL (k a n : Int) (L : List P2) : List P2 := (L.filter (fun p => !goP k a n p)).map (mvP k a n)
theorem keptL_len (k a n : Int) (L : List P2) : (keptL k a n L).length ≤ L.length := by
  unfold keptL; rw [List.length_map]; exact List.length_filter_le _ _
theorem keptL_snoc (k a n : Int) (L : List P2) (p : P2) : keptL k a n (L ++ [p]) = if goP k a n p then keptL k a n L else keptL k a n L ++ [mvP k a n p] := by
  unfold keptL
  rw [List.filter_append, List.map_append]
  cases h : goP k a n p <;> simp [h]
/-- What the filter holds at round i: the row's list X; those kept so far ahead of place m. -/
structure FilSt (k a n : Int) (L : List P2) (i : Nat) (m : Nat) (X : List P2) : Prop where
  le : i ≤ L.length
  len : X.length = L.length
  m_len : m = (keptL k a n (L.take i)).length
  kept : X.take m = keptL k a n (L.take i)
  rest : X.drop i = L.drop i
theorem FilSt.m_le {k a n : Int} {L : List P2} {i m : Nat} {X : List P2} (h : FilSt k a n L i m X) : m ≤ i := by
  have h1 := keptL_len k a n (L.take i)
  rw [List.length_take] at h1
  have h2 := h.le
  rw [h.m_len]
  omega
theorem FilSt.start (k a n : Int) (L : List P2) : FilSt k a n L 0 0 L := ⟨Nat.zero_le _, rfl, rfl, rfl, rfl⟩
theorem FilSt.at_ {k a n : Int} {L : List P2} {i m : Nat} {X : List P2} (h : FilSt k a n L i m X) {x : P2} (hx : L[i]? = some x) : X[i]? = some x := by
  have := congrArg (fun l => l[0]?) h.rest
  simpa [List.getElem?_drop, hx] using this
theorem take_snoc {L : List P2} {i : Nat} {x : P2} (hx : L[i]? = some x) : L.take (i + 1) = L.take i ++ [x] := by
  have := List.getElem?_eq_some_iff.1 hx
  rw [List.take_succ_eq_append_getElem this.1, this.2]
theorem FilSt.skip {k a n : Int} {L : List P2} {i m : Nat} {X : List P2} (h : FilSt k a n L i m X) {x : P2} (hx : L[i]? = some x) (hg : goP k a n x = true) : FilSt k a n L (i + 1) m X := by
  have h1 := (List.getElem?_eq_some_iff.1 hx).1
  have e : keptL k a n (L.take (i + 1)) = keptL k a n (L.take i) := by rw [take_snoc hx, keptL_snoc, if_pos hg]
  refine ⟨h1, h.len, by rw [e]; exact h.m_len, by rw [e]; exact h.kept, ?_⟩
  have := congrArg (List.drop 1) h.rest
  simpa [List.drop_drop] using this
theorem FilSt.keep {k a n : Int} {L : List P2} {i m : Nat} {X : List P2} (h : FilSt k a n L i m X) {x : P2} (hx : L[i]? = some x) (hg : goP k a n x = false) : FilSt k a n L (i + 1) (m + 1) (X.set m (mvP k a n x)) := by
  have h1 := (List.getElem?_eq_some_iff.1 hx).1
  have hm := h.m_le
  have hlen := h.len
  have e : keptL k a n (L.take (i + 1)) = keptL k a n (L.take i) ++ [mvP k a n x] := by rw [take_snoc hx, keptL_snoc, if_neg (by rw [hg]; simp)]
  refine ⟨h1, by simpa using h.len, by rw [e, List.length_append, ← h.m_len]; rfl, ?_, ?_⟩
  · rw [e, ← h.kept]
    have hm2 : m < (X.set m (mvP k a n x)).length := by simp; omega
    rw [List.take_succ_eq_append_getElem hm2, List.getElem_set_self]
    congr 1
    rw [List.take_set_of_le (Nat.le_refl m)]
  · rw [List.drop_set_of_lt (by omega)]
    have := congrArg (List.drop 1) h.rest
    simpa [List.drop_drop] using this
theorem FilSt.done {k a n : Int} {L : List P2} {m : Nat} {X : List P2} (h : FilSt k a n L L.length m X) : X.take m = keptL k a n L ∧ m = (keptL k a n L).length := by
  have h1 := h.kept
  have h2 := h.m_len
  rw [List.take_length] at h1 h2
  exact ⟨h1, h2⟩
/-- The row's head alone. -/
theorem owns_head {w : World} {base g : Nat} {e : TypeId} {n cap : Nat} {X : List P2} (h : w.ownsRow base e 2 (.slice (some ⟨g, 0, none⟩) n cap) n (flat encP X)) {m : Nat} (hm : m ≤ n) (hn : n = X.length) : w.ownsRow base e 2 (.slice (some ⟨g, 0, none⟩) m cap) m (flat encP (X.take m)) := by
  obtain ⟨h1, h2 | ⟨g', cap', cur, hv, e2, e3, e4, e5, e6, e7⟩⟩ := h
  · exact absurd h2.1 (by simp)
  · simp only [Value.slice.injEq, Option.some.injEq, Addr.mk.injEq, and_true, true_and] at hv
    obtain ⟨rfl, rfl⟩ := hv
    have hl : (X.take m).length = m := by rw [List.length_take]; omega
    refine ⟨by rw [flat_len encP_len, hl], .inr ⟨g, cap, cur, rfl, e2, e3, by omega, e5, e6, ?_⟩⟩
    have e8 : flat encP X = flat encP (X.take m) ++ flat encP (X.drop m) := by rw [← flat_append, List.take_append_drop]
    rw [e8] at e7
    have := congrArg (List.take (m * 2)) e7
    rw [List.take_take, Nat.min_eq_left (by omega), List.take_left' (by rw [flat_len encP_len, hl])] at this
    exact this
theorem owns_cell {w : World} {base g : Nat} {e : TypeId} {n cap : Nat} {X : List P2} (h : w.ownsRow base e 2 (.slice (some ⟨g, 0, none⟩) n cap) n (flat encP X)) (hn : n = X.length) {i : Nat} {x : P2} (hx : X[i]? = some x) : (w.cell? ⟨g, i * 2, none⟩ = some (.int .i64 x.1) ∧ w.frozen? ⟨g, i * 2, none⟩ = false) ∧ w.cell? ⟨g, i * 2 + 1, none⟩ = some (.int .i64 x.2) ∧ w.frozen? ⟨g, i * 2 + 1, none⟩ = false := by
  have hi := (List.getElem?_eq_some_iff.1 hx).1
  have h0 := flat_at encP_len X i x hx 0 (by omega)
  have h1 := flat_at encP_len X i x hx 1 (by omega)
  rw [Nat.add_zero] at h0
  have hf : ∀ o, w.frozen? ⟨g, o, none⟩ = false := by
    obtain ⟨_, h2 | ⟨g', cap', cur, hv, e2, e3, e4⟩⟩ := h
    · exact absurd h2.1 (by simp)
    · simp only [Value.slice.injEq, Option.some.injEq, Addr.mk.injEq, and_true, true_and] at hv
      obtain ⟨rfl, rfl⟩ := hv
      intro o
      simp [World.frozen?, e3]
  exact ⟨⟨by rw [h.cellAt _ (by omega), h0]; rfl, hf _⟩, by rw [h.cellAt _ (by omega), h1]; rfl, hf _⟩
theorem owns_room {w : World} {base g : Nat} {e : TypeId} {n cap : Nat} {X : List P2} (h : w.ownsRow base e 2 (.slice (some ⟨g, 0, none⟩) n cap) n (flat encP X)) {m : Nat} (hm : m < n) (j : Nat) (hj : j < 2) : (w.cell? ⟨g, m * 2 + j, none⟩).isSome = true ∧ w.frozen? ⟨g, m * 2 + j, none⟩ = false := by
  refine ⟨?_, ?_⟩
  · rw [h.cellAt _ (by omega), List.getElem?_eq_getElem (by rw [h.1]; omega)]; rfl
  · obtain ⟨_, h2 | ⟨g', cap', cur, hv, e2, e3, e4⟩⟩ := h
    · exact absurd h2.1 (by simp)
    · simp only [Value.slice.injEq, Option.some.injEq, Addr.mk.injEq, and_true, true_and] at hv
      obtain ⟨rfl, rfl⟩ := hv
      simp [World.frozen?, e3]
/-- One round that keeps a place. -/
theorem fil_step {w1 wr wm : World} {p b c : Nat} {L X : List P2} {k a n : Int} {j m : Nat} {x : P2} {o : Obj} (hfs : FilSt k a n L j m X) (hx : L[j]? = some x) (hg : goP k a n x = false) (how : wm.ownsRow (p + 1) 30 2 (.slice (some ⟨b, 0, none⟩) L.length c) L.length (flat encP X)) (hmd : Mod [b] w1 wr) (hb : Below wr.heap.size wr wm) :
    FilSt k a n L (j + 1) (m + 1) (X.set m (mvP k a n x)) ∧ ((wm.alloc o).setCells b (m * 2) [.int .i64 (mvP k a n x).1, .int .i64 (mvP k a n x).2]).ownsRow (p + 1) 30 2 (.slice (some ⟨b, 0, none⟩) L.length c) L.length (flat encP (X.set m (mvP k a n x))) ∧
      Mod [b] w1 ((wm.alloc o).setCells b (m * 2) [.int .i64 (mvP k a n x).1, .int .i64 (mvP k a n x).2]) := by
  have hm := hfs.m_le
  have hj := (List.getElem?_eq_some_iff.1 hx).1
  refine ⟨hfs.keep hx hg, owns_setP (how.alloc _) (by omega) hfs.len.symm _ _, mod_setCells (hmd.then_below (below_allocs hb _)) (.inl (by simp)) _ _ _⟩
end Go.Proofs.Ytfadcmjdlfobhaa
