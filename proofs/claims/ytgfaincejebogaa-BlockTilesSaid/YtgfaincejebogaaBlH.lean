/- The program's blocks: evict. Conditions: as stated. -/
import Derived.Test.YtgfaincejebogaaBlG
namespace Go.Proofs.Ytgfaincejebogaa
open Go.RowKit

/-- One of the blocks is another. -/
theorem BlO.setAt {w w' : World} {p b i : Nat} {v : Value} {L : List (Nat × Ent)} {most ids : Int} {dir : ByteArray} {E E' : Ent} (h : BlO w p v L most ids dir) (hi : L[i]? = some (b, E)) (hE : EntAt w' b E') (hok : EntOk E') (hm : Mod [b] w w') : BlO w' p v (L.set i (b, E')) most ids dir := by
  have hlt := (List.getElem?_eq_some_iff.1 hi).1
  have hget := (List.getElem?_eq_some_iff.1 hi).2
  obtain ⟨k1, k2, k3, k4⟩ := h.ents (b, E) (List.mem_of_getElem? hi)
  have hp : p ∉ [b] := by simp; simp at k3; omega
  have hfst : (L.set i (b, E')).map (·.1) = L.map (·.1) := by
    rw [List.map_set]
    apply List.ext_getElem?
    intro j
    rw [List.getElem?_set]
    by_cases hij : i = j
    · subst hij
      rw [if_pos rfl, if_pos (by simpa using hlt), List.getElem?_map, hi]; rfl
    · rw [if_neg hij]
  have hmap : (L.set i (b, E')).map (fun x => Value.pointer (some ⟨x.1, 0, none⟩)) = L.map (fun x => Value.pointer (some ⟨x.1, 0, none⟩)) := by
    have := congrArg (List.map (fun b : Nat => Value.pointer (some ⟨b, 0, none⟩))) hfst
    simpa [List.map_map, Function.comp_def] using this
  refine ⟨hm.hold hp h.row, hm.cell hp h.most, hm.hold hp h.ids, hm.hold hp h.dir, ?_, fun x hx => ?_, by rw [hfst]; exact h.nodup⟩
  · rw [hmap]
    exact h.own.mod hm (fun g hg hx => by rw [List.mem_singleton.1 hx] at hg; exact k4 hg)
  · obtain ⟨j, hj⟩ := List.mem_iff_getElem?.1 hx
    rw [List.getElem?_set] at hj
    by_cases hij : i = j
    · rw [if_pos hij, if_pos hlt] at hj
      obtain rfl := Option.some.inj hj
      exact ⟨hE, hok, k3, k4⟩
    · rw [if_neg hij] at hj
      obtain ⟨j1, j2, j3, j4⟩ := h.ents x (List.mem_of_getElem? hj)
      refine ⟨j1.mod hm (fun e => ?_), j2, j3, j4⟩
      have e' := List.mem_singleton.1 e
      have hjl := (List.getElem?_eq_some_iff.1 hj).1
      have hjx := (List.getElem?_eq_some_iff.1 hj).2
      have hnd : (L.map (·.1)).Pairwise (· ≠ ·) := h.nodup
      rw [List.pairwise_iff_getElem] at hnd
      rcases Nat.lt_or_gt_of_ne hij with hl | hl
      · have := hnd i j (by simpa using hlt) (by simpa using hjl) hl
        simp only [List.getElem_map, hget, hjx] at this
        exact this e'.symm
      · have := hnd j i (by simpa using hjl) (by simpa using hlt) hl
        simp only [List.getElem_map, hget, hjx] at this
        exact this e'
theorem set_fst {L : List (Nat × Ent)} {i b : Nat} {E E' : Ent} (hi : L[i]? = some (b, E)) : (L.set i (b, E')).map (·.1) = L.map (·.1) := by
  have hlt := (List.getElem?_eq_some_iff.1 hi).1
  rw [List.map_set]
  apply List.ext_getElem?
  intro j
  rw [List.getElem?_set]
  by_cases hij : i = j
  · subst hij
    rw [if_pos rfl, if_pos (by simpa using hlt), List.getElem?_map, hi]; rfl
  · rw [if_neg hij]
def lenOf (w : World) (p : Nat) : Nat := match w.cell? ⟨p, 0, none⟩ with | some (.slice _ n _) => n | _ => 0
theorem lenOf_eq {w : World} {p n c : Nat} {A : Option Addr} (h : w.cell? ⟨p, 0, none⟩ = some (.slice A n c)) : lenOf w p = n := by simp [lenOf, h]
theorem BlO.lenOf {w : World} {p : Nat} {v : Value} {L : List (Nat × Ent)} {most ids : Int} {dir : ByteArray} (h : BlO w p v L most ids dir) : lenOf w p = L.length := by
  obtain ⟨A, c, hv, -⟩ := h.own.form
  have := h.row.1
  rw [hv] at this
  rw [lenOf_eq this, List.length_map]
theorem Lost_hid (p : P2) (k a n : Int) : Hid (∀ w : World, Calls Try.prog 41 #[.agg #[.int .i64 p.1, .int .i64 p.2], .agg #[.int .i64 k, .int .i64 a, .int .i64 n]] w fun e w' => e = .returned (.bool (lostP k a n p)) ∧ Below w.heap.size w w') := Lib.hid fun w => Lost_any p.1 p.2 k a n w
theorem LessP_hid (p q : P2) : Hid (∀ w : World, Calls Try.prog 39 #[.agg #[.int .i64 p.1, .int .i64 p.2], .agg #[.int .i64 q.1, .int .i64 q.2]] w fun e w' => e = .returned (.bool (ltP p q)) ∧ Below w.heap.size w w') := Lib.hid fun w => Less_any p.1 p.2 q.1 q.2 w
/-- What the first loop keeps. -/
def EvSt (W1 : World) (p : Nat) (v0 : Value) (L0 : List (Nat × Ent)) (most ids : Int) (dir : ByteArray) (k a n : Int) (wr : World) : Prop :=
  ∃ v L, BlO wr p v L most ids dir ∧ Mod [p] W1 wr ∧ evictL k a n (L0.map (·.2)) = evictL k a n (L.map (·.2)) ∧ (∀ g ∈ foot p v L, g ∈ foot p v0 L0)
theorem EvSt.below {W1 wr w' : World} {p : Nat} {v0 : Value} {L0 : List (Nat × Ent)} {most ids : Int} {dir : ByteArray} {k a n : Int} (h : EvSt W1 p v0 L0 most ids dir k a n wr) (hb : Below wr.heap.size wr w') : EvSt W1 p v0 L0 most ids dir k a n w' := by
  obtain ⟨v, L, h1, h2, h3⟩ := h
  exact ⟨v, L, h1.below hb, h2.then_below hb, h3⟩
/-- Behind the first loop. -/
def EvEnd (W1 : World) (p : Nat) (v0 : Value) (L0 : List (Nat × Ent)) (most ids : Int) (dir : ByteArray) (k a n : Int) (wr : World) : Prop :=
  ∃ v L, BlO wr p v L most ids dir ∧ Mod [p] W1 wr ∧ evictL k a n (L0.map (·.2)) = L.map (·.2) ∧ (∀ g ∈ foot p v L, g ∈ foot p v0 L0)
end Go.Proofs.Ytgfaincejebogaa
