/- The program's blocks: what Take does to the newest block. Conditions: as stated. -/
import Derived.Test.YtgfaincejebogaaBlD
import Derived.Test.YtgfaincejebogaaShL
import Derived.Test.YtgfaincejebogaaRegL
namespace Go.Proofs.Ytgfaincejebogaa
open Go.RowKit

theorem setLast_snoc (l : List Ent) (E : Ent) (f : Ent → Ent) : setLast (l ++ [E]) f = l ++ [f E] := by
  simp [setLast]
theorem getLast_snoc (l : List Ent) (E : Ent) : (l ++ [E]).getLast? = some E := by simp
/-- The newest block is another. -/
theorem BlO.setEnt {w w' : World} {p b : Nat} {v : Value} {L : List (Nat × Ent)} {most ids : Int} {dir : ByteArray} {E E' : Ent} (h : BlO w p v (L ++ [(b, E)]) most ids dir) (hE : EntAt w' b E') (hok : EntOk E') (hm : Mod [b] w w') : BlO w' p v (L ++ [(b, E')]) most ids dir := by
  obtain ⟨k1, k2, k3, k4⟩ := h.ents (b, E) (by simp)
  have hp : p ∉ [b] := by simp; simp at k3; omega
  have hnd := h.nodup
  rw [List.map_append, List.nodup_append] at hnd
  refine ⟨hm.hold hp h.row, hm.cell hp h.most, hm.hold hp h.ids, hm.hold hp h.dir, ?_, fun x hx => ?_, ?_⟩
  · have := h.own.mod hm (fun g hg hx => by rw [List.mem_singleton.1 hx] at hg; exact k4 hg)
    simpa using this
  · rcases List.mem_append.1 hx with hx | hx
    · obtain ⟨j1, j2, j3, j4⟩ := h.ents x (by simp [hx])
      exact ⟨j1.mod hm (fun e => hnd.2.2 x.1 (List.mem_map_of_mem hx) b (by simp) (List.mem_singleton.1 e)), j2, j3, j4⟩
    · rw [List.mem_singleton.1 hx]
      exact ⟨hE, hok, k3, k4⟩
  · rw [List.map_append, List.nodup_append]
    exact hnd
theorem BlO.setDir {w : World} {p : Nat} {v : Value} {L : List (Nat × Ent)} {most ids : Int} {dir : ByteArray} (h : BlO w p v L most ids dir) (d : ByteArray) : BlO (w.setCell ⟨p, 3, none⟩ (.string d)) p v L most ids d ∧ Mod [p] w (w.setCell ⟨p, 3, none⟩ (.string d)) := by
  have hm : Mod [p] w (w.setCell ⟨p, 3, none⟩ (.string d)) := (Mod.refl _ _).setCell (.inl (by simp)) _
  have other : ∀ i u, i ≠ 3 → HoldAt w p i u → HoldAt (w.setCell ⟨p, 3, none⟩ (.string d)) p i u := fun i u hi hu =>
    ⟨(World.cell?_setCell_other _ _ _ _ (fun e => by injection e with e1 e2; omega)).trans hu.1, by rw [World.frozen?_setCell]; exact hu.2⟩
  exact ⟨⟨other 0 _ (by decide) h.row, (World.cell?_setCell_other _ _ _ _ (fun e => by injection e with e1 e2; omega)).trans h.most, other 2 _ (by decide) h.ids, set_self h.dir, h.own.setCell (fun g hg => by have := (h.own.lt g hg).1; omega) _, fun x hx => ⟨(h.ents x hx).1.mod hm (by have := (h.ents x hx).2.2.1; simp; omega), (h.ents x hx).2⟩, h.nodup⟩, hm⟩
theorem foot_snoc (p : Nat) (v : Value) (L : List (Nat × Ent)) (b : Nat) (E E' : Ent) : foot p v (L ++ [(b, E)]) = foot p v (L ++ [(b, E')]) := by simp [foot]
theorem mem_foot_last (p : Nat) (v : Value) (L : List (Nat × Ent)) (b : Nat) (E : Ent) : b ∈ foot p v (L ++ [(b, E)]) := by simp [foot]
theorem BlPost.of_below {w W : World} {p : Nat} {v : Value} {L : List (Nat × Ent)} {most : Int} {S : Bs} {e : Ending} {w' : World} (hb : Below w.heap.size w W) (h : BlPost W p v L most S e w') : BlPost w p v L most S e w' := by
  obtain ⟨h1, v', L', h2, h3, h4, h5⟩ := h
  refine ⟨h1, v', L', h2, h3, (Mod.of_below hb).trans h4 (fun g hg => .inl hg), fun g hg => ?_⟩
  rcases h5 g hg with h | h
  · exact .inl h
  · exact .inr (Nat.le_trans hb.size h)
/-- The newest block is another: the post. -/
theorem BlPost.ent {w w' : World} {p b : Nat} {v : Value} {L : List (Nat × Ent)} {mo ids : Int} {dir : ByteArray} {E E' : Ent} {S : Bs} (h : BlO w p v (L ++ [(b, E)]) mo ids dir) (hE : EntAt w' b E') (hok : EntOk E') (hm : Mod [b] w w') (hS : S.ids = ids ∧ S.dir = dir ∧ S.es = (L.map (·.2)) ++ [E']) :
    BlPost w p v (L ++ [(b, E)]) mo S (.returned (.tuple #[])) w' := by
  obtain ⟨s1, s2, s3⟩ := hS
  exact ⟨rfl, v, L ++ [(b, E')], by rw [s1, s2]; exact h.setEnt hE hok hm, by rw [s3]; simp, hm.mono (fun g hg => by rw [List.mem_singleton.1 hg]; exact mem_foot_last _ _ _ _ _), fun g hg => .inl (by rw [foot_snoc p v L b E E']; exact hg)⟩
theorem BlPost.same {w w' : World} {p : Nat} {v : Value} {L : List (Nat × Ent)} {mo ids : Int} {dir : ByteArray} {S : Bs} (h : BlO w p v L mo ids dir) (hb : Below w.heap.size w w') (hS : S.ids = ids ∧ S.dir = dir ∧ S.es = L.map (·.2)) : BlPost w p v L mo S (.returned (.tuple #[])) w' := by
  obtain ⟨s1, s2, s3⟩ := hS
  exact ⟨rfl, v, L, by rw [s1, s2]; exact h.below hb, s3.symm, Mod.of_below hb, fun g hg => .inl hg⟩
/-- The world that Take's switch begins in: the sign at s, the place at s + 1. -/
structure TkSt (W : World) (s : Nat) (x : Sg) (p : P2) : Prop where
  k : W.cell? ⟨s, 0, none⟩ = some (.int .i64 x.k)
  code : W.cell? ⟨s, 1, none⟩ = some (.int .i64 x.code)
  has : W.cell? ⟨s, 2, none⟩ = some (.bool x.has)
  text : W.cell? ⟨s, 3, none⟩ = some (.string x.text)
  r : W.cell? ⟨s + 1, 0, none⟩ = some (.int .i64 p.1)
  c : W.cell? ⟨s + 1, 1, none⟩ = some (.int .i64 p.2)
theorem TkSt.mod {W W' : World} {s : Nat} {x : Sg} {p : P2} {X : List Nat} (h : TkSt W s x p) (hm : Mod X W W') (h1 : s ∉ X) (h2 : s + 1 ∉ X) : TkSt W' s x p :=
  ⟨hm.cell h1 h.k, hm.cell h1 h.code, hm.cell h1 h.has, hm.cell h1 h.text, hm.cell h2 h.r, hm.cell h2 h.c⟩
def LaterOf (p : P2) (E : Ent) : P2 := laterP p E.last
theorem later_val (p q : P2) (w : World) : Calls Try.prog 20 #[.agg #[.int .i64 p.1, .int .i64 p.2], .agg #[.int .i64 q.1, .int .i64 q.2]] w fun e w' => e = .returned (.agg #[.int .i64 (laterP p q).1, .int .i64 (laterP p q).2]) ∧ Below w.heap.size w w' := by
  refine (Later_any p.1 p.2 q.1 q.2 w).mono fun e w' ⟨he, hb⟩ => ⟨?_, hb⟩
  rw [he]
  have e1 : lessB p.1 p.2 q.1 q.2 = ltP p q := rfl
  unfold laterP posV
  rw [e1]
  cases ltP p q <;> rfl
end Go.Proofs.Ytgfaincejebogaa
