/- The document's blocks: a fact's field set. Conditions: as stated. -/
import Derived.Test.YtgfaincejebogaaRbE
namespace Go.Proofs.Ytgfaincejebogaa
open Go.RowKit

theorem owns_set1 {w : World} {base g : Nat} {e : TypeId} {size n cap : Nat} {xs : List Value} (h : w.ownsRow base e size (.slice (some ⟨g, 0, none⟩) n cap) n xs) (o : Nat) (v : Value) :
    (w.setCell ⟨g, o, none⟩ v).ownsRow base e size (.slice (some ⟨g, 0, none⟩) n cap) n (xs.set o v) := by
  obtain ⟨h1, h2 | ⟨g', cap', cur, hv, e2, e3, e4, e5, e6, e7⟩⟩ := h
  · exact absurd h2.1 (by simp)
  · simp only [Value.slice.injEq, Option.some.injEq, Addr.mk.injEq, and_true, true_and] at hv
    obtain ⟨rfl, rfl⟩ := hv
    refine ⟨by simpa using h1, .inr ⟨g, cap, cur.setIfInBounds o v, rfl, e2, heap_setCell_eq e3, e4, e5, by simpa using e6, ?_⟩⟩
    rw [← e7, Array.toList_setIfInBounds]
    rw [List.take_set]
theorem owns_hold {w : World} {base g : Nat} {e : TypeId} {size n cap : Nat} {xs : List Value} (h : w.ownsRow base e size (.slice (some ⟨g, 0, none⟩) n cap) n xs) {i : Nat} {v : Value} (hi : xs[i]? = some v) : HoldAt w g i v := by
  obtain ⟨-, h2 | ⟨g', cap', cur, hv, -, e3, -, -, -, e7⟩⟩ := h
  · exact absurd h2.1 (by simp)
  · simp only [Value.slice.injEq, Option.some.injEq, Addr.mk.injEq, and_true, true_and] at hv
    obtain ⟨rfl, rfl⟩ := hv
    refine at_ e3 i v ?_
    rw [← e7, List.getElem?_take] at hi
    split at hi
    · simpa using hi
    · cases hi
theorem flat_at1 {α : Type} {enc : α → List Value} {K : Nat} (hl : ∀ x, (enc x).length = K) : ∀ (X : List α) (k : Nat) (x : α) (j : Nat), X[k]? = some x → j < K → (flat enc X)[k * K + j]? = (enc x)[j]?
  | [], k, x, j, h, _ => by simp at h
  | y :: X, 0, x, j, h, hj => by
    obtain rfl : y = x := by simpa using h
    have e : flat enc (y :: X) = enc y ++ flat enc X := rfl
    rw [e, Nat.zero_mul, Nat.zero_add, List.getElem?_append_left (by rw [hl]; exact hj)]
  | y :: X, k + 1, x, j, h, hj => by
    have e : flat enc (y :: X) = enc y ++ flat enc X := rfl
    rw [e, List.getElem?_append_right (by rw [hl, Nat.add_mul]; omega), hl, show (k + 1) * K + j - K = k * K + j by rw [Nat.add_mul]; omega]
    exact flat_at1 hl X k x j (by simpa using h) hj
theorem flat_set1 {α : Type} {enc : α → List Value} {K : Nat} (hl : ∀ x, (enc x).length = K) : ∀ (X : List α) (k : Nat) (x x' : α) (j : Nat) (v : Value), X[k]? = some x → j < K → (enc x).set j v = enc x' → (flat enc X).set (k * K + j) v = flat enc (X.set k x')
  | [], k, x, x', j, v, h, _, _ => by simp at h
  | y :: X, 0, x, x', j, v, h, hj, he => by
    obtain rfl : y = x := by simpa using h
    have e : flat enc (y :: X) = enc y ++ flat enc X := rfl
    have e2 : flat enc ((y :: X).set 0 x') = enc x' ++ flat enc X := rfl
    rw [e, e2, Nat.zero_mul, Nat.zero_add, List.set_append_left _ _ (by rw [hl]; exact hj), he]
  | y :: X, k + 1, x, x', j, v, h, hj, he => by
    have e : flat enc (y :: X) = enc y ++ flat enc X := rfl
    have e2 : flat enc ((y :: X).set (k + 1) x') = enc y ++ flat enc (X.set k x') := rfl
    rw [e, e2, List.set_append_right _ _ (by rw [hl, Nat.add_mul]; omega), hl, show (k + 1) * K + j - K = k * K + j by rw [Nat.add_mul]; omega, flat_set1 hl X k x x' j v (by simpa using h) hj he]
theorem RbO.setFc {w : World} {q g n c k j : Nat} {vM v : Value} {M : List Mk} {F : List Fc} {most ids : Int} {dir : ByteArray} {f f' : Fc} (h : RbO w q vM (.slice (some ⟨g, 0, none⟩) n c) M F most ids dir) (hn : n = F.length) (hk : F[k]? = some f) (hj : j < 6) (he : (encFc f).set j v = encFc f') :
    RbO (w.setCell ⟨g, k * 6 + j, none⟩ v) q vM (.slice (some ⟨g, 0, none⟩) n c) M (F.set k f') most ids dir ∧ Mod [g] w (w.setCell ⟨g, k * 6 + j, none⟩ v) := by
  subst hn
  have hm : Mod [g] w (w.setCell ⟨g, k * 6 + j, none⟩ v) := (Mod.refl _ _).setCell (.inl (by simp)) _
  have hg := h.ownF.lt g rfl
  have hq : q ∉ [g] := by simp; omega
  refine ⟨⟨hm.cell hq h.most, hm.hold hq h.m, hm.hold hq h.f, hm.hold hq h.ids, hm.hold hq h.dir, ownsRow_setCell_other h.ownM (owns_tag h.ownF h.ownM (by decide) g rfl) _, ?_⟩, hm⟩
  have h1 := owns_set1 h.ownF (k * 6 + j) v
  rw [flat_set1 encFc_len F k f f' j v hk hj he] at h1
  rw [List.length_set]
  exact h1
end Go.Proofs.Ytgfaincejebogaa
