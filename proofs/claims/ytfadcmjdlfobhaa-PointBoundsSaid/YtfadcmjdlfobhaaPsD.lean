/- Rows that calls yield, in a region that draws its order; contracts of both stores. Conditions: as stated. -/
import Derived.Test.YtfadcmjdlfobhaaPsB
import Derived.Test.YtfadcmjdlfobhaaPsC
import Derived.Test.YtfadcmjdlfobhaaPrC
namespace Go.Proofs.Ytfadcmjdlfobhaa
open Go.RowKit Go.Sort

def IsRow (n : Nat) (v : Value) : Prop := ∃ A c, v = .slice A n c
def GrV (L : List P2) : Value → World → Prop
  | .slice A _ _, w => GrAt encP 2 w A L
  | _, _ => False
theorem GrV.pers (L : List P2) (v : Value) : Pers (GrV L v) := fun w w' h hb => by
  cases v <;> first | exact GrAt.below h hb | exact h.elim
def RowPost (n : Nat) (L : List P2) (w : World) (e : Ending) (w' : World) : Prop := ∃ v, e = .returned v ∧ (IsRow n v ∧ GrV L v w') ∧ Below w.heap.size w w'
theorem rowPost_of {n : Nat} {L : List P2} {w : World} {e : Ending} {w' : World} (h : PosPost w L e w') (hn : L.length = n) : RowPost n L w e w' := by
  obtain ⟨v, rfl, ho, hb⟩ := h
  obtain ⟨A, c, rfl, -, -, -, hg⟩ := gr_of_owns encP_len ho rfl
  exact ⟨_, rfl, ⟨⟨A, c, by rw [hn]⟩, hg⟩, hb⟩
/-- What both stores answer. -/
structure Answers (p q : Nat) (L : List P2) (w3 : World) : Prop where
  len : ∀ w', Below w3.heap.size w3 w' → Calls Try.prog 17 #[.pointer (some ⟨p, 0, none⟩)] w' fun e w'' => e = .returned (.int .i64 (L.length : Nat)) ∧ Below w'.heap.size w' w''
  list : ∀ w', Below w3.heap.size w3 w' → Calls Try.prog 19 #[.pointer (some ⟨p, 0, none⟩)] w' (RowPost L.length (sortP L) w')
  rlist : ∀ w', Below w3.heap.size w3 w' → Calls Try.prog 20 #[.pointer (some ⟨q, 0, none⟩)] w' (RowPost L.length (sortP L) w')
  places : ∀ w', Below w3.heap.size w3 w' → Calls Try.prog 21 #[.pointer (some ⟨p, 0, none⟩)] w' (RowPost L.length L w')
  rplaces : ∀ w', Below w3.heap.size w3 w' → Calls Try.prog 22 #[.pointer (some ⟨q, 0, none⟩)] w' (RowPost L.length L w')
  cell : ∃ A c, w3.cell? ⟨q, 2, none⟩ = some (.slice A L.length c)
theorem Bo.answers {B p q mo N : Nat} {L : List P2} {w0 w3 : World} (h : Bo B p q mo N L w0 w3) (hm : mo ≤ 30) (hN : N ≤ 100) : Answers p q L w3 := by
  obtain ⟨next, M, ⟨F, G, hpt, hpr, -⟩, -, hp, -, hl, hn0, hn⟩ := h
  obtain ⟨n, rfl⟩ := Int.eq_ofNat_of_zero_le hn0
  have hML := hp.len
  refine ⟨fun w' hb => ?_, fun w' hb => ?_, fun w' hb => ?_, fun w' hb => ?_, fun w' hb => ?_, ?_⟩
  · exact (PtLen_any p F mo L w' (hpt.below hb)).mono fun e w2 ⟨he, hw⟩ => ⟨he, by rw [hw]; exact Below.refl _ _⟩
  · exact (PtList_any p F mo L w' (hpt.below hb) (by omega)).mono fun e w2 h => rowPost_of h (sortP_len L)
  · have := PrList_any q G mo n M w' (hpr.below hb) (by omega)
    rw [hp.list] at this
    exact this.mono fun e w2 h => rowPost_of h (sortP_len L)
  · exact (PtPlaces_any p F mo L w' (hpt.below hb) (by omega)).mono fun e w2 h => rowPost_of h rfl
  · have := PrPlaces_any q G mo n M w' (hpr.below hb) (by omega) (by omega)
    rw [hp.places] at this
    exact this.mono fun e w2 h => rowPost_of h rfl
  · obtain ⟨v, -, -, -, h2, ho⟩ := hpr
    obtain ⟨A, c, rfl⟩ := row_form ho
    exact ⟨A, c, by rw [← hML]; exact h2.1⟩
theorem places_rows (n : Nat) (L : List P2) (X Y : Option Addr) (cx cy : Nat) (w : World) (hX : GrV L (.slice X n cx) w) (hY : GrV L (.slice Y n cy) w) (hn : L.length = n) (hz : n ≤ 1000000) :
    Calls Try.prog 18 #[.slice X n cx, .slice Y n cy] w (TruePost w) := by
  subst hn
  exact Places_same X Y L cx cy w hX hY hz
end Go.Proofs.Ytfadcmjdlfobhaa
