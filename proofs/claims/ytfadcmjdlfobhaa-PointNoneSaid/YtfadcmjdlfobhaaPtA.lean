/- The program's store of points: what it is in memory; New, right, Len, Places, List. Conditions: as stated. -/
import Derived.Test.YtfadcmjdlfobhaaModA
import Derived.Test.YtfadcmjdlfobhaaShSort
import Derived.Test.YtfadcmjdlfobhaaPtPl2
import Derived.Test.YtfadcmjdlfobhaaRegL
import Derived.Deep.QuietTactic
import Derived.BigQuiet
namespace Go.Proofs.Ytfadcmjdlfobhaa
open Go.RowKit

def rightP (p : P2) : Bool := inB p.1 && inB p.2
theorem row_form {w : World} {base n : Nat} {e : TypeId} {v : Value} {xs : List Value} {size : Nat} (h : w.ownsRow base e size v n xs) : ∃ A c, v = .slice A n c := by
  rcases h.2 with ⟨rfl, rfl⟩ | ⟨g, cap, cur, rfl, _⟩
  · exact ⟨none, 0, rfl⟩
  · exact ⟨_, cap, rfl⟩
/-- The store at p: its points L, how many there may be; F: its blocks. -/
def PtSt (w : World) (p : Nat) (F : List Nat) (most : Int) (L : List P2) : Prop :=
  ∃ v : Value, F = p :: v.ownBlock.toList ∧ (w.cell? ⟨p, 0, none⟩ = some v ∧ w.frozen? ⟨p, 0, none⟩ = false) ∧ w.cell? ⟨p, 1, none⟩ = some (.int .i64 most) ∧ w.ownsRow (p + 1) 30 2 v L.length (flat encP L)
theorem PtSt.lt {w : World} {p : Nat} {F : List Nat} {most : Int} {L : List P2} (h : PtSt w p F most L) : ∀ g ∈ F, g < w.heap.size := by
  obtain ⟨v, rfl, h0, -, ho⟩ := h
  intro g hg
  rcases List.mem_cons.1 hg with rfl | hg
  · exact lt_of_cell h0.1
  · exact (ho.lt g (by simpa [Option.mem_toList] using hg)).2
theorem PtSt.mem {w : World} {p : Nat} {F : List Nat} {most : Int} {L : List P2} (h : PtSt w p F most L) : p ∈ F := by
  obtain ⟨v, rfl, -⟩ := h; simp
theorem PtSt.mod {w w' : World} {p : Nat} {F X : List Nat} {most : Int} {L : List P2} (h : PtSt w p F most L) (hm : Mod X w w') (hX : ∀ g ∈ F, g ∉ X) : PtSt w' p F most L := by
  obtain ⟨v, rfl, h0, h1, ho⟩ := h
  have hp := hX p (by simp)
  exact ⟨v, rfl, hm.hold hp h0, hm.cell hp h1, owns_mod ho hm (fun g hg => hX g (by simp [hg]))⟩
theorem PtSt.below {w w' : World} {p : Nat} {F : List Nat} {most : Int} {L : List P2} (h : PtSt w p F most L) (hb : Below w.heap.size w w') : PtSt w' p F most L :=
  h.mod (Mod.of_below (X := []) hb) (fun _ _ h => by cases h)
set_option maxHeartbeats 800000 in
theorem ptright_any (r c : Int) (w : World) :
    Calls Try.prog 48 #[.agg #[.int .i64 r, .int .i64 c]] w fun e w' => e = .returned (.bool (inB r && inB c)) ∧ Below w.heap.size w w' := by
  rcases (show r < 0 ∨ (0 ≤ r ∧ 1099511627776 < r) ∨ (0 ≤ r ∧ r ≤ 1099511627776 ∧ c < 0) ∨ (0 ≤ r ∧ r ≤ 1099511627776 ∧ 0 ≤ c) by omega) with h1 | ⟨h1, h2⟩ | ⟨h1, h2, h3⟩ | ⟨h1, h2, h3⟩
  · have e : (inB r && inB c) = false := by simp [inB]; omega
    rw [e]; clear e
    go_enter Try.func48, Try.ntmps48
    go_wp2
    go_ret
    exact ⟨by simp, below_allocs (Below.refl _ _) _⟩
  · have e : (inB r && inB c) = false := by simp [inB]; omega
    rw [e]; clear e
    go_enter Try.func48, Try.ntmps48
    go_wp2
    go_ret
    exact ⟨by simp, below_allocs (Below.refl _ _) _⟩
  · have e : (inB r && inB c) = false := by simp [inB]; omega
    rw [e]; clear e
    go_enter Try.func48, Try.ntmps48
    go_wp2
    go_ret
    exact ⟨by simp, below_allocs (Below.refl _ _) _⟩
  · have e : (inB r && inB c) = decide (c ≤ 1099511627776) := by simp [inB, h1, h2, h3]
    rw [e]; clear e
    go_enter Try.func48, Try.ntmps48
    go_wp2
    go_ret
    exact ⟨by simp, below_allocs (Below.refl _ _) _⟩
set_option maxHeartbeats 800000 in
theorem PtLen_any (p : Nat) (F : List Nat) (most : Int) (L : List P2) (w : World) (h : PtSt w p F most L) :
    Calls Try.prog 17 #[.pointer (some ⟨p, 0, none⟩)] w fun e w' => e = .returned (.int .i64 (L.length : Nat)) ∧ w = w' := by
  obtain ⟨v, -, ⟨h0, -⟩, -, ho⟩ := h
  obtain ⟨A, c, rfl⟩ := row_form ho
  clear ho
  go_enter Try.func17, Try.ntmps17
  go_wp2
  go_ret
  exact ⟨rfl, rfl⟩
/-- A new row of places. -/
def PosPost (w : World) (L : List P2) (e : Ending) (w' : World) : Prop := ∃ v : Value, e = .returned v ∧ w'.ownsRow w.heap.size 30 2 v L.length (flat encP L) ∧ Below w.heap.size w w'
set_option maxRecDepth 100000 in
set_option maxHeartbeats 1600000 in
theorem PtPlaces_any (p : Nat) (F : List Nat) (most : Int) (L : List P2) (w : World) (h : PtSt w p F most L) (hz : L.length ≤ 1000000) :
    Calls Try.prog 21 #[.pointer (some ⟨p, 0, none⟩)] w (PosPost w L) := by
  obtain ⟨j0, hj, gz0, gz1, gz2⟩ := info_parts info_pos
  obtain ⟨v, -, ⟨h0, -⟩, -, ho⟩ := h
  rcases Nat.eq_zero_or_pos L.length with hl | hl
  · obtain rfl : L = [] := List.length_eq_zero_iff.1 hl
    obtain ⟨A, c, rfl⟩ := row_form ho
    clear ho
    go_enter Try.func21, Try.ntmps21
    go_wp2_with (at_builtin; refine wpList_append_nothing rfl (.const (.slice none 0 0)) (.tmp 8) _ rfl Try.underlying40 hj A c rfl rfl ?_)
    go_ret
    exact ⟨.slice none 0 0, rfl, World.ownsRow_nil _ _ _ _, Below.refl _ _⟩
  · obtain ⟨A, c, rfl, -, -, -, hg⟩ := gr_of_owns encP_len ho rfl
    obtain ⟨b, off, rfl, -⟩ := hg hl
    have HN := Lib.hid (hg.news encP_len)
    clear hg ho
    go_enter Try.func21, Try.ntmps21
    go_wp2_with (at_builtin; refine wpList_append_own _ rfl (.const (.slice none 0 0)) (.tmp 8) _ rfl w.heap.size 30 j0 (.agg #[.int .i64 0, .int .i64 0]) 2 16 Try.underlying40 hj gz0 gz1 gz2 rfl (by decide) _ 0 [] rfl (World.ownsRow_nil _ _ _ _) ⟨b, off, none⟩ L.length c (flat encP L) rfl (flat_len encP_len L) HN.out (flat_one encP_one L) (by simp only [maxLen]; omega) (by omega) (Nat.le_refl _) ?_; intro v1 w1 hown1 hg1 _; have HG := Lib.hid hg1; clear hg1; rw [Nat.zero_add, List.nil_append] at hown1; have HO := Lib.hid hown1; clear hown1)
    go_ret
    exact ⟨_, rfl, HO.out, (Below.refl _ _).grown HG.out (Nat.le_refl _) (fun k hk => by cases hk)⟩
set_option maxRecDepth 100000 in
set_option maxHeartbeats 1600000 in
theorem PtList_any (p : Nat) (F : List Nat) (most : Int) (L : List P2) (w : World) (h : PtSt w p F most L) (hz : L.length ≤ 1000000) :
    Calls Try.prog 19 #[.pointer (some ⟨p, 0, none⟩)] w (PosPost w (sortP L)) := by
  have HP := Lib.hid (PtPlaces_any p F most L w h hz)
  have hsl := Lib.hid (sortP_len L)
  have HS : Hid (∀ (A : Option Addr) (ca : Nat) (W : World), GrAt encP 2 W A L → Calls Try.prog 47 #[.slice A L.length ca] W (SortPost W L.length (sortP L))) := Lib.hid fun A ca W hg => Sort_any A L ca W hg hz
  clear h
  generalize sortP L = s at HS hsl ⊢
  go_enter Try.func19, Try.ntmps19
  go_wp2_with (first
    | (go_at_call 21; refine HP.out.mono ?_; rintro e w1 ⟨v, rfl, ho, hb1⟩; obtain ⟨A1, c1, rfl, -, -, -, hg⟩ := gr_of_owns encP_len ho rfl; have HG := Lib.hid hg; clear ho hg)
    | (go_at_call 47; refine (HS.out _ _ _ HG.out).mono ?_; rintro e w2 ⟨v2, rfl, ho2, hb2⟩; rw [← hsl.out] at ho2; have HO2 := Lib.hid ho2; clear ho2))
  go_ret
  obtain ⟨h1, h2 | ⟨g, cap, cur, e1, e2, e3⟩⟩ := HO2.out
  · exact ⟨_, rfl, ⟨h1, .inl h2⟩, below_tail hb1 hb2⟩
  · exact ⟨_, rfl, ⟨h1, .inr ⟨g, cap, cur, e1, Nat.le_trans hb1.size e2, e3⟩⟩, below_tail hb1 hb2⟩
end Go.Proofs.Ytfadcmjdlfobhaa
