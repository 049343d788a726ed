/- A slice of cells that came in reads as a list of cells. Conditions: none. -/
import Derived.Test.YtdfaldccopnoiaaOpenS2
import Derived.Test.YtdfaldccopnoiaaClA
namespace Go.Proofs.Ytdfaldccopnoiaa
open Go.RowKit Go.ChangeShapes Go.WideShapes Go.Deep
theorem co_cell : Try.prog.cellsOf 47 = 8 := by kernel_rfl
theorem co_attr : Try.prog.cellsOf 45 = 5 := by kernel_rfl
theorem co_color : Try.prog.cellsOf 43 = 2 := by kernel_rfl
theorem co_int : Try.prog.cellsOf 3 = 1 := by kernel_rfl
theorem co_int32 : Try.prog.cellsOf 21 = 1 := by kernel_rfl
theorem co_string : Try.prog.cellsOf 9 = 1 := by kernel_rfl
def clList (c : Cl) : List Value := [.int .i32 c.r, .string c.more, .int .i64 c.half, .int .i64 c.fk, .int .i64 c.fn, .int .i64 c.bk, .int .i64 c.bn, .int .i64 c.fl]
section
variable {H : Type} {enc : TypeId × Value → H} {w : World} {base : Nat} {spare : Nat → Bool} {held : Bool}
theorem int_of_trod {n : Nat} {v : Value} {x : DataW H × List MemPlace} (h : DataW.trod enc Try.prog w base spare held n 3 [v] = some x) : ∃ z : Int, v = .int .i64 z := by
  obtain ⟨z, e, -, -⟩ := DataW.trod_int Try.underlying3 h
  exact ⟨z, by simpa using e⟩
theorem color_of_trod {n : Nat} {v0 v1 : Value} {x : DataW H × List MemPlace} (h : DataW.trod enc Try.prog w base spare held n 43 [v0, v1] = some x) : ∃ z y : Int, v0 = .int .i64 z ∧ v1 = .int .i64 y := by
  obtain ⟨xs, m, _, _, _, hlen, hf⟩ := DataW.trod_struct Try.underlying43 h
  match xs, hlen with
  | [y0, y1], _ =>
    have h0 := hf 0 _ rfl
    have h1 := hf 1 _ rfl
    simp [co_int] at h0 h1
    obtain ⟨z, rfl⟩ := int_of_trod h0
    obtain ⟨y, rfl⟩ := int_of_trod h1
    exact ⟨z, y, rfl, rfl⟩
theorem attr_of_trod {n : Nat} {v0 v1 v2 v3 v4 : Value} {x : DataW H × List MemPlace} (h : DataW.trod enc Try.prog w base spare held n 45 [v0, v1, v2, v3, v4] = some x) : ∃ a b c d e : Int, v0 = .int .i64 a ∧ v1 = .int .i64 b ∧ v2 = .int .i64 c ∧ v3 = .int .i64 d ∧ v4 = .int .i64 e := by
  obtain ⟨xs, m, _, _, _, hlen, hf⟩ := DataW.trod_struct Try.underlying45 h
  match xs, hlen with
  | [y0, y1, y2], _ =>
    have h0 := hf 0 _ rfl
    have h1 := hf 1 _ rfl
    have h2 := hf 2 _ rfl
    simp [co_int, co_color] at h0 h1 h2
    obtain ⟨a, b, rfl, rfl⟩ := color_of_trod h0
    obtain ⟨c, d, rfl, rfl⟩ := color_of_trod h1
    obtain ⟨e, rfl⟩ := int_of_trod h2
    exact ⟨a, b, c, d, e, rfl, rfl, rfl, rfl, rfl⟩
set_option maxRecDepth 100000 in
theorem cell_of_trod {n : Nat} {cs : List Value} {x : DataW H × List MemPlace} (h : DataW.trod enc Try.prog w base spare held n 47 cs = some x) : ∃ c : Cl, cs = clList c := by
  obtain ⟨xs, m, _, _, hl, hlen, hf⟩ := DataW.trod_struct Try.underlying47 h
  rw [co_cell] at hl
  match cs, hl with
  | [v0, v1, v2, v3, v4, v5, v6, v7], _ =>
    match xs, hlen with
    | [y0, y1, y2, y3], _ =>
      have h0 := hf 0 _ rfl
      have h1 := hf 1 _ rfl
      have h2 := hf 2 _ rfl
      have h3 := hf 3 _ rfl
      simp [co_int, co_int32, co_string, co_attr] at h0 h1 h2 h3
      obtain ⟨z, e0, -, -⟩ := DataW.trod_int Try.underlying21 h0
      obtain ⟨s, e1, -, -⟩ := DataW.trod_string Try.underlying9 h1
      obtain ⟨hh, rfl⟩ := int_of_trod h2
      obtain ⟨a, b, c, d, e, rfl, rfl, rfl, rfl, rfl⟩ := attr_of_trod h3
      simp at e0 e1
      subst e0 e1
      exact ⟨⟨z, s, hh, a, b, c, d, e⟩, rfl⟩
set_option maxRecDepth 100000 in
theorem open_cells {b0 : Nat} {r : Reach} {v : Value} {d : DataW H} {p : List MemPlace} (hv : Value.okWide Try.prog w r b0 38 v) (h : DataW.Trod enc Try.prog w base spare held 38 v d p) :
    ∃ (A : Option Addr) (l : List Cl) (cap : Nat), v = .slice A l.length cap ∧ l.length ≤ 9223372036854775807 ∧ ClsAt w A l := by
  obtain ⟨A, len, cap, rfl, hl, hm, hc⟩ := open_elems Try.underlying38 (by rw [co_cell]; decide) hv h
  unfold maxLen at hm
  rw [co_cell] at hc
  rcases Nat.eq_zero_or_pos len with h0 | h0
  · subst h0
    exact ⟨A, [], cap, rfl, Nat.zero_le _, fun h => absurd h (by simp)⟩
  · obtain ⟨b, off, rfl, hc2⟩ := hc h0
    obtain ⟨l, hll, hq⟩ := list_of_forall (Q := fun i (c : Cl) => ClAt w b (off + i * 8) c) len (fun i hi => by
      obtain ⟨cs, y, n, hcl, hat, htr⟩ := hc2 i hi
      obtain ⟨c, rfl⟩ := cell_of_trod htr
      exact ⟨c, hat 0 (by omega), hat 1 (by omega), hat 2 (by omega), hat 3 (by omega), hat 4 (by omega), hat 5 (by omega), hat 6 (by omega), hat 7 (by omega)⟩)
    subst hll
    exact ⟨_, l, cap, rfl, by omega, fun _ => ⟨b, off, rfl, hq⟩⟩
end
end Go.Proofs.Ytdfaldccopnoiaa
