/- Blocks: as values, in memory; a slice of blocks that came in reads as a list of blocks. Conditions: none. -/
import Derived.Test.YtfadcmjdlfobhaaOpenS2
import Derived.Test.YtfadcmjdlfobhaaGr
import Derived.Test.YtfadcmjdlfobhaaOpenIn
import Derived.Deep.MidRow
namespace Go.Proofs.Ytfadcmjdlfobhaa
open Go.RowKit Go.ChangeShapes Go.WideShapes Go.Deep

structure Bk where
  id : Int
  ph : Int
  sr : Int
  sc : Int
  ir : Int
  ic : Int
  pr : Int
  pc : Int
  dr : Int
  dc : Int
  tr : Int
  tc : Int
  code : Int
  has : Bool
  cut : Bool
  dir : ByteArray
  line : ByteArray
def bkCells (c : Bk) : List Value := [.int .u64 c.id, .int .i64 c.ph, .int .i64 c.sr, .int .i64 c.sc, .int .i64 c.ir, .int .i64 c.ic, .int .i64 c.pr, .int .i64 c.pc, .int .i64 c.dr, .int .i64 c.dc, .int .i64 c.tr, .int .i64 c.tc, .int .i64 c.code, .bool c.has, .bool c.cut, .string c.dir, .string c.line]
theorem bkCells_len : ∀ c, (bkCells c).length = 17 := fun _ => rfl
theorem bkCells_one : ∀ c, ∀ v ∈ bkCells c, v.oneCell' = true := fun c v hv => by
  simp only [bkCells, List.mem_cons, List.not_mem_nil, or_false] at hv
  rcases hv with rfl | rfl | rfl | rfl | rfl | rfl | rfl | rfl | rfl | rfl | rfl | rfl | rfl | rfl | rfl | rfl | rfl <;> rfl
/-- The numbers of a block that are rows. -/
def bkOk (c : Bk) : Prop := okI c.sr ∧ okI c.pr
theorem co_block : Try.prog.cellsOf 72 = 17 := by kernel_rfl
theorem co_pos : Try.prog.cellsOf 30 = 2 := by kernel_rfl
theorem co_int : Try.prog.cellsOf 3 = 1 := by kernel_rfl
theorem co_u64 : Try.prog.cellsOf 63 = 1 := by kernel_rfl
theorem co_bool : Try.prog.cellsOf 4 = 1 := by kernel_rfl
theorem co_string : Try.prog.cellsOf 9 = 1 := by kernel_rfl
theorem info_block : (Try.prog.info? 72).map (·.size) = some 17 := by kernel_rfl
section
variable {H : Type} {enc : TypeId × Value → H} {w : World} {base : Nat} {spare : Nat → Bool} {held : Bool}
theorem int_of_trod {n : Nat} {v : Value} {x : DataW H × List MemPlace} (h : DataW.trod enc Try.prog w base spare held n 3 [v] = some x) : ∃ z : Int, v = .int .i64 z ∧ okI z := by
  obtain ⟨z, e, -, hw⟩ := DataW.trod_int Try.underlying3 h
  exact ⟨z, by simpa using e, okI_of_wf hw⟩
theorem pos_of_trod {n : Nat} {v0 v1 : Value} {x : DataW H × List MemPlace} (h : DataW.trod enc Try.prog w base spare held n 30 [v0, v1] = some x) : ∃ z y : Int, v0 = .int .i64 z ∧ v1 = .int .i64 y ∧ okI z := by
  obtain ⟨xs, m, _, _, _, hlen, hf⟩ := DataW.trod_struct Try.underlying30 h
  match xs, hlen with
  | [y0, y1], _ =>
    have h0 := hf 0 _ rfl
    have h1 := hf 1 _ rfl
    simp [co_int] at h0 h1
    obtain ⟨z, rfl, hz⟩ := int_of_trod h0
    obtain ⟨y, rfl, -⟩ := int_of_trod h1
    exact ⟨z, y, rfl, rfl, hz⟩
set_option maxRecDepth 100000 in
theorem block_of_trod {n : Nat} {cs : List Value} {x : DataW H × List MemPlace} (h : DataW.trod enc Try.prog w base spare held n 72 cs = some x) : ∃ c : Bk, cs = bkCells c ∧ bkOk c := by
  obtain ⟨xs, m, _, _, hl, hlen, hf⟩ := DataW.trod_struct Try.underlying72 h
  rw [co_block] at hl
  match cs, hl with
  | [v0, v1, v2, v3, v4, v5, v6, v7, v8, v9, v10, v11, v12, v13, v14, v15, v16], _ =>
    match xs, hlen with
    | [y0, y1, y2, y3, y4, y5, y6, y7, y8, y9, y10, y11], _ =>
      have h0 := hf 0 _ rfl
      have h1 := hf 1 _ rfl
      have h2 := hf 2 _ rfl
      have h3 := hf 3 _ rfl
      have h4 := hf 4 _ rfl
      have h5 := hf 5 _ rfl
      have h6 := hf 6 _ rfl
      have h7 := hf 7 _ rfl
      have h8 := hf 8 _ rfl
      have h9 := hf 9 _ rfl
      have h10 := hf 10 _ rfl
      have h11 := hf 11 _ rfl
      simp [co_int, co_u64, co_pos, co_bool, co_string] at h0 h1 h2 h3 h4 h5 h6 h7 h8 h9 h10 h11
      obtain ⟨z0, e0, -, -⟩ := DataW.trod_int Try.underlying63 h0
      obtain ⟨z1, rfl, -⟩ := int_of_trod h1
      obtain ⟨a2, b2, rfl, rfl, k2⟩ := pos_of_trod h2
      obtain ⟨a3, b3, rfl, rfl, -⟩ := pos_of_trod h3
      obtain ⟨a4, b4, rfl, rfl, k4⟩ := pos_of_trod h4
      obtain ⟨a5, b5, rfl, rfl, -⟩ := pos_of_trod h5
      obtain ⟨a6, b6, rfl, rfl, -⟩ := pos_of_trod h6
      obtain ⟨z7, rfl, -⟩ := int_of_trod h7
      obtain ⟨z8, e8, -, -⟩ := DataW.trod_bool Try.underlying4 h8
      obtain ⟨z9, e9, -, -⟩ := DataW.trod_bool Try.underlying4 h9
      obtain ⟨s10, e10, -, -⟩ := DataW.trod_string Try.underlying9 h10
      obtain ⟨s11, e11, -, -⟩ := DataW.trod_string Try.underlying9 h11
      simp at e0 e8 e9 e10 e11
      subst e0 e8 e9 e10 e11
      exact ⟨⟨z0, z1, a2, b2, a3, b3, a4, b4, a5, b5, a6, b6, z7, z8, z9, s10, s11⟩, rfl, k2, k4⟩
set_option maxRecDepth 100000 in
theorem open_blocks {b0 : Nat} {r : Reach} {v : Value} {d : DataW H} {p : List MemPlace} (hv : Value.okWide Try.prog w r b0 70 v) (h : DataW.Trod enc Try.prog w base spare held 70 v d p) :
    ∃ (A : Option Addr) (l : List Bk) (cap : Nat), v = .slice A l.length cap ∧ l.length ≤ 9223372036854775807 ∧ GrAt bkCells 17 w A l ∧ ∀ c ∈ l, bkOk c := by
  obtain ⟨A, len, cap, rfl, hl, hm, hc⟩ := open_elems Try.underlying70 (by rw [co_block]; decide) hv h
  unfold maxLen at hm
  rw [co_block] at hc
  rcases Nat.eq_zero_or_pos len with h0 | h0
  · subst h0
    exact ⟨A, [], cap, rfl, Nat.zero_le _, fun h => absurd h (by simp), fun c hc => by cases hc⟩
  · obtain ⟨b, off, rfl, hc2⟩ := hc h0
    obtain ⟨l, hll, hq⟩ := list_of_forall (Q := fun i (c : Bk) => (∀ j v, (bkCells c)[j]? = some v → w.cell? ⟨b, off + i * 17 + j, none⟩ = some v) ∧ bkOk c) len (fun i hi => by
      obtain ⟨cs, y, n, hcl, hat, htr⟩ := hc2 i hi
      obtain ⟨c, rfl, hk⟩ := block_of_trod htr
      refine ⟨c, fun j v hj => ?_, hk⟩
      have hj' := (List.getElem?_eq_some_iff.1 hj).1
      rw [bkCells_len] at hj'
      rw [hat j hj']; exact hj)
    subst hll
    refine ⟨_, l, cap, rfl, by omega, fun _ => ⟨b, off, rfl, fun i x hx => (hq i x hx).1⟩, fun c hc => ?_⟩
    obtain ⟨i, hi⟩ := List.mem_iff_getElem?.1 hc
    exact (hq i c hi).2
end
end Go.Proofs.Ytfadcmjdlfobhaa
