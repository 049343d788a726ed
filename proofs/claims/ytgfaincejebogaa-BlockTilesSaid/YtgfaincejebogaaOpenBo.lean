/- Structs that came in, opened (printed by tools/gen_open.py). Conditions: none. -/
import Derived.Test.YtgfaincejebogaaOpenS2
import Derived.Test.YtgfaincejebogaaGr
import Derived.Test.YtgfaincejebogaaOkI
import Derived.Test.YtgfaincejebogaaBsA
namespace Go.Proofs.Ytgfaincejebogaa
open Go.RowKit Go.ChangeShapes Go.WideShapes Go.Deep

theorem coOpenBo_bool : Try.prog.cellsOf 4 = 1 := by kernel_rfl
theorem coOpenBo_int : Try.prog.cellsOf 3 = 1 := by kernel_rfl
theorem coOpenBo_string : Try.prog.cellsOf 9 = 1 := by kernel_rfl
theorem coOpenBo_Sgn : Try.prog.cellsOf 33 = 4 := by kernel_rfl
theorem coOpenBo_Ps : Try.prog.cellsOf 24 = 2 := by kernel_rfl
theorem coOpenBo_Shf : Try.prog.cellsOf 35 = 3 := by kernel_rfl
theorem coOpenBo_Oq : Try.prog.cellsOf 37 = 9 := by kernel_rfl
structure Sgn where
  k : Int
  code : Int
  has : Bool
  text : ByteArray
def encSgn (c : Sgn) : List Value := [.int .i64 c.k, .int .i64 c.code, .bool c.has, .string c.text]
theorem encSgn_len : ∀ c, (encSgn c).length = 4 := fun _ => rfl
theorem encSgn_one : ∀ c, ∀ v ∈ encSgn c, v.oneCell' = true := fun c v hv => by
  simp only [encSgn, List.mem_cons, List.not_mem_nil, or_false] at hv
  rcases hv with rfl | rfl | rfl | rfl <;> rfl
def okSgn (c : Sgn) : Prop := okI c.k ∧ okI c.code
structure Ps where
  r : Int
  c : Int
def encPs (c : Ps) : List Value := [.int .i64 c.r, .int .i64 c.c]
theorem encPs_len : ∀ c, (encPs c).length = 2 := fun _ => rfl
theorem encPs_one : ∀ c, ∀ v ∈ encPs c, v.oneCell' = true := fun c v hv => by
  simp only [encPs, List.mem_cons, List.not_mem_nil, or_false] at hv
  rcases hv with rfl | rfl <;> rfl
def okPs (c : Ps) : Prop := okI c.r ∧ okI c.c
structure Shf where
  k : Int
  a : Int
  n : Int
def encShf (c : Shf) : List Value := [.int .i64 c.k, .int .i64 c.a, .int .i64 c.n]
theorem encShf_len : ∀ c, (encShf c).length = 3 := fun _ => rfl
theorem encShf_one : ∀ c, ∀ v ∈ encShf c, v.oneCell' = true := fun c v hv => by
  simp only [encShf, List.mem_cons, List.not_mem_nil, or_false] at hv
  rcases hv with rfl | rfl | rfl <;> rfl
def okShf (c : Shf) : Prop := okI c.k ∧ okI c.a ∧ okI c.n
structure Oq where
  g_k : Int
  g_code : Int
  g_has : Bool
  g_text : ByteArray
  p_r : Int
  p_c : Int
  s_k : Int
  s_a : Int
  s_n : Int
def encOq (c : Oq) : List Value := [.int .i64 c.g_k, .int .i64 c.g_code, .bool c.g_has, .string c.g_text, .int .i64 c.p_r, .int .i64 c.p_c, .int .i64 c.s_k, .int .i64 c.s_a, .int .i64 c.s_n]
theorem encOq_len : ∀ c, (encOq c).length = 9 := fun _ => rfl
theorem encOq_one : ∀ c, ∀ v ∈ encOq c, v.oneCell' = true := fun c v hv => by
  simp only [encOq, List.mem_cons, List.not_mem_nil, or_false] at hv
  rcases hv with rfl | rfl | rfl | rfl | rfl | rfl | rfl | rfl | rfl <;> rfl
def okOq (c : Oq) : Prop := okI c.g_k ∧ okI c.g_code ∧ okI c.p_r ∧ okI c.p_c ∧ okI c.s_k ∧ okI c.s_a ∧ okI c.s_n
section
variable {H : Type} {enc : TypeId × Value → H} {w : World} {base : Nat} {spare : Nat → Bool} {held : Bool}
set_option maxRecDepth 100000 in
theorem Sgn_of_trod {n : Nat} {cs : List Value} {x : DataW H × List MemPlace} (h : DataW.trod enc Try.prog w base spare held n 33 cs = some x) : ∃ c : Sgn, cs = encSgn c ∧ okSgn c := by
  obtain ⟨xs, m, _, _, hl, hlen, hf⟩ := DataW.trod_struct Try.underlying33 h
  rw [coOpenBo_Sgn] at hl
  match cs, hl with
  | [v0, v1, v2, v3], _ =>
    match xs, hlen with
    | [y0, y1, y2, y3], _ =>
      have h0 := hf 0 _ rfl
      have h1 := hf 1 _ rfl
      have h2 := hf 2 _ rfl
      have h3 := hf 3 _ rfl
      simp [coOpenBo_bool, coOpenBo_int, coOpenBo_string] at h0 h1 h2 h3
      obtain ⟨z0, e0, -, hw0⟩ := DataW.trod_int Try.underlying3 h0
      simp at e0
      subst e0
      obtain ⟨z1, e1, -, hw1⟩ := DataW.trod_int Try.underlying3 h1
      simp at e1
      subst e1
      obtain ⟨z2, e2, -, -⟩ := DataW.trod_bool Try.underlying4 h2
      simp at e2
      subst e2
      obtain ⟨z3, e3, -, -⟩ := DataW.trod_string Try.underlying9 h3
      simp at e3
      subst e3
      exact ⟨⟨z0, z1, z2, z3⟩, rfl, ⟨okI_of_wf hw0, okI_of_wf hw1⟩⟩
set_option maxRecDepth 100000 in
theorem Ps_of_trod {n : Nat} {cs : List Value} {x : DataW H × List MemPlace} (h : DataW.trod enc Try.prog w base spare held n 24 cs = some x) : ∃ c : Ps, cs = encPs c ∧ okPs c := by
  obtain ⟨xs, m, _, _, hl, hlen, hf⟩ := DataW.trod_struct Try.underlying24 h
  rw [coOpenBo_Ps] at hl
  match cs, hl with
  | [v0, v1], _ =>
    match xs, hlen with
    | [y0, y1], _ =>
      have h0 := hf 0 _ rfl
      have h1 := hf 1 _ rfl
      simp [coOpenBo_int] at h0 h1
      obtain ⟨z0, e0, -, hw0⟩ := DataW.trod_int Try.underlying3 h0
      simp at e0
      subst e0
      obtain ⟨z1, e1, -, hw1⟩ := DataW.trod_int Try.underlying3 h1
      simp at e1
      subst e1
      exact ⟨⟨z0, z1⟩, rfl, ⟨okI_of_wf hw0, okI_of_wf hw1⟩⟩
set_option maxRecDepth 100000 in
theorem Shf_of_trod {n : Nat} {cs : List Value} {x : DataW H × List MemPlace} (h : DataW.trod enc Try.prog w base spare held n 35 cs = some x) : ∃ c : Shf, cs = encShf c ∧ okShf c := by
  obtain ⟨xs, m, _, _, hl, hlen, hf⟩ := DataW.trod_struct Try.underlying35 h
  rw [coOpenBo_Shf] at hl
  match cs, hl with
  | [v0, v1, v2], _ =>
    match xs, hlen with
    | [y0, y1, y2], _ =>
      have h0 := hf 0 _ rfl
      have h1 := hf 1 _ rfl
      have h2 := hf 2 _ rfl
      simp [coOpenBo_int] at h0 h1 h2
      obtain ⟨z0, e0, -, hw0⟩ := DataW.trod_int Try.underlying3 h0
      simp at e0
      subst e0
      obtain ⟨z1, e1, -, hw1⟩ := DataW.trod_int Try.underlying3 h1
      simp at e1
      subst e1
      obtain ⟨z2, e2, -, hw2⟩ := DataW.trod_int Try.underlying3 h2
      simp at e2
      subst e2
      exact ⟨⟨z0, z1, z2⟩, rfl, ⟨okI_of_wf hw0, okI_of_wf hw1, okI_of_wf hw2⟩⟩
set_option maxRecDepth 100000 in
theorem Oq_of_trod {n : Nat} {cs : List Value} {x : DataW H × List MemPlace} (h : DataW.trod enc Try.prog w base spare held n 37 cs = some x) : ∃ c : Oq, cs = encOq c ∧ okOq c := by
  obtain ⟨xs, m, _, _, hl, hlen, hf⟩ := DataW.trod_struct Try.underlying37 h
  rw [coOpenBo_Oq] at hl
  match cs, hl with
  | [v0, v1, v2, v3, v4, v5, v6, v7, v8], _ =>
    match xs, hlen with
    | [y0, y1, y2], _ =>
      have h0 := hf 0 _ rfl
      have h1 := hf 1 _ rfl
      have h2 := hf 2 _ rfl
      simp [coOpenBo_Ps, coOpenBo_Sgn, coOpenBo_Shf] at h0 h1 h2
      obtain ⟨s0, e0, k0⟩ := Sgn_of_trod h0
      simp only [encSgn, List.cons.injEq, and_true] at e0
      obtain ⟨rfl, rfl, rfl, rfl⟩ := e0
      obtain ⟨s1, e1, k1⟩ := Ps_of_trod h1
      simp only [encPs, List.cons.injEq, and_true] at e1
      obtain ⟨rfl, rfl⟩ := e1
      obtain ⟨s2, e2, k2⟩ := Shf_of_trod h2
      simp only [encShf, List.cons.injEq, and_true] at e2
      obtain ⟨rfl, rfl, rfl⟩ := e2
      exact ⟨⟨s0.k, s0.code, s0.has, s0.text, s1.r, s1.c, s2.k, s2.a, s2.n⟩, rfl, ⟨k0.1, k0.2, k1.1, k1.2, k2.1, k2.2.1, k2.2.2⟩⟩
set_option maxRecDepth 100000 in
theorem open_Oqs {b0 : Nat} {r : Reach} {v : Value} {d : DataW H} {p : List MemPlace} (hv : Value.okWide Try.prog w r b0 22 v) (h : DataW.Trod enc Try.prog w base spare held 22 v d p) :
    ∃ (A : Option Addr) (l : List Oq) (cap : Nat), v = .slice A l.length cap ∧ l.length ≤ 9223372036854775807 ∧ GrAt encOq 9 w A l ∧ (∀ c ∈ l, okOq c) ∧ l.length ≤ cap ∧ cap ≤ 9223372036854775807 := by
  obtain ⟨A, len, cap, rfl, hl, hm, hc⟩ := open_elems Try.underlying22 (by rw [coOpenBo_Oq]; decide) hv h
  unfold maxLen at hm
  rw [coOpenBo_Oq] at hc
  rcases Nat.eq_zero_or_pos len with h0 | h0
  · subst h0
    exact ⟨A, [], cap, rfl, Nat.zero_le _, fun h => absurd h (by simp), fun c hc => (by cases hc), hl, by omega⟩
  · obtain ⟨b, off, rfl, hc2⟩ := hc h0
    obtain ⟨l, hll, hq⟩ := list_of_forall (Q := fun i (c : Oq) => (∀ j v, (encOq c)[j]? = some v → w.cell? ⟨b, off + i * 9 + j, none⟩ = some v) ∧ okOq c) len (fun i hi => by
      obtain ⟨cs, y, n, hcl, hat, htr⟩ := hc2 i hi
      obtain ⟨c, rfl, hk⟩ := Oq_of_trod htr
      refine ⟨c, fun j v hj => ?_, hk⟩
      have hj' := (List.getElem?_eq_some_iff.1 hj).1
      rw [encOq_len] at hj'
      rw [hat j hj']; exact hj)
    subst hll
    refine ⟨_, l, cap, rfl, by omega, fun _ => ⟨b, off, rfl, fun i x hx => (hq i x hx).1⟩, fun c hc => ?_, hl, by omega⟩
    obtain ⟨i, hi⟩ := List.mem_iff_getElem?.1 hc
    exact (hq i c hi).2
end
end Go.Proofs.Ytgfaincejebogaa
