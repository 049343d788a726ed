/- Structs that came in, opened (printed by tools/gen_open.py). Conditions: none. -/
import Derived.Test.YtffdblmdelgkaaaGreatOpenS2
import Derived.Test.YtffdblmdelgkaaaGreatGr
import Derived.Test.YtffdblmdelgkaaaGreatOkI
import Derived.Test.YtffdblmdelgkaaaGreatLwPp
namespace Go.Proofs.YtffdblmdelgkaaaGreat
open Go.RowKit Go.ChangeShapes Go.WideShapes Go.Deep

theorem coOpenPp_i32 : Tryz.prog.cellsOf 21 = 1 := by kernel_rfl
theorem coOpenPp_int : Tryz.prog.cellsOf 3 = 1 := by kernel_rfl
theorem coOpenPp_Cq : Tryz.prog.cellsOf 32 = 2 := by kernel_rfl
theorem coOpenPp_Aq : Tryz.prog.cellsOf 34 = 5 := by kernel_rfl
theorem coOpenPp_O7 : Tryz.prog.cellsOf 36 = 9 := by kernel_rfl
theorem coOpenPp_Oq : Tryz.prog.cellsOf 38 = 12 := by kernel_rfl
structure Cq where
  k : Int
  n : Int
def encCq (c : Cq) : List Value := [.int .i64 c.k, .int .i64 c.n]
theorem encCq_len : ∀ c, (encCq c).length = 2 := fun _ => rfl
theorem encCq_one : ∀ c, ∀ v ∈ encCq c, v.oneCell' = true := fun c v hv => by
  simp only [encCq, List.mem_cons, List.not_mem_nil, or_false] at hv
  rcases hv with rfl | rfl <;> rfl
def okCq (c : Cq) : Prop := okI c.k ∧ okI c.n
structure Aq where
  f_k : Int
  f_n : Int
  b_k : Int
  b_n : Int
  fl : Int
def encAq (c : Aq) : List Value := [.int .i64 c.f_k, .int .i64 c.f_n, .int .i64 c.b_k, .int .i64 c.b_n, .int .i64 c.fl]
theorem encAq_len : ∀ c, (encAq c).length = 5 := fun _ => rfl
theorem encAq_one : ∀ c, ∀ v ∈ encAq c, v.oneCell' = true := fun c v hv => by
  simp only [encAq, List.mem_cons, List.not_mem_nil, or_false] at hv
  rcases hv with rfl | rfl | rfl | rfl | rfl <;> rfl
def okAq (c : Aq) : Prop := okI c.f_k ∧ okI c.f_n ∧ okI c.b_k ∧ okI c.b_n ∧ okI c.fl
structure O7 where
  kind : Int
  x : Int
  n : Int
  r : Int
  at_f_k : Int
  at_f_n : Int
  at_b_k : Int
  at_b_n : Int
  at_fl : Int
def encO7 (c : O7) : List Value := [.int .i64 c.kind, .int .i64 c.x, .int .i64 c.n, .int .i32 c.r, .int .i64 c.at_f_k, .int .i64 c.at_f_n, .int .i64 c.at_b_k, .int .i64 c.at_b_n, .int .i64 c.at_fl]
theorem encO7_len : ∀ c, (encO7 c).length = 9 := fun _ => rfl
theorem encO7_one : ∀ c, ∀ v ∈ encO7 c, v.oneCell' = true := fun c v hv => by
  simp only [encO7, List.mem_cons, List.not_mem_nil, or_false] at hv
  rcases hv with rfl | rfl | rfl | rfl | rfl | rfl | rfl | rfl | rfl <;> rfl
def okO7 (c : O7) : Prop := okI c.kind ∧ okI c.x ∧ okI c.n ∧ okI c.at_f_k ∧ okI c.at_f_n ∧ okI c.at_b_k ∧ okI c.at_b_n ∧ okI c.at_fl
structure Oq where
  o_kind : Int
  o_x : Int
  o_n : Int
  o_r : Int
  o_at_f_k : Int
  o_at_f_n : Int
  o_at_b_k : Int
  o_at_b_n : Int
  o_at_fl : Int
  y : Int
  top : Int
  bottom : Int
def encOq (c : Oq) : List Value := [.int .i64 c.o_kind, .int .i64 c.o_x, .int .i64 c.o_n, .int .i32 c.o_r, .int .i64 c.o_at_f_k, .int .i64 c.o_at_f_n, .int .i64 c.o_at_b_k, .int .i64 c.o_at_b_n, .int .i64 c.o_at_fl, .int .i64 c.y, .int .i64 c.top, .int .i64 c.bottom]
theorem encOq_len : ∀ c, (encOq c).length = 12 := fun _ => rfl
theorem encOq_one : ∀ c, ∀ v ∈ encOq c, v.oneCell' = true := fun c v hv => by
  simp only [encOq, List.mem_cons, List.not_mem_nil, or_false] at hv
  rcases hv with rfl | rfl | rfl | rfl | rfl | rfl | rfl | rfl | rfl | rfl | rfl | rfl <;> rfl
def okOq (c : Oq) : Prop := okI c.o_kind ∧ okI c.o_x ∧ okI c.o_n ∧ okI c.o_at_f_k ∧ okI c.o_at_f_n ∧ okI c.o_at_b_k ∧ okI c.o_at_b_n ∧ okI c.o_at_fl ∧ okI c.y ∧ okI c.top ∧ okI c.bottom
section
variable {H : Type} {enc : TypeId × Value → H} {w : World} {base : Nat} {spare : Nat → Bool} {held : Bool}
set_option maxRecDepth 100000 in
theorem Cq_of_trod {n : Nat} {cs : List Value} {x : DataW H × List MemPlace} (h : DataW.trod enc Tryz.prog w base spare held n 32 cs = some x) : ∃ c : Cq, cs = encCq c ∧ okCq c := by
  obtain ⟨xs, m, _, _, hl, hlen, hf⟩ := DataW.trod_struct Tryz.underlying32 h
  rw [coOpenPp_Cq] at hl
  match cs, hl with
  | [v0, v1], _ =>
    match xs, hlen with
    | [y0, y1], _ =>
      have h0 := hf 0 _ rfl
      have h1 := hf 1 _ rfl
      simp [coOpenPp_int] at h0 h1
      obtain ⟨z0, e0, -, hw0⟩ := DataW.trod_int Tryz.underlying3 h0
      simp at e0
      subst e0
      obtain ⟨z1, e1, -, hw1⟩ := DataW.trod_int Tryz.underlying3 h1
      simp at e1
      subst e1
      exact ⟨⟨z0, z1⟩, rfl, ⟨okI_of_wf hw0, okI_of_wf hw1⟩⟩
set_option maxRecDepth 100000 in
theorem Aq_of_trod {n : Nat} {cs : List Value} {x : DataW H × List MemPlace} (h : DataW.trod enc Tryz.prog w base spare held n 34 cs = some x) : ∃ c : Aq, cs = encAq c ∧ okAq c := by
  obtain ⟨xs, m, _, _, hl, hlen, hf⟩ := DataW.trod_struct Tryz.underlying34 h
  rw [coOpenPp_Aq] at hl
  match cs, hl with
  | [v0, v1, v2, v3, v4], _ =>
    match xs, hlen with
    | [y0, y1, y2], _ =>
      have h0 := hf 0 _ rfl
      have h1 := hf 1 _ rfl
      have h2 := hf 2 _ rfl
      simp [coOpenPp_Cq, coOpenPp_int] at h0 h1 h2
      obtain ⟨s0, e0, k0⟩ := Cq_of_trod h0
      simp only [encCq, List.cons.injEq, and_true] at e0
      obtain ⟨rfl, rfl⟩ := e0
      obtain ⟨s1, e1, k1⟩ := Cq_of_trod h1
      simp only [encCq, List.cons.injEq, and_true] at e1
      obtain ⟨rfl, rfl⟩ := e1
      obtain ⟨z2, e2, -, hw2⟩ := DataW.trod_int Tryz.underlying3 h2
      simp at e2
      subst e2
      exact ⟨⟨s0.k, s0.n, s1.k, s1.n, z2⟩, rfl, ⟨k0.1, k0.2, k1.1, k1.2, okI_of_wf hw2⟩⟩
set_option maxRecDepth 100000 in
theorem O7_of_trod {n : Nat} {cs : List Value} {x : DataW H × List MemPlace} (h : DataW.trod enc Tryz.prog w base spare held n 36 cs = some x) : ∃ c : O7, cs = encO7 c ∧ okO7 c := by
  obtain ⟨xs, m, _, _, hl, hlen, hf⟩ := DataW.trod_struct Tryz.underlying36 h
  rw [coOpenPp_O7] at hl
  match cs, hl with
  | [v0, v1, v2, v3, v4, v5, v6, v7, v8], _ =>
    match xs, hlen with
    | [y0, y1, y2, y3, y4], _ =>
      have h0 := hf 0 _ rfl
      have h1 := hf 1 _ rfl
      have h2 := hf 2 _ rfl
      have h3 := hf 3 _ rfl
      have h4 := hf 4 _ rfl
      simp [coOpenPp_Aq, coOpenPp_i32, coOpenPp_int] at h0 h1 h2 h3 h4
      obtain ⟨z0, e0, -, hw0⟩ := DataW.trod_int Tryz.underlying3 h0
      simp at e0
      subst e0
      obtain ⟨z1, e1, -, hw1⟩ := DataW.trod_int Tryz.underlying3 h1
      simp at e1
      subst e1
      obtain ⟨z2, e2, -, hw2⟩ := DataW.trod_int Tryz.underlying3 h2
      simp at e2
      subst e2
      obtain ⟨z3, e3, -, -⟩ := DataW.trod_int Tryz.underlying21 h3
      simp at e3
      subst e3
      obtain ⟨s4, e4, k4⟩ := Aq_of_trod h4
      simp only [encAq, List.cons.injEq, and_true] at e4
      obtain ⟨rfl, rfl, rfl, rfl, rfl⟩ := e4
      exact ⟨⟨z0, z1, z2, z3, s4.f_k, s4.f_n, s4.b_k, s4.b_n, s4.fl⟩, rfl, ⟨okI_of_wf hw0, okI_of_wf hw1, okI_of_wf hw2, k4.1, k4.2.1, k4.2.2.1, k4.2.2.2.1, k4.2.2.2.2⟩⟩
set_option maxRecDepth 100000 in
theorem Oq_of_trod {n : Nat} {cs : List Value} {x : DataW H × List MemPlace} (h : DataW.trod enc Tryz.prog w base spare held n 38 cs = some x) : ∃ c : Oq, cs = encOq c ∧ okOq c := by
  obtain ⟨xs, m, _, _, hl, hlen, hf⟩ := DataW.trod_struct Tryz.underlying38 h
  rw [coOpenPp_Oq] at hl
  match cs, hl with
  | [v0, v1, v2, v3, v4, v5, v6, v7, v8, v9, v10, v11], _ =>
    match xs, hlen with
    | [y0, y1, y2, y3], _ =>
      have h0 := hf 0 _ rfl
      have h1 := hf 1 _ rfl
      have h2 := hf 2 _ rfl
      have h3 := hf 3 _ rfl
      simp [coOpenPp_O7, coOpenPp_int] at h0 h1 h2 h3
      obtain ⟨s0, e0, k0⟩ := O7_of_trod h0
      simp only [encO7, List.cons.injEq, and_true] at e0
      obtain ⟨rfl, rfl, rfl, rfl, rfl, rfl, rfl, rfl, rfl⟩ := e0
      obtain ⟨z1, e1, -, hw1⟩ := DataW.trod_int Tryz.underlying3 h1
      simp at e1
      subst e1
      obtain ⟨z2, e2, -, hw2⟩ := DataW.trod_int Tryz.underlying3 h2
      simp at e2
      subst e2
      obtain ⟨z3, e3, -, hw3⟩ := DataW.trod_int Tryz.underlying3 h3
      simp at e3
      subst e3
      exact ⟨⟨s0.kind, s0.x, s0.n, s0.r, s0.at_f_k, s0.at_f_n, s0.at_b_k, s0.at_b_n, s0.at_fl, z1, z2, z3⟩, rfl, ⟨k0.1, k0.2.1, k0.2.2.1, k0.2.2.2.1, k0.2.2.2.2.1, k0.2.2.2.2.2.1, k0.2.2.2.2.2.2.1, k0.2.2.2.2.2.2.2, okI_of_wf hw1, okI_of_wf hw2, okI_of_wf hw3⟩⟩
set_option maxRecDepth 100000 in
theorem open_Oqs {b0 : Nat} {r : Reach} {v : Value} {d : DataW H} {p : List MemPlace} (hv : Value.okWide Tryz.prog w r b0 24 v) (h : DataW.Trod enc Tryz.prog w base spare held 24 v d p) :
    ∃ (A : Option Addr) (l : List Oq) (cap : Nat), v = .slice A l.length cap ∧ l.length ≤ 9223372036854775807 ∧ GrAt encOq 12 w A l ∧ (∀ c ∈ l, okOq c) ∧ l.length ≤ cap ∧ cap ≤ 9223372036854775807 := by
  obtain ⟨A, len, cap, rfl, hl, hm, hc⟩ := open_elems Tryz.underlying24 (by rw [coOpenPp_Oq]; decide) hv h
  unfold maxLen at hm
  rw [coOpenPp_Oq] at hc
  rcases Nat.eq_zero_or_pos len with h0 | h0
  · subst h0
    exact ⟨A, [], cap, rfl, Nat.zero_le _, fun h => absurd h (by simp), fun c hc => (by cases hc), hl, by omega⟩
  · obtain ⟨b, off, rfl, hc2⟩ := hc h0
    obtain ⟨l, hll, hq⟩ := list_of_forall (Q := fun i (c : Oq) => (∀ j v, (encOq c)[j]? = some v → w.cell? ⟨b, off + i * 12 + j, none⟩ = some v) ∧ okOq c) len (fun i hi => by
      obtain ⟨cs, y, n, hcl, hat, htr⟩ := hc2 i hi
      obtain ⟨c, rfl, hk⟩ := Oq_of_trod htr
      refine ⟨c, fun j v hj => ?_, hk⟩
      have hj' := (List.getElem?_eq_some_iff.1 hj).1
      rw [encOq_len] at hj'
      rw [hat j hj']; exact hj)
    subst hll
    refine ⟨_, l, cap, rfl, by omega, fun _ => ⟨b, off, rfl, fun i x hx => (hq i x hx).1⟩, fun c hc => ?_, hl, by omega⟩
    obtain ⟨i, hi⟩ := List.mem_iff_getElem?.1 hc
    exact (hq i c hi).2
end
end Go.Proofs.YtffdblmdelgkaaaGreat
