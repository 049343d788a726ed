/- Joined by a tool of this claim out of smaller texts. Conditions: as stated. -/
import Derived.Test.YtffdblmdelgkaaaGreatKk11
import Derived.Deep.Slices
import Derived.Deep.Fields
import Derived.ChangeSame
import Derived.ProofKit
import Derived.OpenShut
import Derived.Lib.SmallJoins
import Derived.Below
import Derived.Carry
namespace Go.Proofs.YtffdblmdelgkaaaGreat
open Go.RowKit Go.ChangeShapes Go.WideShapes Go.Deep
section
variable {H : Type} {enc : TypeId × Value → H} {P : Program} {w : World} {base : Nat} {spare : Nat → Bool} {held : Bool}
theorem list_of_forall {α : Type} {Q : Nat → α → Prop} : ∀ (n : Nat), (∀ i, i < n → ∃ s, Q i s) → ∃ l : List α, l.length = n ∧ ∀ i s, l[i]? = some s → Q i s
  | 0, _ => ⟨[], rfl, fun i s h => by simp at h⟩
  | n + 1, h => by
    obtain ⟨l, hl, hq⟩ := list_of_forall n (fun i hi => h i (by omega))
    obtain ⟨s, hs⟩ := h n (by omega)
    refine ⟨l ++ [s], by simp [hl], fun i u hu => ?_⟩
    by_cases hi : i < l.length
    · rw [List.getElem?_append_left hi] at hu
      exact hq i u hu
    · rw [List.getElem?_append_right (by omega)] at hu
      have : i - l.length = 0 := by
        rcases Nat.eq_zero_or_pos (i - l.length) with h0 | h0
        · exact h0
        · rw [List.getElem?_eq_none (by simp; omega)] at hu; cases hu
      rw [this] at hu
      obtain rfl : s = u := by simpa using hu
      have e : i = n := by omega
      rw [e]; exact hs
end
end Go.Proofs.YtffdblmdelgkaaaGreat

namespace Go.Proofs.YtffdblmdelgkaaaGreat
open Go.RowKit Go.ChangeShapes Go.WideShapes Go.Deep
section
variable {H : Type} {enc : TypeId × Value → H} {P : Program} {w : World} {base : Nat} {spare : Nat → Bool} {held : Bool}
/-- A slice that came in: nil, or a row; of each element its cells, and that they read as the element's type does. -/
theorem open_elems {b0 : Nat} {r : Reach} {t e : TypeId} {v : Value} {d : DataW H} {p : List MemPlace} (ht : P.underlying t = some (.slice e)) (hpos : 0 < P.cellsOf e)
    (hv : Value.okWide P w r b0 t v) (h : DataW.Trod enc P w base spare held t v d p) :
    ∃ (A : Option Addr) (len cap : Nat), v = .slice A len cap ∧ len ≤ cap ∧ cap ≤ maxLen ∧
      (0 < len → ∃ b off, A = some ⟨b, off, none⟩ ∧ ∀ i, i < len → ∃ (cs : List Value) (y : DataW H × List MemPlace) (n : Nat), cs.length = P.cellsOf e ∧ (∀ j, j < P.cellsOf e → w.cell? ⟨b, off + i * P.cellsOf e + j, none⟩ = cs[j]?) ∧ DataW.trod enc P w base spare held n e cs = some y) := by
  obtain ⟨a0, len, cap, rfl⟩ := okWide_slice ht hv
  obtain ⟨fuel, hf⟩ := h
  rcases open_slice ht hf with ⟨hcs, hx⟩ | ⟨a, len', cap', m, n, D, Pl, hcs, _, hl, hm, hmm, hx, hi⟩
  · simp only [Value.cells, List.cons.injEq, and_true, Value.slice.injEq] at hcs
    obtain ⟨rfl, rfl, rfl⟩ := hcs
    exact ⟨none, 0, 0, rfl, Nat.le_refl _, Nat.zero_le _, fun h => absurd h (by omega)⟩
  · simp only [Value.cells, List.cons.injEq, and_true, Value.slice.injEq] at hcs
    obtain ⟨rfl, rfl, rfl⟩ := hcs
    refine ⟨some a, len, cap, rfl, hl, hm, fun h0 => ?_⟩
    have hlm : len ≤ m := by rw [hmm]; split <;> omega
    have hspot : a.spot = none := by
      obtain ⟨cs', hc, _⟩ := hi 0 (by omega)
      obtain ⟨_, hcl, hat⟩ := World.cells?_some hc
      have h1 := hat 0 hpos
      have h2 : cs'[0]? = some (cs'[0]'(by omega)) := List.getElem?_eq_getElem (by omega)
      rw [h2] at h1
      have h3 := World.cell?_spot h1
      simpa [Addr.add] using h3
    obtain ⟨b, off, spot⟩ := a
    simp only at hspot
    subst hspot
    refine ⟨b, off, rfl, fun i hil => ?_⟩
    obtain ⟨cs', hc, htr⟩ := hi i (by omega)
    obtain ⟨_, hcl, hat⟩ := World.cells?_some hc
    refine ⟨cs', _, n, hcl, fun j hj => ?_, htr⟩
    rw [← hat j hj, Go.Deep.add_add]
    congr 1
    unfold Addr.add
    by_cases hz : i * P.cellsOf e + j = 0
    · rw [if_pos hz]
      have h1 : i * P.cellsOf e = 0 := by omega
      have h2 : j = 0 := by omega
      simp
    · rw [if_neg hz]
      simp [Nat.add_assoc]
end
end Go.Proofs.YtffdblmdelgkaaaGreat

namespace Go.Proofs.YtffdblmdelgkaaaGreat
open Go.ChangeShapes Go.WideShapes Go.ChangeAt Go.RowKit Go.Joins
theorem own : ownKnob Tryz.prog.godebug = none := by kernel_rfl
theorem laidOut : laidOutB Tryz.prog = true := by kernel_rfl
section
variable {H : Type} {enc : TypeId × Value → H} {P : Program}
/-- The row's last step where the call has made memory and changed none. -/
theorem post_of_below {f : Func} {s : ChangeSpec} {apart fresh handsOn again : Bool} {W W' : World} {args : Array Value} {v : Value} {ds gs : List (DataW H)} {before pa pv : List MemPlace}
    (hW : DataW.Whole enc P f.params.toList s.vars apart W args.toList ds gs before)
    (hres : ∀ (b : Nat) (sp : Nat → Bool) (hd : Bool), DataW.TrodAll enc P W' b sp hd f.resultTypes.toList (v.resultList f.resultTypes.size) (s.fn H (ds ++ gs)).results [])
    (hargs : ∀ sp : Nat → Bool, (∀ p ∈ before, sp p.block = true) → DataW.TrodAll enc P W' 0 sp true f.params.toList args.toList (s.fn H (ds ++ gs)).args pa)
    (hvars : ∀ sp : Nat → Bool, (∀ p ∈ before, sp p.block = true) → DataW.TrodVars enc P W' sp s.vars (s.fn H (ds ++ gs)).vars pv)
    (hps : before = pa ++ pv) (hb : Below W.heap.size W W')
    (hok : ∀ (j : Nat) (t : TypeId) (r : Value), f.resultTypes[j]? = some t → (v.resultList f.resultTypes.size)[j]? = some r → Value.okWide P W' .any 0 t r) :
    s.post enc P f apart fresh handsOn again W args v W' := by
  have hlt : ∀ p ∈ before, p.block < W.heap.size := fun p hp => hW.lt p hp
  have hold : ∀ p ∈ before, (fun b => decide (b < W.heap.size)) p.block = true := fun p hp => by simpa using hlt p hp
  refine ⟨ds, gs, before, [], pa, pv, hW, hres _ _ _, hargs _ hold, hvars _ hold, World.keptBut_mono (fun p hp => ⟨hp, ?_⟩) (hb.frame (· ∈ before)), fun _ => ?_⟩
  · rw [hps, List.mem_append] at hp
    exact Or.inr hp
  · obtain ⟨_, _, _, _, _, hz, hn⟩ := hW
    refine ⟨hok, _, _, ([] ++ pa) ++ pv, ⟨[] ++ pa, pv, trodAll_append (hargs _ (fun _ _ => rfl)) (hres _ _ _), hvars _ (fun _ _ => rfl), rfl, ?_, ?_⟩, ?_⟩
    · intro b off hp
      have hin : MemPlace.cell b off ∈ before := by rw [hps]; simpa using hp
      rw [hb.frozen (hlt _ hin)]
      exact hz b off hin
    · intro ha
      have := hn ha
      rw [hps] at this
      simpa using this
    · intro p hp _
      rw [hps]
      simpa using hp
/-- An argument reads behind the call as it did. -/
theorem stays {t : TypeId} (hl : laidOutB P = true) (hr : P.readableRec t = true) (hrow : t < P.types.size) {W W' : World} {v : Value} {d : DataW H} {ps before : List MemPlace} {sp : Nat → Bool}
    (h : DataW.Trod enc P W 0 (fun _ => true) true t v d ps) (hb : Below W.heap.size W W') (hlt : ∀ x ∈ before, x.block < W.heap.size) (hin : ∀ x ∈ ps, x ∈ before) (hsp : ∀ x ∈ before, sp x.block = true) :
    DataW.Trod enc P W' 0 sp true t v d ps :=
  WideElems.Trod_stays hl hr hrow h (fun x hx => hb.same (hlt x (hin x hx))) (fun x hx => hsp x (hin x hx))
end
end Go.Proofs.YtffdblmdelgkaaaGreat

namespace Go.Proofs.YtffdblmdelgkaaaGreat
def okI (x : Int) : Prop := -9223372036854775808 ≤ x ∧ x ≤ 9223372036854775807
theorem okI_of_wf {x : Int} (h : (Lit.int .i64 x).wf = true) : okI x := by
  unfold okI
  simp [Lit.wf, IntKind.min, IntKind.max, IntKind.signed, IntKind.bits] at h
  omega
theorem u8_of_wf {x : Int} (h : (Lit.int .u8 x).wf = true) : 0 ≤ x ∧ x ≤ 255 := by
  simp [Lit.wf, IntKind.min, IntKind.max, IntKind.signed, IntKind.bits] at h
  omega
end Go.Proofs.YtffdblmdelgkaaaGreat

namespace Go.Proofs.YtffdblmdelgkaaaGreat
open Go.RowKit Go.ChangeShapes Go.WideShapes Go.Deep
theorem coOpenPp_i32 : Tryz.prog.cellsOf 21 = 1 := by kernel_rfl
theorem coOpenPp_int : Tryz.prog.cellsOf 3 = 1 := by kernel_rfl
theorem coOpenPp_Cq : Tryz.prog.cellsOf 32 = 2 := by kernel_rfl
theorem coOpenPp_Aq : Tryz.prog.cellsOf 34 = 5 := by kernel_rfl
theorem coOpenPp_O7 : Tryz.prog.cellsOf 36 = 9 := by kernel_rfl
theorem coOpenPp_Oq : Tryz.prog.cellsOf 38 = 12 := by kernel_rfl
structure Cq where
  k : Int
  n : Int
def encCq (c : Cq) : List Value := [.int .i64 c.k, .int .i64 c.n]
def okCq (c : Cq) : Prop := okI c.k ∧ okI c.n
structure Aq where
  f_k : Int
  f_n : Int
  b_k : Int
  b_n : Int
  fl : Int
def encAq (c : Aq) : List Value := [.int .i64 c.f_k, .int .i64 c.f_n, .int .i64 c.b_k, .int .i64 c.b_n, .int .i64 c.fl]
def okAq (c : Aq) : Prop := okI c.f_k ∧ okI c.f_n ∧ okI c.b_k ∧ okI c.b_n ∧ okI c.fl
structure O7 where
  kind : Int
  x : Int
  n : Int
  r : Int
  at_f_k : Int
  at_f_n : Int
  at_b_k : Int
  at_b_n : Int
  at_fl : Int
def encO7 (c : O7) : List Value := [.int .i64 c.kind, .int .i64 c.x, .int .i64 c.n, .int .i32 c.r, .int .i64 c.at_f_k, .int .i64 c.at_f_n, .int .i64 c.at_b_k, .int .i64 c.at_b_n, .int .i64 c.at_fl]
def okO7 (c : O7) : Prop := okI c.kind ∧ okI c.x ∧ okI c.n ∧ okI c.at_f_k ∧ okI c.at_f_n ∧ okI c.at_b_k ∧ okI c.at_b_n ∧ okI c.at_fl
structure Oq where
  o_kind : Int
  o_x : Int
  o_n : Int
  o_r : Int
  o_at_f_k : Int
  o_at_f_n : Int
  o_at_b_k : Int
  o_at_b_n : Int
  o_at_fl : Int
  y : Int
  top : Int
  bottom : Int
def encOq (c : Oq) : List Value := [.int .i64 c.o_kind, .int .i64 c.o_x, .int .i64 c.o_n, .int .i32 c.o_r, .int .i64 c.o_at_f_k, .int .i64 c.o_at_f_n, .int .i64 c.o_at_b_k, .int .i64 c.o_at_b_n, .int .i64 c.o_at_fl, .int .i64 c.y, .int .i64 c.top, .int .i64 c.bottom]
theorem encOq_len : ∀ c, (encOq c).length = 12 := fun _ => rfl
def okOq (c : Oq) : Prop := okI c.o_kind ∧ okI c.o_x ∧ okI c.o_n ∧ okI c.o_at_f_k ∧ okI c.o_at_f_n ∧ okI c.o_at_b_k ∧ okI c.o_at_b_n ∧ okI c.o_at_fl ∧ okI c.y ∧ okI c.top ∧ okI c.bottom
section
variable {H : Type} {enc : TypeId × Value → H} {w : World} {base : Nat} {spare : Nat → Bool} {held : Bool}
set_option maxRecDepth 100000 in
theorem Cq_of_trod {n : Nat} {cs : List Value} {x : DataW H × List MemPlace} (h : DataW.trod enc Tryz.prog w base spare held n 32 cs = some x) : ∃ c : Cq, cs = encCq c ∧ okCq c := by
  obtain ⟨xs, m, _, _, hl, hlen, hf⟩ := DataW.trod_struct Tryz.underlying32 h
  rw [coOpenPp_Cq] at hl
  match cs, hl with
  | [v0, v1], _ =>
    match xs, hlen with
    | [y0, y1], _ =>
      have h0 := hf 0 _ rfl
      have h1 := hf 1 _ rfl
      simp [coOpenPp_int] at h0 h1
      obtain ⟨z0, e0, -, hw0⟩ := DataW.trod_int Tryz.underlying3 h0
      simp at e0
      subst e0
      obtain ⟨z1, e1, -, hw1⟩ := DataW.trod_int Tryz.underlying3 h1
      simp at e1
      subst e1
      exact ⟨⟨z0, z1⟩, rfl, ⟨okI_of_wf hw0, okI_of_wf hw1⟩⟩
set_option maxRecDepth 100000 in
theorem Aq_of_trod {n : Nat} {cs : List Value} {x : DataW H × List MemPlace} (h : DataW.trod enc Tryz.prog w base spare held n 34 cs = some x) : ∃ c : Aq, cs = encAq c ∧ okAq c := by
  obtain ⟨xs, m, _, _, hl, hlen, hf⟩ := DataW.trod_struct Tryz.underlying34 h
  rw [coOpenPp_Aq] at hl
  match cs, hl with
  | [v0, v1, v2, v3, v4], _ =>
    match xs, hlen with
    | [y0, y1, y2], _ =>
      have h0 := hf 0 _ rfl
      have h1 := hf 1 _ rfl
      have h2 := hf 2 _ rfl
      simp [coOpenPp_Cq, coOpenPp_int] at h0 h1 h2
      obtain ⟨s0, e0, k0⟩ := Cq_of_trod h0
      simp only [encCq, List.cons.injEq, and_true] at e0
      obtain ⟨rfl, rfl⟩ := e0
      obtain ⟨s1, e1, k1⟩ := Cq_of_trod h1
      simp only [encCq, List.cons.injEq, and_true] at e1
      obtain ⟨rfl, rfl⟩ := e1
      obtain ⟨z2, e2, -, hw2⟩ := DataW.trod_int Tryz.underlying3 h2
      simp at e2
      subst e2
      exact ⟨⟨s0.k, s0.n, s1.k, s1.n, z2⟩, rfl, ⟨k0.1, k0.2, k1.1, k1.2, okI_of_wf hw2⟩⟩
set_option maxRecDepth 100000 in
theorem O7_of_trod {n : Nat} {cs : List Value} {x : DataW H × List MemPlace} (h : DataW.trod enc Tryz.prog w base spare held n 36 cs = some x) : ∃ c : O7, cs = encO7 c ∧ okO7 c := by
  obtain ⟨xs, m, _, _, hl, hlen, hf⟩ := DataW.trod_struct Tryz.underlying36 h
  rw [coOpenPp_O7] at hl
  match cs, hl with
  | [v0, v1, v2, v3, v4, v5, v6, v7, v8], _ =>
    match xs, hlen with
    | [y0, y1, y2, y3, y4], _ =>
      have h0 := hf 0 _ rfl
      have h1 := hf 1 _ rfl
      have h2 := hf 2 _ rfl
      have h3 := hf 3 _ rfl
      have h4 := hf 4 _ rfl
      simp [coOpenPp_Aq, coOpenPp_i32, coOpenPp_int] at h0 h1 h2 h3 h4
      obtain ⟨z0, e0, -, hw0⟩ := DataW.trod_int Tryz.underlying3 h0
      simp at e0
      subst e0
      obtain ⟨z1, e1, -, hw1⟩ := DataW.trod_int Tryz.underlying3 h1
      simp at e1
      subst e1
      obtain ⟨z2, e2, -, hw2⟩ := DataW.trod_int Tryz.underlying3 h2
      simp at e2
      subst e2
      obtain ⟨z3, e3, -, -⟩ := DataW.trod_int Tryz.underlying21 h3
      simp at e3
      subst e3
      obtain ⟨s4, e4, k4⟩ := Aq_of_trod h4
      simp only [encAq, List.cons.injEq, and_true] at e4
      obtain ⟨rfl, rfl, rfl, rfl, rfl⟩ := e4
      exact ⟨⟨z0, z1, z2, z3, s4.f_k, s4.f_n, s4.b_k, s4.b_n, s4.fl⟩, rfl, ⟨okI_of_wf hw0, okI_of_wf hw1, okI_of_wf hw2, k4.1, k4.2.1, k4.2.2.1, k4.2.2.2.1, k4.2.2.2.2⟩⟩
set_option maxRecDepth 100000 in
theorem Oq_of_trod {n : Nat} {cs : List Value} {x : DataW H × List MemPlace} (h : DataW.trod enc Tryz.prog w base spare held n 38 cs = some x) : ∃ c : Oq, cs = encOq c ∧ okOq c := by
  obtain ⟨xs, m, _, _, hl, hlen, hf⟩ := DataW.trod_struct Tryz.underlying38 h
  rw [coOpenPp_Oq] at hl
  match cs, hl with
  | [v0, v1, v2, v3, v4, v5, v6, v7, v8, v9, v10, v11], _ =>
    match xs, hlen with
    | [y0, y1, y2, y3], _ =>
      have h0 := hf 0 _ rfl
      have h1 := hf 1 _ rfl
      have h2 := hf 2 _ rfl
      have h3 := hf 3 _ rfl
      simp [coOpenPp_O7, coOpenPp_int] at h0 h1 h2 h3
      obtain ⟨s0, e0, k0⟩ := O7_of_trod h0
      simp only [encO7, List.cons.injEq, and_true] at e0
      obtain ⟨rfl, rfl, rfl, rfl, rfl, rfl, rfl, rfl, rfl⟩ := e0
      obtain ⟨z1, e1, -, hw1⟩ := DataW.trod_int Tryz.underlying3 h1
      simp at e1
      subst e1
      obtain ⟨z2, e2, -, hw2⟩ := DataW.trod_int Tryz.underlying3 h2
      simp at e2
      subst e2
      obtain ⟨z3, e3, -, hw3⟩ := DataW.trod_int Tryz.underlying3 h3
      simp at e3
      subst e3
      exact ⟨⟨s0.kind, s0.x, s0.n, s0.r, s0.at_f_k, s0.at_f_n, s0.at_b_k, s0.at_b_n, s0.at_fl, z1, z2, z3⟩, rfl, ⟨k0.1, k0.2.1, k0.2.2.1, k0.2.2.2.1, k0.2.2.2.2.1, k0.2.2.2.2.2.1, k0.2.2.2.2.2.2.1, k0.2.2.2.2.2.2.2, okI_of_wf hw1, okI_of_wf hw2, okI_of_wf hw3⟩⟩
set_option maxRecDepth 100000 in
theorem open_Oqs {b0 : Nat} {r : Reach} {v : Value} {d : DataW H} {p : List MemPlace} (hv : Value.okWide Tryz.prog w r b0 24 v) (h : DataW.Trod enc Tryz.prog w base spare held 24 v d p) :
    ∃ (A : Option Addr) (l : List Oq) (cap : Nat), v = .slice A l.length cap ∧ l.length ≤ 9223372036854775807 ∧ GrAt encOq 12 w A l ∧ (∀ c ∈ l, okOq c) ∧ l.length ≤ cap ∧ cap ≤ 9223372036854775807 := by
  obtain ⟨A, len, cap, rfl, hl, hm, hc⟩ := open_elems Tryz.underlying24 (by rw [coOpenPp_Oq]; decide) hv h
  unfold maxLen at hm
  rw [coOpenPp_Oq] at hc
  rcases Nat.eq_zero_or_pos len with h0 | h0
  · subst h0
    exact ⟨A, [], cap, rfl, Nat.zero_le _, fun h => absurd h (by simp), fun c hc => (by cases hc), hl, by omega⟩
  · obtain ⟨b, off, rfl, hc2⟩ := hc h0
    obtain ⟨l, hll, hq⟩ := list_of_forall (Q := fun i (c : Oq) => (∀ j v, (encOq c)[j]? = some v → w.cell? ⟨b, off + i * 12 + j, none⟩ = some v) ∧ okOq c) len (fun i hi => by
      obtain ⟨cs, y, n, hcl, hat, htr⟩ := hc2 i hi
      obtain ⟨c, rfl, hk⟩ := Oq_of_trod htr
      refine ⟨c, fun j v hj => ?_, hk⟩
      have hj' := (List.getElem?_eq_some_iff.1 hj).1
      rw [encOq_len] at hj'
      rw [hat j hj']; exact hj)
    subst hll
    refine ⟨_, l, cap, rfl, by omega, fun _ => ⟨b, off, rfl, fun i x hx => (hq i x hx).1⟩, fun c hc => ?_, hl, by omega⟩
    obtain ⟨i, hi⟩ := List.mem_iff_getElem?.1 hc
    exact (hq i c hi).2
end
end Go.Proofs.YtffdblmdelgkaaaGreat

namespace Go.Proofs.YtffdblmdelgkaaaGreat
open Go.RowKit
theorem cellsSz : Tryz.prog.cellsOf 23 = 3 := by kernel_rfl
theorem gr_map {α β : Type} {enc : α → List Value} {enc' : β → List Value} {k : Nat} {w : World} {A : Option Addr} {l : List α} (f : α → β) (hf : ∀ x, enc' (f x) = enc x) (h : GrAt enc k w A l) : GrAt enc' k w A (l.map f) := fun hl => by
  rw [List.length_map] at hl
  obtain ⟨b, off, e, hc⟩ := h hl
  refine ⟨b, off, e, fun i x hx j v hv => ?_⟩
  rw [List.getElem?_map] at hx
  obtain ⟨y, hy, rfl⟩ := Option.map_eq_some_iff.1 hx
  exact hc i y hy j v (by rw [← hf]; exact hv)
def toPop (o : Oq) : Pop := ⟨o.o_kind, o.o_x, o.o_n, o.o_r, ⟨o.o_at_f_k, o.o_at_f_n, o.o_at_b_k, o.o_at_b_n, o.o_at_fl⟩, o.y, o.top, o.bottom⟩
theorem gr_pop {w : World} {A : Option Addr} {l : List Oq} (h : GrAt encOq 12 w A l) : GrAt encPop 12 w A (l.map toPop) := gr_map toPop (fun _ => rfl) h
theorem pops_ok {l : List Oq} (h : ∀ c ∈ l, okOq c) : ∀ o ∈ l.map toPop, PopOk o := fun o ho => by
  obtain ⟨c, hc, rfl⟩ := List.mem_map.1 ho
  have := h c hc
  unfold okOq okI at this
  exact ⟨by unfold In64 toPop; simp only; omega, by unfold In64 toPop; simp only; omega⟩
end Go.Proofs.YtffdblmdelgkaaaGreat

namespace Go.Proofs.YtffdblmdelgkaaaGreat
open Go.RowKit
/-- Both, apart. -/
structure Both2 (base : Nat) (w : World) (qp : Pv) (qd : Dv) (g gd : Pg) : Prop where
  p : PgO base w qp g
  d : DcO base w qd (dcOf gd)
  ap : ∀ b ∈ pgX qp, b ∉ dcX qd
def BoRes2 (base : Nat) (w : World) (qp : Pv) (qd : Dv) (g' gd' : Pg) (w' : World) : Prop :=
  ∃ qp' qd', qp'.P = qp.P ∧ qd'.D = qd.D ∧ Both2 base w' qp' qd' g' gd' ∧ Mod (pgX qp ++ dcX qd) w w' ∧ ∀ b ∈ pgX qp' ++ dcX qd', b ∈ pgX qp ++ dcX qd ∨ w.heap.size ≤ b
section
variable {base : Nat} {w w1 w2 : World} {qp : Pv} {qd : Dv} {g g1 gd gd1 : Pg}
theorem Both2.below (h : Both2 base w qp qd g gd) (hb : Below w.heap.size w w1) : Both2 base w1 qp qd g gd := ⟨h.p.below hb, h.d.below hb, h.ap⟩
theorem Both2.res (h : Both2 base w qp qd g gd) : BoRes2 base w qp qd g gd w := ⟨qp, qd, rfl, rfl, h, Mod.refl _ _, fun b hb => .inl hb⟩
theorem Both2.mid (h : Both2 base w qp qd g gd) (hp : PgRes base w qp g1 w1) : DcO base w1 qd (dcOf gd) := by
  obtain ⟨q', -, -, -, hm, -⟩ := hp
  exact h.d.mod hm h.p.nocel (fun b hb hx => h.ap b hx hb)
theorem Both2.step (h : Both2 base w qp qd g gd) (hp : PgRes base w qp g1 w1) (hd : DcRes base w1 qd (dcOf gd1) w2) : BoRes2 base w qp qd g1 gd1 w2 := by
  have hmid := h.mid hp
  obtain ⟨qp', e1, e2, hp1, hm1, hx1⟩ := hp
  obtain ⟨qd', e3, hd1, hm2, hx2⟩ := hd
  have hap : ∀ b ∈ pgX qp', b ∉ dcX qd := fun b hb hx => by
    rcases hx1 b hb with h1 | h1
    · exact h.ap b h1 hx
    · have := (h.d.lt b hx).2; omega
  refine ⟨qp', qd', e1, e3, ⟨hp1.mod hm2 hmid.nocel hap, hd1, fun b hb hx => ?_⟩, ?_, fun b hb => ?_⟩
  · rcases hx2 b hx with h1 | h1
    · exact hap b hb h1
    · have := (hp1.lt b hb).2; omega
  · exact (hm1.mono (fun b hb => by simp [hb])).trans (hm2.mono (fun b hb => by simp [hb])) (fun b hb => .inl hb)
  · rcases List.mem_append.1 hb with hb | hb
    · rcases hx1 b hb with h1 | h1
      · exact .inl (by simp [h1])
      · exact .inr h1
    · rcases hx2 b hb with h1 | h1
      · exact .inl (by simp [h1])
      · exact .inr (Nat.le_trans hm1.size h1)
theorem BoRes2.pre (hb : Below w.heap.size w w1) (h : BoRes2 base w1 qp qd g1 gd1 w2) : BoRes2 base w qp qd g1 gd1 w2 := by
  obtain ⟨qp', qd', e1, e2, hB, hm, hx⟩ := h
  exact ⟨qp', qd', e1, e2, hB, (Mod.of_below hb).trans hm (fun b hb => .inl hb), fun b h => (hx b h).imp id (fun h => Nat.le_trans hb.size h)⟩
theorem BoRes2.post (h : BoRes2 base w qp qd g1 gd1 w1) (hb : Below w1.heap.size w1 w2) : BoRes2 base w qp qd g1 gd1 w2 := by
  obtain ⟨qp1, qd1, e1, e2, hB, hm, hx⟩ := h
  exact ⟨qp1, qd1, e1, e2, hB.below hb, hm.then_below hb, hx⟩
end
def DoesPost2 (base : Nat) (w : World) (qp : Pv) (qd : Dv) (g' gd' : Pg) (e : Ending) (w' : World) : Prop := e = .returned (.tuple #[]) ∧ BoRes2 base w qp qd g' gd' w'
end Go.Proofs.YtffdblmdelgkaaaGreat

namespace Go.Proofs.YtffdblmdelgkaaaGreat
open Go.RowKit
set_option maxRecDepth 100000 in
set_option maxHeartbeats 6400000 in
theorem does0_two {base : Nat} {w : World} {qp : Pv} {qd : Dv} {g gd : Pg} {rows cols room rows' cols' room' : Nat} (h : Both2 base w qp qd g gd) (hg : PgInv rows cols room g) (hgd : PgInv rows' cols' room' gd) (hrows : rows ≤ 1000) (hrows' : rows' ≤ 1000) (hroom : room ≤ 100000) (hroom' : room' ≤ 100000) (ht : g.told.length ≤ 900000) (ht' : gd.told.length ≤ 900000) (o : Pop) (ho : o.kind = 0) (hok : PopOk o) :
    Calls Tryz.prog 9 #[.pointer (some ⟨qp.P, 0, none⟩), .pointer (some ⟨qd.D, 0, none⟩), .agg #[.int .i64 o.kind, .int .i64 o.x, .int .i64 o.n, .int .i32 o.r, .int .i64 o.at_.fk, .int .i64 o.at_.fn, .int .i64 o.at_.bk, .int .i64 o.at_.bn, .int .i64 o.at_.fl, .int .i64 o.y, .int .i64 o.top, .int .i64 o.bottom]] w (DoesPost2 base w qp qd (stepP g o) (stepP gd o)) := by
  obtain ⟨kind, x, n, r, ⟨fk, fn, bk, bn, fl⟩, y, top, bottom⟩ := o
  simp only at ho
  subst ho
  obtain ⟨W, hW⟩ : ∃ W, (w.alloc (.cells (encPop ⟨0, x, n, r, ⟨fk, fn, bk, bn, fl⟩, y, top, bottom⟩).toArray 38)).alloc (.cells #[.int .i64 bk, .int .i64 bn] 32) = W := ⟨_, rfl⟩
  have hb0 : Below w.heap.size w W := by rw [← hW]; exact below_allocs (below_allocs (Below.refl _ _) _) _
  have HO0 : Hid (OpC W w.heap.size (w.heap.size + 1) ⟨0, x, n, r, ⟨fk, fn, bk, bn, fl⟩, y, top, bottom⟩) := Lib.hid (by rw [← hW]; exact OpC.new _)
  have HB := Lib.hid hb0
  have hB := h.below hb0
  have HB0 := Lib.hid hB
  have hXp : ∀ i, w.heap.size + i ∉ pgX qp := fun i hx => by have := (h.p.lt _ hx).2; omega
  have hr1 := hgd.hrows
  have hr2 := hgd.hroom
  have hr3 := hgd.hhist
  have hL : (dcOf gd).L.length ≤ 900000 := by show (gd.hist ++ gd.scr).length ≤ _; simp; omega
  have hbs : (dcOf gd).base ≤ (dcOf gd).L.length := by show gd.hist.length ≤ (gd.hist ++ gd.scr).length; simp
  have HIN := Lib.hid (rdIn_any hB.d (by omega) hbs y)
  rw [dcOf_in] at HIN
  have HX0 := Lib.hid (And.intro (hXp 0) (hXp 1))
  have HG1 : Hid (stepP g ⟨0, x, n, r, ⟨fk, fn, bk, bn, fl⟩, y, top, bottom⟩ = rowP g y (fun l => putL l x r ⟨fk, fn, bk, bn, fl⟩)) := Lib.hid (by unfold stepP; rw [if_pos rfl]; first | done | rfl)
  have HG1d : Hid (stepP gd ⟨0, x, n, r, ⟨fk, fn, bk, bn, fl⟩, y, top, bottom⟩ = rowP gd y (fun l => putL l x r ⟨fk, fn, bk, bn, fl⟩)) := Lib.hid (by unfold stepP; rw [if_pos rfl]; first | done | rfl)
  rw [HG1.out, HG1d.out]
  have HP : Hid (∀ w1, Below W.heap.size W w1 → Calls Tryz.prog 24 #[.pointer (some ⟨qp.P, 0, none⟩), .int .i64 y, .int .i64 x, .int .i32 r, .agg #[.int .i64 fk, .int .i64 fn, .int .i64 bk, .int .i64 bn, .int .i64 fl]] w1 (PgPost base W qp (rowP g y (fun l => putL l x r ⟨fk, fn, bk, bn, fl⟩)))) := Lib.hid (fun w1 hb => (pPut_any (hB.p.below hb) y x r ⟨fk, fn, bk, bn, fl⟩).mono (fun e w2 hh => ⟨hh.1, hh.2.pre hb⟩))
  have HD1 := Lib.hid (dcOf_row gd y (fun l => putL l x r ⟨fk, fn, bk, bn, fl⟩))
  cases hin : inP gd y with
  | false =>
    rw [hin] at HIN
    have HE : Hid (rowP gd y (fun l => putL l x r ⟨fk, fn, bk, bn, fl⟩) = gd) := Lib.hid (by unfold rowP; rw [hin]; rfl)
    generalize rowP g y (fun l => putL l x r ⟨fk, fn, bk, bn, fl⟩) = g1 at HP ⊢
    rw [HE.out]
    clear h hB hg hgd HD1
    have HWW := Lib.hid hW
    clear hW hb0 hXp hbs
    go_enter Tryz.func9, Tryz.ntmps9
    go_upto_region 2 with fail
    rw [show (#[.int .i64 0, .int .i64 x, .int .i64 n, .int .i32 r, .int .i64 fk, .int .i64 fn, .int .i64 bk, .int .i64 bn, .int .i64 fl, .int .i64 y, .int .i64 top, .int .i64 bottom] : Array Value) = (encPop ⟨0, x, n, r, ⟨fk, fn, bk, bn, fl⟩, y, top, bottom⟩).toArray from rfl, HWW.out]
    clear HWW
    obtain ⟨c0, c1, c2, c3, c4, c5, c6, c7, c8, c9, c10, c11, k0, k1⟩ := HO0.out
    go_upto_region 3 with (go_at_call 28; (with_reducible refine HIN.out.mono ?_); rintro e w1 ⟨rfl, hb⟩; have HB1 := Lib.hid hb; have HO1 := Lib.hid (HO0.out.below hb); clear hb)
    clear c0 c1 c2 c3 c4 c5 c6 c7 c8 c9 c10 c11 k0 k1
    obtain ⟨c0, c1, c2, c3, c4, c5, c6, c7, c8, c9, c10, c11, k0, k1⟩ := HO1.out
  
    go_wp2_with (go_at_call 24; (with_reducible refine (HP.out _ HB1.out).mono ?_); rintro e w2 ⟨rfl, hs⟩; have HS2 := Lib.hid hs; clear hs c0 c1 c2 c3 c4 c5 c6 c7 c8 c9 c10 c11 k0 k1)
    go_end0
    exact ⟨rfl, (HB0.out.step HS2.out ((HB0.out.mid HS2.out).res)).pre HB.out⟩
  | true =>
    rw [hin] at HIN
    have hin2 : dcIn (dcOf gd) y = true := by rw [dcOf_in]; exact hin
    obtain ⟨k, r0, rfl, hr, -, -⟩ := dcIn_row hB.d hin2
    have HRC : Hid (∀ w2 g1, PgRes base W qp g1 w2 → _) := Lib.hid (fun w2 g1 hs => row_calls (hB.mid (g1 := g1) hs) hin2 hr (by omega))
    generalize rowP g (k : Int) (fun l => putL l x r ⟨fk, fn, bk, bn, fl⟩) = g1 at HP ⊢
    generalize rowP gd (k : Int) (fun l => putL l x r ⟨fk, fn, bk, bn, fl⟩) = gd1 at HD1 ⊢
    have HC2 := Lib.hid hg.hcols
    clear h hB hg hgd hin hr hin2
    have HWW := Lib.hid hW
    clear hW hb0 hXp hbs
    go_enter Tryz.func9, Tryz.ntmps9
    go_upto_region 2 with fail
    rw [show (#[.int .i64 0, .int .i64 x, .int .i64 n, .int .i32 r, .int .i64 fk, .int .i64 fn, .int .i64 bk, .int .i64 bn, .int .i64 fl, .int .i64 (k : Int), .int .i64 top, .int .i64 bottom] : Array Value) = (encPop ⟨0, x, n, r, ⟨fk, fn, bk, bn, fl⟩, (k : Int), top, bottom⟩).toArray from rfl, HWW.out]
    clear HWW
    obtain ⟨c0, c1, c2, c3, c4, c5, c6, c7, c8, c9, c10, c11, k0, k1⟩ := HO0.out
    go_upto_region 3 with (go_at_call 28; (with_reducible refine HIN.out.mono ?_); rintro e w1 ⟨rfl, hb⟩; have HB1 := Lib.hid hb; have HO1 := Lib.hid (HO0.out.below hb); clear hb)
    clear c0 c1 c2 c3 c4 c5 c6 c7 c8 c9 c10 c11 k0 k1
    obtain ⟨c0, c1, c2, c3, c4, c5, c6, c7, c8, c9, c10, c11, k0, k1⟩ := HO1.out
  
    go_upto_region 7 with (go_at_call 24; (with_reducible refine (HP.out _ HB1.out).mono ?_); rintro e w2 ⟨rfl, hs⟩; have HS2 := Lib.hid hs; have HO2 := Lib.hid (HO0.out.mod hs.modr HX0.out.1 HX0.out.2); clear hs c0 c1 c2 c3 c4 c5 c6 c7 c8 c9 c10 c11 k0 k1)
    obtain ⟨hof, hrc, hrl, hce⟩ := HRC.out w2 g1 HS2.out
    have HOF := Lib.hid hof
    have HRR := Lib.hid hrc
    have HRL := Lib.hid hrl
    have HCE := Lib.hid (hce (fun l => putL l x r ⟨fk, fn, bk, bn, fl⟩) (fun l => putL_len _ _ _ _))
    clear hof hrc hrl hce
    have hO2 := HO2.out
    refine wp_region_n 17 (fun w' => Below w2.heap.size w2 w' ∧ OpC w' w.heap.size (w.heap.size + 1) ⟨0, x, n, r, ⟨fk, fn, bk, bn, fl⟩, k, top, bottom⟩) (by kernel_rfl) (by kernel_rfl) (fun w1 w2 hS hb => ⟨below_tail hS.1 hb, hS.2.below hb⟩) ⟨(Below.refl _ _).drew, (hO2 : OpC w2.drew _ _ _)⟩ ?_
    clear hO2
    refine AtN.take 0 (o := ⟨_, _, _, _, _, _⟩) (v := ?_) (by kernel_rfl) rfl (by simp) (by kernel_rfl) (by kernel_rfl) ?_ ?_; rotate_left
    · first | exact StabN.skip (by rfl) | (refine StabN.val (by rfl) ?_; intro w' hS; obtain ⟨_, _, _, _, _, _, _, _, _, _, _, _, _, _, _⟩ := hS; go_simp; first | done | with_reducible rfl)
    simp only [Act.put, List.setIfInBounds_toArray, List.set_cons_zero, List.set_cons_succ]
    refine AtN.take 1 (o := ⟨_, _, _, _, _, _⟩) (v := ?_) (by kernel_rfl) rfl (by simp) (by kernel_rfl) (by kernel_rfl) ?_ ?_; rotate_left
    · first | exact StabN.skip (by rfl) | (refine StabN.val (by rfl) ?_; intro w' hS; obtain ⟨_, _, _, _, _, _, _, _, _, _, _, _, _, _, _⟩ := hS; go_simp; first | done | with_reducible rfl)
    simp only [Act.put, List.setIfInBounds_toArray, List.set_cons_zero, List.set_cons_succ]
    refine AtN.take 2 (o := ⟨_, _, _, _, _, _⟩) (v := ?_) (by kernel_rfl) rfl (by simp) (by kernel_rfl) (by kernel_rfl) ?_ ?_; rotate_left
    · first | exact StabN.skip (by rfl) | (refine StabN.val (by rfl) ?_; intro w' hS; obtain ⟨_, _, _, _, _, _, _, _, _, _, _, _, _, _, _⟩ := hS; go_simp; first | done | with_reducible rfl)
    simp only [Act.put, List.setIfInBounds_toArray, List.set_cons_zero, List.set_cons_succ]
    refine AtN.take 3 (o := ⟨_, _, _, _, _, _⟩) (v := ?_) (by kernel_rfl) rfl (by simp) (by kernel_rfl) (by kernel_rfl) ?_ ?_; rotate_left
    · first | exact StabN.skip (by rfl) | (refine StabN.val (by rfl) ?_; intro w' hS; obtain ⟨_, _, _, _, _, _, _, _, _, _, _, _, _, _, _⟩ := hS; go_simp; first | done | with_reducible rfl)
    simp only [Act.put, List.setIfInBounds_toArray, List.set_cons_zero, List.set_cons_succ]
    refine AtN.take 4 (o := ⟨_, _, _, _, _, _⟩) (v := ?_) (by kernel_rfl) rfl (by simp) (by kernel_rfl) (by kernel_rfl) ?_ ?_; rotate_left
    · first | exact StabN.skip (by rfl) | (refine StabN.val (by rfl) ?_; intro w' hS; obtain ⟨_, _, _, _, _, _, _, _, _, _, _, _, _, _, _⟩ := hS; go_simp; first | done | with_reducible rfl)
    simp only [Act.put, List.setIfInBounds_toArray, List.set_cons_zero, List.set_cons_succ]
    refine AtN.take 5 (o := ⟨_, _, _, _, _, _⟩) (v := ?_) (by kernel_rfl) rfl (by simp) (by kernel_rfl) (by kernel_rfl) ?_ ?_; rotate_left
    · first | exact StabN.skip (by rfl) | (refine StabN.val (by rfl) ?_; intro w' hS; obtain ⟨_, _, _, _, _, _, _, _, _, _, _, _, _, _, _⟩ := hS; go_simp; first | done | with_reducible rfl)
    simp only [Act.put, List.setIfInBounds_toArray, List.set_cons_zero, List.set_cons_succ]
    refine AtN.take 6 (o := ⟨_, _, _, _, _, _⟩) (v := .slice r0.A r0.cs.length r0.cap) (by kernel_rfl) rfl (by simp) (by kernel_rfl) (by kernel_rfl) (StabN.call1 31 #[.pointer (some ⟨qd.D, 0, none⟩), .int .i64 k] (.slice r0.A r0.cs.length r0.cap) (by rfl) (by intro w'; go_simp; done) (fun w' hS => HOF.out _ hS.1)) ?_
    simp only [Act.put, List.setIfInBounds_toArray, List.set_cons_zero, List.set_cons_succ]
    refine AtN.take 7 (o := ⟨_, _, _, _, _, _⟩) (v := ?_) (by kernel_rfl) rfl (by simp) (by kernel_rfl) (by kernel_rfl) ?_ ?_; rotate_left
    · first | exact StabN.skip (by rfl) | (refine StabN.val (by rfl) ?_; intro w' hS; obtain ⟨_, _, _, _, _, _, _, _, _, _, _, _, _, _, _⟩ := hS; go_simp; first | done | with_reducible rfl)
    simp only [Act.put, List.setIfInBounds_toArray, List.set_cons_zero, List.set_cons_succ]
    refine AtN.take 8 (o := ⟨_, _, _, _, _, _⟩) (v := ?_) (by kernel_rfl) rfl (by simp) (by kernel_rfl) (by kernel_rfl) ?_ ?_; rotate_left
    · first | exact StabN.skip (by rfl) | (refine StabN.val (by rfl) ?_; intro w' hS; obtain ⟨_, _, _, _, _, _, _, _, _, _, _, _, _, _, _⟩ := hS; go_simp; first | done | with_reducible rfl)
    simp only [Act.put, List.setIfInBounds_toArray, List.set_cons_zero, List.set_cons_succ]
    refine AtN.take 9 (o := ⟨_, _, _, _, _, _⟩) (v := ?_) (by kernel_rfl) rfl (by simp) (by kernel_rfl) (by kernel_rfl) ?_ ?_; rotate_left
    · first | exact StabN.skip (by rfl) | (refine StabN.val (by rfl) ?_; intro w' hS; obtain ⟨_, _, _, _, _, _, _, _, _, _, _, _, _, _, _⟩ := hS; go_simp; first | done | with_reducible rfl)
    simp only [Act.put, List.setIfInBounds_toArray, List.set_cons_zero, List.set_cons_succ]
    refine AtN.take 10 (o := ⟨_, _, _, _, _, _⟩) (v := ?_) (by kernel_rfl) rfl (by simp) (by kernel_rfl) (by kernel_rfl) ?_ ?_; rotate_left
    · first | exact StabN.skip (by rfl) | (refine StabN.val (by rfl) ?_; intro w' hS; obtain ⟨_, _, _, _, _, _, _, _, _, _, _, _, _, _, _⟩ := hS; go_simp; first | done | with_reducible rfl)
    simp only [Act.put, List.setIfInBounds_toArray, List.set_cons_zero, List.set_cons_succ]
    refine AtN.take 11 (o := ⟨_, _, _, _, _, _⟩) (v := ?_) (by kernel_rfl) rfl (by simp) (by kernel_rfl) (by kernel_rfl) ?_ ?_; rotate_left
    · first | exact StabN.skip (by rfl) | (refine StabN.val (by rfl) ?_; intro w' hS; obtain ⟨_, _, _, _, _, _, _, _, _, _, _, _, _, _, _⟩ := hS; go_simp; first | done | with_reducible rfl)
    simp only [Act.put, List.setIfInBounds_toArray, List.set_cons_zero, List.set_cons_succ]
    refine AtN.take 12 (o := ⟨_, _, _, _, _, _⟩) (v := ?_) (by kernel_rfl) rfl (by simp) (by kernel_rfl) (by kernel_rfl) ?_ ?_; rotate_left
    · first | exact StabN.skip (by rfl) | (refine StabN.val (by rfl) ?_; intro w' hS; obtain ⟨_, _, _, _, _, _, _, _, _, _, _, _, _, _, _⟩ := hS; go_simp; first | done | with_reducible rfl)
    simp only [Act.put, List.setIfInBounds_toArray, List.set_cons_zero, List.set_cons_succ]
    refine AtN.take 13 (o := ⟨_, _, _, _, _, _⟩) (v := ?_) (by kernel_rfl) rfl (by simp) (by kernel_rfl) (by kernel_rfl) ?_ ?_; rotate_left
    · first | exact StabN.skip (by rfl) | (refine StabN.val (by rfl) ?_; intro w' hS; obtain ⟨_, _, _, _, _, _, _, _, _, _, _, _, _, _, _⟩ := hS; go_simp; first | done | with_reducible rfl)
    simp only [Act.put, List.setIfInBounds_toArray, List.set_cons_zero, List.set_cons_succ]
    refine AtN.take 14 (o := ⟨_, _, _, _, _, _⟩) (v := ?_) (by kernel_rfl) rfl (by simp) (by kernel_rfl) (by kernel_rfl) ?_ ?_; rotate_left
    · first | exact StabN.skip (by rfl) | (refine StabN.val (by rfl) ?_; intro w' hS; obtain ⟨_, _, _, _, _, _, _, _, _, _, _, _, _, _, _⟩ := hS; go_simp; first | done | with_reducible rfl)
    simp only [Act.put, List.setIfInBounds_toArray, List.set_cons_zero, List.set_cons_succ]
    refine AtN.take 15 (o := ⟨_, _, _, _, _, _⟩) (v := ?_) (by kernel_rfl) rfl (by simp) (by kernel_rfl) (by kernel_rfl) ?_ ?_; rotate_left
    · first | exact StabN.skip (by rfl) | (refine StabN.val (by rfl) ?_; intro w' hS; obtain ⟨_, _, _, _, _, _, _, _, _, _, _, _, _, _, _⟩ := hS; go_simp; first | done | with_reducible rfl)
    simp only [Act.put, List.setIfInBounds_toArray, List.set_cons_zero, List.set_cons_succ]
    refine AtN.one 16 (o := ⟨_, _, _, _, _, _⟩) (fun v => ∃ g cap, v = .slice (some ⟨g, 0, none⟩) r0.cs.length cap) (fun v w' => ∃ g cap, v = .slice (some ⟨g, 0, none⟩) r0.cs.length cap ∧ RcAt w' ⟨some ⟨g, 0, none⟩, (fun l => putL l x r ⟨fk, fn, bk, bn, fl⟩) r0.cs, cap, r0.cont⟩) (by simp) (by kernel_rfl) rfl (fun v w1 w2 ⟨g, cap, hv, hr⟩ hb => ⟨g, cap, hv, hr.below hb⟩) (StabN.call 30 #[.slice r0.A r0.cs.length r0.cap, .int .i64 x, .int .i32 r, .agg #[.int .i64 fk, .int .i64 fn, .int .i64 bk, .int .i64 bn, .int .i64 fl]] _ _ (by rfl) ?_ (fun w' hS => ?_)) ?_
    · intro w'
      go_simp
    · have hrc := HRR.out w' hS.1
      have h0 : 0 < r0.cs.length := by rw [HRL.out]; have := HB0.out.d.cols2; omega
      refine (rPut_any r0.A r0.cs r0.cap x r ⟨fk, fn, bk, bn, fl⟩ w' hrc.2.2.1 h0 hrc.1).mono ?_
      rintro e w3 ⟨g1, cap, rfl, hc, hb⟩
      have hlen : (putL r0.cs x r ⟨fk, fn, bk, bn, fl⟩).length = r0.cs.length := putL_len _ _ _ _
      rw [hlen]
      exact ⟨_, rfl, ⟨⟨g1, cap, rfl⟩, g1, cap, rfl, .of_own hc (by rw [hlen]; exact hrc.1) (hrc.2.1.put _ _ _) _⟩, hb⟩
    rintro v ⟨g5, cap, rfl⟩
    simp only [Act.put, List.setIfInBounds_toArray, List.set_cons_zero, List.set_cons_succ]
    refine AtN.done (by kernel_rfl) (fun w' hS => ?_)
    obtain ⟨⟨hb1, -⟩, g1', cap', hv', hrc'⟩ := hS
    simp only [Value.slice.injEq, Option.some.injEq, Addr.mk.injEq, and_true, true_and] at hv'
    obtain ⟨rfl, rfl⟩ := hv'
    have HCE2 := Lib.hid (HCE.out w' g5 cap hb1 hrc')
    rw [HD1.out] at HCE2
    clear hb1 hrc'
    go_wp2_with (go_at_call 29; (with_reducible refine HCE2.out.mono ?_); rintro e w4 ⟨rfl, hs⟩; have HS4 := Lib.hid hs; clear hs)
    go_end0
    exact ⟨rfl, (HB0.out.step HS2.out HS4.out).pre HB.out⟩
set_option maxRecDepth 100000 in
set_option maxHeartbeats 6400000 in
theorem does1_two {base : Nat} {w : World} {qp : Pv} {qd : Dv} {g gd : Pg} {rows cols room rows' cols' room' : Nat} (h : Both2 base w qp qd g gd) (hg : PgInv rows cols room g) (hgd : PgInv rows' cols' room' gd) (hrows : rows ≤ 1000) (hrows' : rows' ≤ 1000) (hroom : room ≤ 100000) (hroom' : room' ≤ 100000) (ht : g.told.length ≤ 900000) (ht' : gd.told.length ≤ 900000) (o : Pop) (ho : o.kind = 1) (hok : PopOk o) :
    Calls Tryz.prog 9 #[.pointer (some ⟨qp.P, 0, none⟩), .pointer (some ⟨qd.D, 0, none⟩), .agg #[.int .i64 o.kind, .int .i64 o.x, .int .i64 o.n, .int .i32 o.r, .int .i64 o.at_.fk, .int .i64 o.at_.fn, .int .i64 o.at_.bk, .int .i64 o.at_.bn, .int .i64 o.at_.fl, .int .i64 o.y, .int .i64 o.top, .int .i64 o.bottom]] w (DoesPost2 base w qp qd (stepP g o) (stepP gd o)) := by
  obtain ⟨kind, x, n, r, ⟨fk, fn, bk, bn, fl⟩, y, top, bottom⟩ := o
  simp only at ho
  subst ho
  obtain ⟨W, hW⟩ : ∃ W, (w.alloc (.cells (encPop ⟨1, x, n, r, ⟨fk, fn, bk, bn, fl⟩, y, top, bottom⟩).toArray 38)).alloc (.cells #[.int .i64 bk, .int .i64 bn] 32) = W := ⟨_, rfl⟩
  have hb0 : Below w.heap.size w W := by rw [← hW]; exact below_allocs (below_allocs (Below.refl _ _) _) _
  have HO0 : Hid (OpC W w.heap.size (w.heap.size + 1) ⟨1, x, n, r, ⟨fk, fn, bk, bn, fl⟩, y, top, bottom⟩) := Lib.hid (by rw [← hW]; exact OpC.new _)
  have HB := Lib.hid hb0
  have hB := h.below hb0
  have HB0 := Lib.hid hB
  have hXp : ∀ i, w.heap.size + i ∉ pgX qp := fun i hx => by have := (h.p.lt _ hx).2; omega
  have hr1 := hgd.hrows
  have hr2 := hgd.hroom
  have hr3 := hgd.hhist
  have hL : (dcOf gd).L.length ≤ 900000 := by show (gd.hist ++ gd.scr).length ≤ _; simp; omega
  have hbs : (dcOf gd).base ≤ (dcOf gd).L.length := by show gd.hist.length ≤ (gd.hist ++ gd.scr).length; simp
  have HIN := Lib.hid (rdIn_any hB.d (by omega) hbs y)
  rw [dcOf_in] at HIN
  have HX0 := Lib.hid (And.intro (hXp 0) (hXp 1))
  have HG1 : Hid (stepP g ⟨1, x, n, r, ⟨fk, fn, bk, bn, fl⟩, y, top, bottom⟩ = rowP g y (fun l => markL l x r)) := Lib.hid (by unfold stepP; rw [if_neg (show ¬ (1 : Int) = 0 by decide)]; rw [if_pos rfl]; first | done | rfl)
  have HG1d : Hid (stepP gd ⟨1, x, n, r, ⟨fk, fn, bk, bn, fl⟩, y, top, bottom⟩ = rowP gd y (fun l => markL l x r)) := Lib.hid (by unfold stepP; rw [if_neg (show ¬ (1 : Int) = 0 by decide)]; rw [if_pos rfl]; first | done | rfl)
  rw [HG1.out, HG1d.out]
  have HP : Hid (∀ w1, Below W.heap.size W w1 → Calls Tryz.prog 32 #[.pointer (some ⟨qp.P, 0, none⟩), .int .i64 y, .int .i64 x, .int .i32 r] w1 (PgPost base W qp (rowP g y (fun l => markL l x r)))) := Lib.hid (fun w1 hb => (pMark_any (hB.p.below hb) y x r).mono (fun e w2 hh => ⟨hh.1, hh.2.pre hb⟩))
  have HD1 := Lib.hid (dcOf_row gd y (fun l => markL l x r))
  cases hin : inP gd y with
  | false =>
    rw [hin] at HIN
    have HE : Hid (rowP gd y (fun l => markL l x r) = gd) := Lib.hid (by unfold rowP; rw [hin]; rfl)
    generalize rowP g y (fun l => markL l x r) = g1 at HP ⊢
    rw [HE.out]
    clear h hB hg hgd HD1
    have HWW := Lib.hid hW
    clear hW hb0 hXp hbs
    go_enter Tryz.func9, Tryz.ntmps9
    go_upto_region 2 with fail
    rw [show (#[.int .i64 1, .int .i64 x, .int .i64 n, .int .i32 r, .int .i64 fk, .int .i64 fn, .int .i64 bk, .int .i64 bn, .int .i64 fl, .int .i64 y, .int .i64 top, .int .i64 bottom] : Array Value) = (encPop ⟨1, x, n, r, ⟨fk, fn, bk, bn, fl⟩, y, top, bottom⟩).toArray from rfl, HWW.out]
    clear HWW
    obtain ⟨c0, c1, c2, c3, c4, c5, c6, c7, c8, c9, c10, c11, k0, k1⟩ := HO0.out
    go_upto_region 3 with (go_at_call 28; (with_reducible refine HIN.out.mono ?_); rintro e w1 ⟨rfl, hb⟩; have HB1 := Lib.hid hb; have HO1 := Lib.hid (HO0.out.below hb); clear hb)
    clear c0 c1 c2 c3 c4 c5 c6 c7 c8 c9 c10 c11 k0 k1
    obtain ⟨c0, c1, c2, c3, c4, c5, c6, c7, c8, c9, c10, c11, k0, k1⟩ := HO1.out
  
    go_wp2_with (go_at_call 32; (with_reducible refine (HP.out _ HB1.out).mono ?_); rintro e w2 ⟨rfl, hs⟩; have HS2 := Lib.hid hs; clear hs c0 c1 c2 c3 c4 c5 c6 c7 c8 c9 c10 c11 k0 k1)
    go_end0
    exact ⟨rfl, (HB0.out.step HS2.out ((HB0.out.mid HS2.out).res)).pre HB.out⟩
  | true =>
    rw [hin] at HIN
    have hin2 : dcIn (dcOf gd) y = true := by rw [dcOf_in]; exact hin
    obtain ⟨k, r0, rfl, hr, -, -⟩ := dcIn_row hB.d hin2
    have HRC : Hid (∀ w2 g1, PgRes base W qp g1 w2 → _) := Lib.hid (fun w2 g1 hs => row_calls (hB.mid (g1 := g1) hs) hin2 hr (by omega))
    generalize rowP g (k : Int) (fun l => markL l x r) = g1 at HP ⊢
    generalize rowP gd (k : Int) (fun l => markL l x r) = gd1 at HD1 ⊢
    have HC2 := Lib.hid hg.hcols
    clear h hB hg hgd hin hr hin2
    have HWW := Lib.hid hW
    clear hW hb0 hXp hbs
    go_enter Tryz.func9, Tryz.ntmps9
    go_upto_region 2 with fail
    rw [show (#[.int .i64 1, .int .i64 x, .int .i64 n, .int .i32 r, .int .i64 fk, .int .i64 fn, .int .i64 bk, .int .i64 bn, .int .i64 fl, .int .i64 (k : Int), .int .i64 top, .int .i64 bottom] : Array Value) = (encPop ⟨1, x, n, r, ⟨fk, fn, bk, bn, fl⟩, (k : Int), top, bottom⟩).toArray from rfl, HWW.out]
    clear HWW
    obtain ⟨c0, c1, c2, c3, c4, c5, c6, c7, c8, c9, c10, c11, k0, k1⟩ := HO0.out
    go_upto_region 3 with (go_at_call 28; (with_reducible refine HIN.out.mono ?_); rintro e w1 ⟨rfl, hb⟩; have HB1 := Lib.hid hb; have HO1 := Lib.hid (HO0.out.below hb); clear hb)
    clear c0 c1 c2 c3 c4 c5 c6 c7 c8 c9 c10 c11 k0 k1
    obtain ⟨c0, c1, c2, c3, c4, c5, c6, c7, c8, c9, c10, c11, k0, k1⟩ := HO1.out
  
    go_upto_region 11 with (go_at_call 32; (with_reducible refine (HP.out _ HB1.out).mono ?_); rintro e w2 ⟨rfl, hs⟩; have HS2 := Lib.hid hs; have HO2 := Lib.hid (HO0.out.mod hs.modr HX0.out.1 HX0.out.2); clear hs c0 c1 c2 c3 c4 c5 c6 c7 c8 c9 c10 c11 k0 k1)
    obtain ⟨hof, hrc, hrl, hce⟩ := HRC.out w2 g1 HS2.out
    have HOF := Lib.hid hof
    have HRR := Lib.hid hrc
    have HRL := Lib.hid hrl
    have HCE := Lib.hid (hce (fun l => markL l x r) (fun l => markL_len _ _ _))
    clear hof hrc hrl hce
    have hO2 := HO2.out
    refine wp_region_n 14 (fun w' => Below w2.heap.size w2 w' ∧ OpC w' w.heap.size (w.heap.size + 1) ⟨1, x, n, r, ⟨fk, fn, bk, bn, fl⟩, k, top, bottom⟩) (by kernel_rfl) (by kernel_rfl) (fun w1 w2 hS hb => ⟨below_tail hS.1 hb, hS.2.below hb⟩) ⟨(Below.refl _ _).drew, (hO2 : OpC w2.drew _ _ _)⟩ ?_
    clear hO2
    refine AtN.take 0 (o := ⟨_, _, _, _, _, _⟩) (v := ?_) (by kernel_rfl) rfl (by simp) (by kernel_rfl) (by kernel_rfl) ?_ ?_; rotate_left
    · first | exact StabN.skip (by rfl) | (refine StabN.val (by rfl) ?_; intro w' hS; obtain ⟨_, _, _, _, _, _, _, _, _, _, _, _, _, _, _⟩ := hS; go_simp; first | done | with_reducible rfl)
    simp only [Act.put, List.setIfInBounds_toArray, List.set_cons_zero, List.set_cons_succ]
    refine AtN.take 1 (o := ⟨_, _, _, _, _, _⟩) (v := ?_) (by kernel_rfl) rfl (by simp) (by kernel_rfl) (by kernel_rfl) ?_ ?_; rotate_left
    · first | exact StabN.skip (by rfl) | (refine StabN.val (by rfl) ?_; intro w' hS; obtain ⟨_, _, _, _, _, _, _, _, _, _, _, _, _, _, _⟩ := hS; go_simp; first | done | with_reducible rfl)
    simp only [Act.put, List.setIfInBounds_toArray, List.set_cons_zero, List.set_cons_succ]
    refine AtN.take 2 (o := ⟨_, _, _, _, _, _⟩) (v := ?_) (by kernel_rfl) rfl (by simp) (by kernel_rfl) (by kernel_rfl) ?_ ?_; rotate_left
    · first | exact StabN.skip (by rfl) | (refine StabN.val (by rfl) ?_; intro w' hS; obtain ⟨_, _, _, _, _, _, _, _, _, _, _, _, _, _, _⟩ := hS; go_simp; first | done | with_reducible rfl)
    simp only [Act.put, List.setIfInBounds_toArray, List.set_cons_zero, List.set_cons_succ]
    refine AtN.take 3 (o := ⟨_, _, _, _, _, _⟩) (v := ?_) (by kernel_rfl) rfl (by simp) (by kernel_rfl) (by kernel_rfl) ?_ ?_; rotate_left
    · first | exact StabN.skip (by rfl) | (refine StabN.val (by rfl) ?_; intro w' hS; obtain ⟨_, _, _, _, _, _, _, _, _, _, _, _, _, _, _⟩ := hS; go_simp; first | done | with_reducible rfl)
    simp only [Act.put, List.setIfInBounds_toArray, List.set_cons_zero, List.set_cons_succ]
    refine AtN.take 4 (o := ⟨_, _, _, _, _, _⟩) (v := ?_) (by kernel_rfl) rfl (by simp) (by kernel_rfl) (by kernel_rfl) ?_ ?_; rotate_left
    · first | exact StabN.skip (by rfl) | (refine StabN.val (by rfl) ?_; intro w' hS; obtain ⟨_, _, _, _, _, _, _, _, _, _, _, _, _, _, _⟩ := hS; go_simp; first | done | with_reducible rfl)
    simp only [Act.put, List.setIfInBounds_toArray, List.set_cons_zero, List.set_cons_succ]
    refine AtN.take 5 (o := ⟨_, _, _, _, _, _⟩) (v := ?_) (by kernel_rfl) rfl (by simp) (by kernel_rfl) (by kernel_rfl) ?_ ?_; rotate_left
    · first | exact StabN.skip (by rfl) | (refine StabN.val (by rfl) ?_; intro w' hS; obtain ⟨_, _, _, _, _, _, _, _, _, _, _, _, _, _, _⟩ := hS; go_simp; first | done | with_reducible rfl)
    simp only [Act.put, List.setIfInBounds_toArray, List.set_cons_zero, List.set_cons_succ]
    refine AtN.take 6 (o := ⟨_, _, _, _, _, _⟩) (v := .slice r0.A r0.cs.length r0.cap) (by kernel_rfl) rfl (by simp) (by kernel_rfl) (by kernel_rfl) (StabN.call1 31 #[.pointer (some ⟨qd.D, 0, none⟩), .int .i64 k] (.slice r0.A r0.cs.length r0.cap) (by rfl) (by intro w'; go_simp; done) (fun w' hS => HOF.out _ hS.1)) ?_
    simp only [Act.put, List.setIfInBounds_toArray, List.set_cons_zero, List.set_cons_succ]
    refine AtN.take 7 (o := ⟨_, _, _, _, _, _⟩) (v := ?_) (by kernel_rfl) rfl (by simp) (by kernel_rfl) (by kernel_rfl) ?_ ?_; rotate_left
    · first | exact StabN.skip (by rfl) | (refine StabN.val (by rfl) ?_; intro w' hS; obtain ⟨_, _, _, _, _, _, _, _, _, _, _, _, _, _, _⟩ := hS; go_simp; first | done | with_reducible rfl)
    simp only [Act.put, List.setIfInBounds_toArray, List.set_cons_zero, List.set_cons_succ]
    refine AtN.take 8 (o := ⟨_, _, _, _, _, _⟩) (v := ?_) (by kernel_rfl) rfl (by simp) (by kernel_rfl) (by kernel_rfl) ?_ ?_; rotate_left
    · first | exact StabN.skip (by rfl) | (refine StabN.val (by rfl) ?_; intro w' hS; obtain ⟨_, _, _, _, _, _, _, _, _, _, _, _, _, _, _⟩ := hS; go_simp; first | done | with_reducible rfl)
    simp only [Act.put, List.setIfInBounds_toArray, List.set_cons_zero, List.set_cons_succ]
    refine AtN.take 9 (o := ⟨_, _, _, _, _, _⟩) (v := ?_) (by kernel_rfl) rfl (by simp) (by kernel_rfl) (by kernel_rfl) ?_ ?_; rotate_left
    · first | exact StabN.skip (by rfl) | (refine StabN.val (by rfl) ?_; intro w' hS; obtain ⟨_, _, _, _, _, _, _, _, _, _, _, _, _, _, _⟩ := hS; go_simp; first | done | with_reducible rfl)
    simp only [Act.put, List.setIfInBounds_toArray, List.set_cons_zero, List.set_cons_succ]
    refine AtN.take 10 (o := ⟨_, _, _, _, _, _⟩) (v := ?_) (by kernel_rfl) rfl (by simp) (by kernel_rfl) (by kernel_rfl) ?_ ?_; rotate_left
    · first | exact StabN.skip (by rfl) | (refine StabN.val (by rfl) ?_; intro w' hS; obtain ⟨_, _, _, _, _, _, _, _, _, _, _, _, _, _, _⟩ := hS; go_simp; first | done | with_reducible rfl)
    simp only [Act.put, List.setIfInBounds_toArray, List.set_cons_zero, List.set_cons_succ]
    refine AtN.take 11 (o := ⟨_, _, _, _, _, _⟩) (v := ?_) (by kernel_rfl) rfl (by simp) (by kernel_rfl) (by kernel_rfl) ?_ ?_; rotate_left
    · first | exact StabN.skip (by rfl) | (refine StabN.val (by rfl) ?_; intro w' hS; obtain ⟨_, _, _, _, _, _, _, _, _, _, _, _, _, _, _⟩ := hS; go_simp; first | done | with_reducible rfl)
    simp only [Act.put, List.setIfInBounds_toArray, List.set_cons_zero, List.set_cons_succ]
    refine AtN.take 12 (o := ⟨_, _, _, _, _, _⟩) (v := ?_) (by kernel_rfl) rfl (by simp) (by kernel_rfl) (by kernel_rfl) ?_ ?_; rotate_left
    · first | exact StabN.skip (by rfl) | (refine StabN.val (by rfl) ?_; intro w' hS; obtain ⟨_, _, _, _, _, _, _, _, _, _, _, _, _, _, _⟩ := hS; go_simp; first | done | with_reducible rfl)
    simp only [Act.put, List.setIfInBounds_toArray, List.set_cons_zero, List.set_cons_succ]
    refine AtN.one 13 (o := ⟨_, _, _, _, _, _⟩) (fun v => ∃ g cap, v = .slice (some ⟨g, 0, none⟩) r0.cs.length cap) (fun v w' => ∃ g cap, v = .slice (some ⟨g, 0, none⟩) r0.cs.length cap ∧ RcAt w' ⟨some ⟨g, 0, none⟩, (fun l => markL l x r) r0.cs, cap, r0.cont⟩) (by simp) (by kernel_rfl) rfl (fun v w1 w2 ⟨g, cap, hv, hr⟩ hb => ⟨g, cap, hv, hr.below hb⟩) (StabN.call 33 #[.slice r0.A r0.cs.length r0.cap, .int .i64 x, .int .i32 r] _ _ (by rfl) ?_ (fun w' hS => ?_)) ?_
    · intro w'
      go_simp
    · have hrc := HRR.out w' hS.1
      have h0 : 0 < r0.cs.length := by rw [HRL.out]; have := HB0.out.d.cols2; omega
      refine (rMark_any r0.A r0.cs r0.cap x r w' hrc.2.2.1 h0 hrc.1 hrc.2.1).mono ?_
      rintro e w3 ⟨g1, cap, rfl, hc, hb⟩
      have hlen : (markL r0.cs x r).length = r0.cs.length := markL_len _ _ _
      rw [hlen]
      exact ⟨_, rfl, ⟨⟨g1, cap, rfl⟩, g1, cap, rfl, .of_own hc (by rw [hlen]; exact hrc.1) (hrc.2.1.mark _ _) _⟩, hb⟩
    rintro v ⟨g5, cap, rfl⟩
    simp only [Act.put, List.setIfInBounds_toArray, List.set_cons_zero, List.set_cons_succ]
    refine AtN.done (by kernel_rfl) (fun w' hS => ?_)
    obtain ⟨⟨hb1, -⟩, g1', cap', hv', hrc'⟩ := hS
    simp only [Value.slice.injEq, Option.some.injEq, Addr.mk.injEq, and_true, true_and] at hv'
    obtain ⟨rfl, rfl⟩ := hv'
    have HCE2 := Lib.hid (HCE.out w' g5 cap hb1 hrc')
    rw [HD1.out] at HCE2
    clear hb1 hrc'
    go_wp2_with (go_at_call 29; (with_reducible refine HCE2.out.mono ?_); rintro e w4 ⟨rfl, hs⟩; have HS4 := Lib.hid hs; clear hs)
    go_end0
    exact ⟨rfl, (HB0.out.step HS2.out HS4.out).pre HB.out⟩
end Go.Proofs.YtffdblmdelgkaaaGreat
namespace Go.Proofs.YtffdblmdelgkaaaGreat
open Go.RowKit
set_option maxRecDepth 100000 in
set_option maxHeartbeats 6400000 in
theorem does2_two {base : Nat} {w : World} {qp : Pv} {qd : Dv} {g gd : Pg} {rows cols room rows' cols' room' : Nat} (h : Both2 base w qp qd g gd) (hg : PgInv rows cols room g) (hgd : PgInv rows' cols' room' gd) (hrow0 : 0 < rows) (hrow0' : 0 < rows') (hrows : rows ≤ 1000) (hrows' : rows' ≤ 1000) (hroom : room ≤ 100000) (hroom' : room' ≤ 100000) (ht : g.told.length ≤ 900000) (ht' : gd.told.length ≤ 900000) (o : Pop) (ho : o.kind = 2) (hok : PopOk o) :
    Calls Tryz.prog 9 #[.pointer (some ⟨qp.P, 0, none⟩), .pointer (some ⟨qd.D, 0, none⟩), .agg #[.int .i64 o.kind, .int .i64 o.x, .int .i64 o.n, .int .i32 o.r, .int .i64 o.at_.fk, .int .i64 o.at_.fn, .int .i64 o.at_.bk, .int .i64 o.at_.bn, .int .i64 o.at_.fl, .int .i64 o.y, .int .i64 o.top, .int .i64 o.bottom]] w (DoesPost2 base w qp qd (stepP g o) (stepP gd o)) := by
  obtain ⟨kind, x, n, r, ⟨fk, fn, bk, bn, fl⟩, y, top, bottom⟩ := o
  simp only at ho
  subst ho
  obtain ⟨W, hW⟩ : ∃ W, (w.alloc (.cells (encPop ⟨2, x, n, r, ⟨fk, fn, bk, bn, fl⟩, y, top, bottom⟩).toArray 38)).alloc (.cells #[.int .i64 bk, .int .i64 bn] 32) = W := ⟨_, rfl⟩
  have hb0 : Below w.heap.size w W := by rw [← hW]; exact below_allocs (below_allocs (Below.refl _ _) _) _
  have HO0 : Hid (OpC W w.heap.size (w.heap.size + 1) ⟨2, x, n, r, ⟨fk, fn, bk, bn, fl⟩, y, top, bottom⟩) := Lib.hid (by rw [← hW]; exact OpC.new _)
  have HB := Lib.hid hb0
  have hB := h.below hb0
  have HB0 := Lib.hid hB
  have hXp : ∀ i, w.heap.size + i ∉ pgX qp := fun i hx => by have := (h.p.lt _ hx).2; omega
  have hr1 := hgd.hrows
  have hr2 := hgd.hroom
  have hr3 := hgd.hhist
  have hL : (dcOf gd).L.length ≤ 900000 := by show (gd.hist ++ gd.scr).length ≤ _; simp; omega
  have hbs : (dcOf gd).base ≤ (dcOf gd).L.length := by show gd.hist.length ≤ (gd.hist ++ gd.scr).length; simp
  have HIN := Lib.hid (rdIn_any hB.d (by omega) hbs y)
  rw [dcOf_in] at HIN
  have HX0 := Lib.hid (And.intro (hXp 0) (hXp 1))
  have HG1 : Hid (stepP g ⟨2, x, n, r, ⟨fk, fn, bk, bn, fl⟩, y, top, bottom⟩ = eraseP g y x n ⟨bk, bn⟩) := Lib.hid (by unfold stepP; rw [if_neg (show ¬ (2 : Int) = 0 by decide)]; rw [if_neg (show ¬ (2 : Int) = 1 by decide)]; rw [if_pos rfl]; first | rfl | skip)
  have HG1d : Hid (stepP gd ⟨2, x, n, r, ⟨fk, fn, bk, bn, fl⟩, y, top, bottom⟩ = eraseP gd y x n ⟨bk, bn⟩) := Lib.hid (by unfold stepP; rw [if_neg (show ¬ (2 : Int) = 0 by decide)]; rw [if_neg (show ¬ (2 : Int) = 1 by decide)]; rw [if_pos rfl]; first | rfl | skip)
  rw [HG1.out, HG1d.out]
  have hn1 := hok.hn.1
  have hn2 := hok.hn.2
  have hy1 := hok.hy.1
  have HP : Hid (∀ w1, Below W.heap.size W w1 → Calls Tryz.prog 34 #[.pointer (some ⟨qp.P, 0, none⟩), .int .i64 y, .int .i64 x, .int .i64 n, .agg #[.int .i64 bk, .int .i64 bn]] w1 (PgPost base W qp (eraseP g y x n ⟨bk, bn⟩))) := Lib.hid (fun w1 hb => (pErase_any (hB.p.below hb) y x n ⟨bk, bn⟩).mono (fun e w2 hh => ⟨hh.1, hh.2.pre hb⟩))
  have hbL : 0 < gd.scr.length → (dcOf gd).base < (dcOf gd).L.length := fun h0 => by show gd.hist.length < (gd.hist ++ gd.scr).length; simp; omega
  have hbs2 : (dcOf gd).base ≤ (dcOf gd).L.length := by show gd.hist.length ≤ (gd.hist ++ gd.scr).length; simp
  have hscr : 0 < gd.scr.length := by rw [hr1]; exact hrow0'
  have HD : Hid (∀ w2, PgRes base W qp (eraseP g y x n ⟨bk, bn⟩) w2 → Calls Tryz.prog 35 #[.pointer (some ⟨qd.D, 0, none⟩), .int .i64 y, .int .i64 x, .int .i64 n, .agg #[.int .i64 bk, .int .i64 bn]] w2 (DcPost base w2 qd (dcOf (eraseP gd y x n ⟨bk, bn⟩)))) := Lib.hid (fun w2 hs => by
    have hd := hB.mid hs
    rw [← dcOf_erase]
    exact rdErase_any hd y x n ⟨bk, bn⟩ hbs2 hL hy1)
  generalize eraseP g y x n ⟨bk, bn⟩ = g1 at HP HD ⊢
  generalize eraseP gd y x n ⟨bk, bn⟩ = gd1 at HD ⊢
  cases hin : inP gd y
  all_goals
    rw [hin] at HIN
    clear h hB hg hgd hin hbL hscr hbs2
    have HWW := Lib.hid hW
    clear hW hb0 hXp hbs
    go_enter Tryz.func9, Tryz.ntmps9
    go_upto_region 2 with fail
    rw [show (#[.int .i64 2, .int .i64 x, .int .i64 n, .int .i32 r, .int .i64 fk, .int .i64 fn, .int .i64 bk, .int .i64 bn, .int .i64 fl, .int .i64 y, .int .i64 top, .int .i64 bottom] : Array Value) = (encPop ⟨2, x, n, r, ⟨fk, fn, bk, bn, fl⟩, y, top, bottom⟩).toArray from rfl, HWW.out]
    clear HWW
    obtain ⟨c0, c1, c2, c3, c4, c5, c6, c7, c8, c9, c10, c11, k0, k1⟩ := HO0.out
    go_upto_region 3 with (go_at_call 28; (with_reducible refine HIN.out.mono ?_); rintro e w1 ⟨rfl, hb⟩; have HB1 := Lib.hid hb; have HO1 := Lib.hid (HO0.out.below hb); clear hb)
    clear c0 c1 c2 c3 c4 c5 c6 c7 c8 c9 c10 c11 k0 k1
    obtain ⟨c0, c1, c2, c3, c4, c5, c6, c7, c8, c9, c10, c11, k0, k1⟩ := HO1.out
  
    go_upto_region 14 with (go_at_call 34; (with_reducible refine (HP.out _ HB1.out).mono ?_); rintro e w2 ⟨rfl, hs⟩; have HS2 := Lib.hid hs; have HO2 := Lib.hid (HO0.out.mod hs.modr HX0.out.1 HX0.out.2); clear hs c0 c1 c2 c3 c4 c5 c6 c7 c8 c9 c10 c11 k0 k1)
    obtain ⟨c0, c1, c2, c3, c4, c5, c6, c7, c8, c9, c10, c11, k0, k1⟩ := HO2.out
    go_wp2_with (go_at_call 35; (with_reducible refine (HD.out _ HS2.out).mono ?_); rintro e w4 ⟨rfl, hs⟩; have HS4 := Lib.hid hs; clear hs)
    go_end0
    exact ⟨rfl, (HB0.out.step HS2.out HS4.out).pre HB.out⟩
set_option maxRecDepth 100000 in
set_option maxHeartbeats 6400000 in
theorem does8_two {base : Nat} {w : World} {qp : Pv} {qd : Dv} {g gd : Pg} {rows cols room rows' cols' room' : Nat} (h : Both2 base w qp qd g gd) (hg : PgInv rows cols room g) (hgd : PgInv rows' cols' room' gd) (hrow0 : 0 < rows) (hrow0' : 0 < rows') (hrows : rows ≤ 1000) (hrows' : rows' ≤ 1000) (hroom : room ≤ 100000) (hroom' : room' ≤ 100000) (ht : g.told.length ≤ 900000) (ht' : gd.told.length ≤ 900000) (o : Pop) (ho : o.kind = 8) (hok : PopOk o) :
    Calls Tryz.prog 9 #[.pointer (some ⟨qp.P, 0, none⟩), .pointer (some ⟨qd.D, 0, none⟩), .agg #[.int .i64 o.kind, .int .i64 o.x, .int .i64 o.n, .int .i32 o.r, .int .i64 o.at_.fk, .int .i64 o.at_.fn, .int .i64 o.at_.bk, .int .i64 o.at_.bn, .int .i64 o.at_.fl, .int .i64 o.y, .int .i64 o.top, .int .i64 o.bottom]] w (DoesPost2 base w qp qd (stepP g o) (stepP gd o)) := by
  obtain ⟨kind, x, n, r, ⟨fk, fn, bk, bn, fl⟩, y, top, bottom⟩ := o
  simp only at ho
  subst ho
  obtain ⟨W, hW⟩ : ∃ W, (w.alloc (.cells (encPop ⟨8, x, n, r, ⟨fk, fn, bk, bn, fl⟩, y, top, bottom⟩).toArray 38)).alloc (.cells #[.int .i64 bk, .int .i64 bn] 32) = W := ⟨_, rfl⟩
  have hb0 : Below w.heap.size w W := by rw [← hW]; exact below_allocs (below_allocs (Below.refl _ _) _) _
  have HO0 : Hid (OpC W w.heap.size (w.heap.size + 1) ⟨8, x, n, r, ⟨fk, fn, bk, bn, fl⟩, y, top, bottom⟩) := Lib.hid (by rw [← hW]; exact OpC.new _)
  have HB := Lib.hid hb0
  have hB := h.below hb0
  have HB0 := Lib.hid hB
  have hXp : ∀ i, w.heap.size + i ∉ pgX qp := fun i hx => by have := (h.p.lt _ hx).2; omega
  have hr1 := hgd.hrows
  have hr2 := hgd.hroom
  have hr3 := hgd.hhist
  have hL : (dcOf gd).L.length ≤ 900000 := by show (gd.hist ++ gd.scr).length ≤ _; simp; omega
  have hbs : (dcOf gd).base ≤ (dcOf gd).L.length := by show gd.hist.length ≤ (gd.hist ++ gd.scr).length; simp
  have HIN := Lib.hid (rdIn_any hB.d (by omega) hbs y)
  rw [dcOf_in] at HIN
  have HX0 := Lib.hid (And.intro (hXp 0) (hXp 1))
  have HG1 : Hid (stepP g ⟨8, x, n, r, ⟨fk, fn, bk, bn, fl⟩, y, top, bottom⟩ = forgetP g) := Lib.hid (by unfold stepP; rw [if_neg (show ¬ (8 : Int) = 0 by decide)]; rw [if_neg (show ¬ (8 : Int) = 1 by decide)]; rw [if_neg (show ¬ (8 : Int) = 2 by decide)]; rw [if_neg (show ¬ (8 : Int) = 3 by decide)]; rw [if_neg (show ¬ (8 : Int) = 4 by decide)]; rw [if_neg (show ¬ (8 : Int) = 5 by decide)]; rw [if_neg (show ¬ (8 : Int) = 6 by decide)]; rw [if_neg (show ¬ (8 : Int) = 7 by decide)]; rw [if_pos rfl]; first | rfl | skip)
  have HG1d : Hid (stepP gd ⟨8, x, n, r, ⟨fk, fn, bk, bn, fl⟩, y, top, bottom⟩ = forgetP gd) := Lib.hid (by unfold stepP; rw [if_neg (show ¬ (8 : Int) = 0 by decide)]; rw [if_neg (show ¬ (8 : Int) = 1 by decide)]; rw [if_neg (show ¬ (8 : Int) = 2 by decide)]; rw [if_neg (show ¬ (8 : Int) = 3 by decide)]; rw [if_neg (show ¬ (8 : Int) = 4 by decide)]; rw [if_neg (show ¬ (8 : Int) = 5 by decide)]; rw [if_neg (show ¬ (8 : Int) = 6 by decide)]; rw [if_neg (show ¬ (8 : Int) = 7 by decide)]; rw [if_pos rfl]; first | rfl | skip)
  rw [HG1.out, HG1d.out]
  have hn1 := hok.hn.1
  have hn2 := hok.hn.2
  have hy1 := hok.hy.1
  have HP : Hid (∀ w1, Below W.heap.size W w1 → Calls Tryz.prog 43 #[.pointer (some ⟨qp.P, 0, none⟩)] w1 (PgPost base W qp (forgetP g))) := Lib.hid (fun w1 hb => (pForget_any (hB.p.below hb) ht).mono (fun e w2 hh => ⟨hh.1, hh.2.pre hb⟩))
  have hbL : 0 < gd.scr.length → (dcOf gd).base < (dcOf gd).L.length := fun h0 => by show gd.hist.length < (gd.hist ++ gd.scr).length; simp; omega
  have hbs2 : (dcOf gd).base ≤ (dcOf gd).L.length := by show gd.hist.length ≤ (gd.hist ++ gd.scr).length; simp
  have hscr : 0 < gd.scr.length := by rw [hr1]; exact hrow0'
  have HD : Hid (∀ w2, PgRes base W qp (forgetP g) w2 → Calls Tryz.prog 44 #[.pointer (some ⟨qd.D, 0, none⟩)] w2 (DcPost base w2 qd (dcOf (forgetP gd)))) := Lib.hid (fun w2 hs => by
    have hd := hB.mid hs
    rw [← dcOf_forget]
    exact rdForget_any hd (hbL hscr) hL (show gd.told.length ≤ 999990 by omega))
  generalize forgetP g = g1 at HP HD ⊢
  generalize forgetP gd = gd1 at HD ⊢
  cases hin : inP gd y
  all_goals
    rw [hin] at HIN
    clear h hB hg hgd hin hbL hscr hbs2
    have HWW := Lib.hid hW
    clear hW hb0 hXp hbs
    go_enter Tryz.func9, Tryz.ntmps9
    go_upto_region 2 with fail
    rw [show (#[.int .i64 8, .int .i64 x, .int .i64 n, .int .i32 r, .int .i64 fk, .int .i64 fn, .int .i64 bk, .int .i64 bn, .int .i64 fl, .int .i64 y, .int .i64 top, .int .i64 bottom] : Array Value) = (encPop ⟨8, x, n, r, ⟨fk, fn, bk, bn, fl⟩, y, top, bottom⟩).toArray from rfl, HWW.out]
    clear HWW
    obtain ⟨c0, c1, c2, c3, c4, c5, c6, c7, c8, c9, c10, c11, k0, k1⟩ := HO0.out
    go_upto_region 3 with (go_at_call 28; (with_reducible refine HIN.out.mono ?_); rintro e w1 ⟨rfl, hb⟩; have HB1 := Lib.hid hb; have HO1 := Lib.hid (HO0.out.below hb); clear hb)
    clear c0 c1 c2 c3 c4 c5 c6 c7 c8 c9 c10 c11 k0 k1
    obtain ⟨c0, c1, c2, c3, c4, c5, c6, c7, c8, c9, c10, c11, k0, k1⟩ := HO1.out
  
    go_upto_region 35 with (go_at_call 43; (with_reducible refine (HP.out _ HB1.out).mono ?_); rintro e w2 ⟨rfl, hs⟩; have HS2 := Lib.hid hs; have HO2 := Lib.hid (HO0.out.mod hs.modr HX0.out.1 HX0.out.2); clear hs c0 c1 c2 c3 c4 c5 c6 c7 c8 c9 c10 c11 k0 k1)
    obtain ⟨c0, c1, c2, c3, c4, c5, c6, c7, c8, c9, c10, c11, k0, k1⟩ := HO2.out
    go_wp2_with (go_at_call 44; (with_reducible refine (HD.out _ HS2.out).mono ?_); rintro e w4 ⟨rfl, hs⟩; have HS4 := Lib.hid hs; clear hs)
    go_end0
    exact ⟨rfl, (HB0.out.step HS2.out HS4.out).pre HB.out⟩
end Go.Proofs.YtffdblmdelgkaaaGreat
