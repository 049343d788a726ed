/- Joined by a tool of this claim out of smaller texts. Conditions: as stated. -/
import Derived.Test.YtaefcahblmopfaaGreatDoorTn08
import Derived.Test.YtaefcahblmopfaaGreatDoorTn09
import Derived.Laws.Shifts
set_option linter.unusedVariables false
set_option linter.unusedSimpArgs false
namespace Go.Proofs.YtaefcahblmopfaaGreatDoor
open Go.RowKit
def encTl (t : Tl) : List Value := [.int .i64 t.k, .int .i64 t.a, .int .i64 t.n]
theorem encTl_one : ∀ t, ∀ v ∈ encTl t, v.oneCell' = true := fun t v hv => by
  simp only [encTl, List.mem_cons, List.not_mem_nil, or_false] at hv
  rcases hv with rfl | rfl | rfl <;> rfl
/-- Where a page lies. -/
structure Pv where
  P : Nat
  R : Nat
  vs : Value
  vl : Value
  vt : Value
  S : List Rh
  SL : List Rh
  first : Nat
  n : Nat
def pgX (q : Pv) : List Nat := q.P :: (q.vs.ownBlock.toList ++ (q.vt.ownBlock.toList ++ ringX q.R q.vl))
/-- A page in memory. -/
structure PgO (base : Nat) (w : World) (q : Pv) (g : Pg) : Prop where
  blk : w.heap[q.P]? = some (.cells #[.pointer (some ⟨q.R, 0, none⟩), q.vs, .int .i64 g.cols, q.vt] 175 (0, 0))
  hb : base ≤ q.P
  ring : RgO base w q.R q.vl q.SL g.room q.first q.n (g.gone % 18446744073709551616)
  own : w.ownsRow base 52 2 q.vs q.S.length (flat encRh q.S)
  told : w.ownsRow base 94 3 q.vt g.told.length (flat encTl g.told)
  apart : ∀ b, q.vs.ownBlock = some b → q.vl.ownBlock ≠ some b
  scr : q.S.map roOf = g.scr
  hist : (histL q.SL q.first q.n).map roOf = g.hist
  rows : ∀ r ∈ q.S, RcAt w r ∧ r.cs.length = g.cols
  cols2 : 2 ≤ g.cols
  cols1000 : g.cols ≤ 1000
  rows1000 : q.S.length ≤ 1000
  gone0 : 0 ≤ g.gone
theorem block_ne {w : World} {a b : Nat} {ca cb : Array Value} {ta tb : TypeId} {fa fb : Nat × Nat} (ha : w.heap[a]? = some (.cells ca ta fa)) (hb : w.heap[b]? = some (.cells cb tb fb)) (ht : ta ≠ tb) : a ≠ b := by
  rintro rfl
  rw [ha] at hb
  injection hb with hb
  injection hb with _ h
  exact ht h
section
variable {base : Nat} {w : World} {q : Pv} {g : Pg}
theorem PgO.len (h : PgO base w q g) : q.S.length = g.scr.length := by rw [← h.scr, List.length_map]
theorem PgO.hlen (h : PgO base w q g) : g.hist.length = q.n := by rw [← h.hist, List.length_map, histL_len]
theorem PgO.nocel (h : PgO base w q g) : NoCel w (pgX q) := by
  intro b hb cs f he
  rcases List.mem_cons.1 hb with rfl | hb
  · exact block_ne h.blk he (by decide) rfl
  rcases List.mem_append.1 hb with hb | hb
  · obtain ⟨cur, hc⟩ := own_block h.own (by simpa [Option.mem_toList] using hb)
    exact block_ne hc he (by decide) rfl
  rcases List.mem_append.1 hb with hb | hb
  · obtain ⟨cur, hc⟩ := own_block h.told (by simpa [Option.mem_toList] using hb)
    exact block_ne hc he (by decide) rfl
  · exact h.ring.nocel b hb cs f he
theorem PgO.lt (h : PgO base w q g) : ∀ b ∈ pgX q, base ≤ b ∧ b < w.heap.size := by
  intro b hb
  rcases List.mem_cons.1 hb with rfl | hb
  · exact ⟨h.hb, (Array.getElem?_eq_some_iff.1 h.blk).1⟩
  rcases List.mem_append.1 hb with hb | hb
  · exact h.own.lt b (by simpa [Option.mem_toList] using hb)
  rcases List.mem_append.1 hb with hb | hb
  · exact h.told.lt b (by simpa [Option.mem_toList] using hb)
  · exact h.ring.lt b hb
theorem PgO.mod {X : List Nat} {w' : World} (h : PgO base w q g) (hm : Mod X w w') (hX : NoCel w X) (hd : ∀ b ∈ pgX q, b ∉ X) : PgO base w' q g :=
  ⟨(hm.block q.P (Array.getElem?_eq_some_iff.1 h.blk).1 (hd q.P (by simp [pgX]))).trans h.blk, h.hb, h.ring.mod hm hX (fun b hb => hd b (by simp [pgX, hb])), owns_mod h.own hm (fun b hb => hd b (by simp [pgX, hb])), owns_mod h.told hm (fun b hb => hd b (by simp [pgX, hb])),
    h.apart, h.scr, h.hist, fun r hr => ⟨(h.rows r hr).1.mod hm hX, (h.rows r hr).2⟩, h.cols2, h.cols1000, h.rows1000, h.gone0⟩
theorem PgO.below {w' : World} (h : PgO base w q g) (hb : Below w.heap.size w w') : PgO base w' q g := h.mod (Mod.of_below (X := []) hb) (NoCel.nil w) (fun _ _ h => by cases h)
/-- What a page's method leaves. -/
def PgRes (base : Nat) (w : World) (q : Pv) (g' : Pg) (w' : World) : Prop :=
  ∃ q', q'.P = q.P ∧ q'.R = q.R ∧ PgO base w' q' g' ∧ Mod (pgX q) w w' ∧ ∀ b ∈ pgX q', b ∈ pgX q ∨ w.heap.size ≤ b
def PgPost (base : Nat) (w : World) (q : Pv) (g' : Pg) (e : Ending) (w' : World) : Prop := e = .returned (.tuple #[]) ∧ PgRes base w q g' w'
theorem PgO.res (h : PgO base w q g) : PgRes base w q g w := ⟨q, rfl, rfl, h, Mod.refl _ _, fun b hb => .inl hb⟩
theorem PgRes.trans {w1 w2 : World} {q1 : Pv} {g2 : Pg} (h1 : q1.P = q.P ∧ q1.R = q.R ∧ Mod (pgX q) w w1 ∧ ∀ b ∈ pgX q1, b ∈ pgX q ∨ w.heap.size ≤ b) (h2 : PgRes base w1 q1 g2 w2) : PgRes base w q g2 w2 := by
  obtain ⟨e1, e2, hm, hx⟩ := h1
  obtain ⟨q2, a1, a2, a3, a4, a5⟩ := h2
  refine ⟨q2, a1.trans e1, a2.trans e2, a3, hm.trans a4 hx, fun b hb => ?_⟩
  rcases a5 b hb with h | h
  · exact hx b h
  · exact .inr (Nat.le_trans hm.size h)
theorem PgRes.pre {w1 w2 : World} {g2 : Pg} (hb : Below w.heap.size w w1) (h2 : PgRes base w1 q g2 w2) : PgRes base w q g2 w2 := PgRes.trans ⟨rfl, rfl, Mod.of_below hb, fun b hb => .inl hb⟩ h2
/-- The cells of the page's own block. -/
theorem PgO.cells (h : PgO base w q g) : (w.cell? ⟨q.P, 0, none⟩ = some (.pointer (some ⟨q.R, 0, none⟩)) ∧ w.frozen? ⟨q.P, 0, none⟩ = false) ∧ (w.cell? ⟨q.P, 1, none⟩ = some q.vs ∧ w.frozen? ⟨q.P, 1, none⟩ = false) ∧ (w.cell? ⟨q.P, 2, none⟩ = some (.int .i64 g.cols) ∧ w.frozen? ⟨q.P, 2, none⟩ = false) ∧ w.cell? ⟨q.P, 3, none⟩ = some q.vt ∧ w.frozen? ⟨q.P, 3, none⟩ = false :=
  ⟨at_ h.blk 0 _ rfl, at_ h.blk 1 _ rfl, at_ h.blk 2 _ rfl, at_ h.blk 3 _ rfl⟩
/-- The screen's rows are others, in the same block. -/
theorem PgO.screen {w' : World} {S' : List Rh} {scr' : List Ro} (h : PgO base w q g) (hl : S'.length = q.S.length) (ho : w'.ownsRow base 52 2 q.vs S'.length (flat encRh S')) (hm : Mod q.vs.ownBlock.toList w w') (hs : S'.map roOf = scr') (hr : ∀ r ∈ S', RcAt w' r ∧ r.cs.length = g.cols) :
    PgRes base w q { g with scr := scr' } w' := by
  have hX : NoCel w q.vs.ownBlock.toList := fun b hb cs f he => h.nocel b (by simp [pgX, (Option.mem_toList.1 hb)]) cs f he
  have hvs : ∀ b, q.vs.ownBlock = some b → ∃ cur : Array Value, w.heap[b]? = some (.cells cur 52 (0, 0)) := fun b hb => own_block h.own hb
  refine ⟨{ q with S := S' }, rfl, rfl, ⟨(hm.block q.P (Array.getElem?_eq_some_iff.1 h.blk).1 (fun hb => ?_)).trans h.blk, h.hb, h.ring.mod hm hX (fun b hb hbX => ?_), ho, owns_mod h.told hm (fun b hb hbX => ?_), h.apart, hs, h.hist, hr, h.cols2, h.cols1000, by show S'.length ≤ 1000; rw [hl]; exact h.rows1000, h.gone0⟩, hm.mono (fun b hb => by simp [pgX, (Option.mem_toList.1 hb)]), fun b hb => .inl hb⟩
  · obtain ⟨cur, hc⟩ := hvs _ (Option.mem_toList.1 hb)
    exact block_ne h.blk hc (by decide) rfl
  · rcases List.mem_cons.1 hb with rfl | hb
    · obtain ⟨cur, hc⟩ := hvs _ (Option.mem_toList.1 hbX)
      exact block_ne h.ring.blk hc (by decide) rfl
    · exact h.apart b (Option.mem_toList.1 hbX) (Option.mem_toList.1 hb)
  · obtain ⟨cur, hc⟩ := hvs _ (Option.mem_toList.1 hbX)
    obtain ⟨cur2, hc2⟩ := own_block h.told hb
    exact block_ne hc2 hc (by decide) rfl
end
end Go.Proofs.YtaefcahblmopfaaGreatDoor
namespace Go.Proofs.YtaefcahblmopfaaGreatDoor
open Go.RowKit
section
variable {base : Nat} {w : World} {q : Pv} {g : Pg}
theorem PgO.vform (h : PgO base w q g) : ∃ A c, q.vs = .slice A q.S.length c := row_form h.own
set_option maxRecDepth 100000 in
theorem pRows_any (h : PgO base w q g) : Calls Tryz.prog 145 #[.pointer (some ⟨q.P, 0, none⟩)] w fun e w' => e = .returned (.int .i64 g.scr.length) ∧ w = w' := by
  obtain ⟨A, c, hv⟩ := h.vform
  have hl := h.len
  obtain ⟨-, ⟨x1, -⟩, -, -⟩ := h.cells
  rw [hv, hl] at x1
  clear h hl hv
  go_enter Tryz.func145, Tryz.ntmps145
  go_wp2
  go_ret
  exact ⟨rfl, rfl⟩
set_option maxRecDepth 100000 in
theorem pCols_any (h : PgO base w q g) : Calls Tryz.prog 226 #[.pointer (some ⟨q.P, 0, none⟩)] w fun e w' => e = .returned (.int .i64 g.cols) ∧ w = w' := by
  obtain ⟨-, -, ⟨x2, -⟩, -⟩ := h.cells
  clear h
  go_enter Tryz.func226, Tryz.ntmps226
  go_wp2
  go_ret
  exact ⟨rfl, rfl⟩
set_option maxRecDepth 100000 in
theorem pBase_any (h : PgO base w q g) : Calls Tryz.prog 91 #[.pointer (some ⟨q.P, 0, none⟩)] w fun e w' => e = .returned (.int .i64 g.hist.length) ∧ w = w' := by
  obtain ⟨⟨x0, -⟩, -⟩ := h.cells
  have HL := Lib.hid (rlen_any h.ring)
  rw [← h.hlen] at HL
  clear h
  go_enter Tryz.func91, Tryz.ntmps91
  go_wp2_with (go_at_call 161; refine HL.out.mono ?_; rintro e w1 ⟨rfl, rfl⟩)
  go_ret
  exact ⟨rfl, rfl⟩
set_option maxRecDepth 100000 in
theorem pIn_any (h : PgO base w q g) (y : Int) : Calls Tryz.prog 289 #[.pointer (some ⟨q.P, 0, none⟩), .int .i64 y] w fun e w' => e = .returned (.bool (inP g y)) ∧ w = w' := by
  have HR := Lib.hid (pRows_any h)
  unfold inP
  clear h
  by_cases hy : 0 ≤ y
  · go_enter Tryz.func289, Tryz.ntmps289
    go_wp2_with (go_at_call 145; refine HR.out.mono ?_; rintro e w1 ⟨rfl, rfl⟩)
    go_ret
    simp [hy]
  · go_enter Tryz.func289, Tryz.ntmps289
    go_wp2_with (go_at_call 145; refine HR.out.mono ?_; rintro e w1 ⟨rfl, rfl⟩)
    go_ret
    simp; omega
/-- A row's cont is set. -/
theorem PgO.setCont (h : PgO base w q g) {k gs c : Nat} (hv : q.vs = .slice (some ⟨gs, 0, none⟩) q.S.length c) (hk : k < q.S.length) (b : Bool) : PgRes base w q (contP g k b) (w.setCell ⟨gs, k * 2 + 1, none⟩ (.bool b)) := by
  have hx : q.S[k]? = some q.S[k] := List.getElem?_eq_getElem hk
  have hM : Mod q.vs.ownBlock.toList w (w.setCell ⟨gs, k * 2 + 1, none⟩ (.bool b)) := (Mod.refl _ _).setCell (a := ⟨gs, k * 2 + 1, none⟩) (.inl (by rw [hv]; simp [Value.ownBlock])) _
  have hX : NoCel w q.vs.ownBlock.toList := fun x hx cs f he => h.nocel x (by simp [pgX, (Option.mem_toList.1 hx)]) cs f he
  have hown := h.own
  rw [hv] at hown
  have h1 := owns_set1 hown (k * 2 + 1) (.bool b)
  rw [flat_set1 encRh_len q.S k q.S[k] { q.S[k] with cont := b } 1 (.bool b) hx (by decide) rfl] at h1
  have hin : inP g k = true := by unfold inP; have := h.len; simp; omega
  unfold contP
  rw [hin, if_pos rfl]
  refine h.screen (S' := q.S.set k { q.S[k] with cont := b }) (by simp) (by rw [List.length_set, hv]; exact h1) hM ?_ (fun r hr => ?_)
  · rw [← h.scr, Int.toNat_natCast]
    refine List.ext_getElem? fun i => ?_
    rw [List.getElem?_map, List.getElem?_set, List.getElem?_modify, List.getElem?_map]
    by_cases hi : k = i
    · subst hi
      rw [if_pos rfl, if_pos hk, hx]; simp [roOf]
    · rw [if_neg hi]
      cases q.S[i]? with
      | none => rfl
      | some x => simp [hi]
  · rcases List.mem_or_eq_of_mem_set hr with hr | rfl
    · exact ⟨(h.rows r hr).1.mod hM hX, (h.rows r hr).2⟩
    · have := h.rows q.S[k] (List.getElem_mem hk)
      exact ⟨(this.1.mod hM hX).cont b, this.2⟩
theorem contP_out {y : Int} (b : Bool) (h : inP g y = false) : contP g y b = g := by unfold contP; rw [h]; rfl
set_option maxRecDepth 100000 in
theorem ppart_any (h : PgO base w q g) (y : Int) : Calls Tryz.prog 293 #[.pointer (some ⟨q.P, 0, none⟩), .int .i64 y] w (PgPost base w q (contP g y false)) := by
  have HIN := Lib.hid (pIn_any h y)
  cases hin : inP g y with
  | false =>
    rw [hin] at HIN
    have H := Lib.hid h.res
    have HC := Lib.hid (contP_out false hin)
    clear h
    go_enter Tryz.func293, Tryz.ntmps293
    go_wp2_with (go_at_call 289; refine HIN.out.mono ?_; rintro e w1 ⟨rfl, rfl⟩)
    go_end0
    rw [HC.out]
    exact ⟨rfl, H.out⟩
  | true =>
    rw [hin] at HIN
    obtain ⟨k, rfl⟩ : ∃ k : Nat, y = k := ⟨y.toNat, by unfold inP at hin; simp at hin; omega⟩
    have hk : k < q.S.length := by unfold inP at hin; have := h.len; simp at hin; omega
    obtain ⟨gs, c, hv⟩ := own_form h.own (by omega)
    have HS := Lib.hid (h.setCont hv hk false)
    obtain ⟨-, ⟨x1, -⟩, -, -⟩ := h.cells
    have hown := h.own
    rw [hv] at x1 hown
    obtain ⟨-, y1, y1f⟩ := owns_row hown (List.getElem?_eq_getElem hk)
    have hkI : (k : Int) < (q.S.length : Int) := by omega
    clear h hown hv hin
    go_enter Tryz.func293, Tryz.ntmps293
    go_wp2_with (go_at_call 289; refine HIN.out.mono ?_; rintro e w1 ⟨rfl, rfl⟩)
    go_end0
    exact ⟨rfl, HS.out⟩
set_option maxRecDepth 100000 in
theorem pWrap_any (h : PgO base w q g) (y : Int) : Calls Tryz.prog 342 #[.pointer (some ⟨q.P, 0, none⟩), .int .i64 y] w (PgPost base w q (contP g y true)) := by
  have HIN := Lib.hid (pIn_any h y)
  cases hin : inP g y with
  | false =>
    rw [hin] at HIN
    have H := Lib.hid h.res
    have HC := Lib.hid (contP_out true hin)
    clear h
    go_enter Tryz.func342, Tryz.ntmps342
    go_wp2_with (go_at_call 289; refine HIN.out.mono ?_; rintro e w1 ⟨rfl, rfl⟩)
    go_end0
    rw [HC.out]
    exact ⟨rfl, H.out⟩
  | true =>
    rw [hin] at HIN
    obtain ⟨k, rfl⟩ : ∃ k : Nat, y = k := ⟨y.toNat, by unfold inP at hin; simp at hin; omega⟩
    have hk : k < q.S.length := by unfold inP at hin; have := h.len; simp at hin; omega
    obtain ⟨gs, c, hv⟩ := own_form h.own (by omega)
    have HS := Lib.hid (h.setCont hv hk true)
    obtain ⟨-, ⟨x1, -⟩, -, -⟩ := h.cells
    have hown := h.own
    rw [hv] at x1 hown
    obtain ⟨-, y1, y1f⟩ := owns_row hown (List.getElem?_eq_getElem hk)
    have hkI : (k : Int) < (q.S.length : Int) := by omega
    clear h hown hv hin
    go_enter Tryz.func342, Tryz.ntmps342
    go_wp2_with (go_at_call 289; refine HIN.out.mono ?_; rintro e w1 ⟨rfl, rfl⟩)
    go_end0
    exact ⟨rfl, HS.out⟩
end
end Go.Proofs.YtaefcahblmopfaaGreatDoor
namespace Go.Proofs.YtaefcahblmopfaaGreatDoor
open Go.RowKit
theorem rowP_out {g : Pg} {y : Int} (F : List Cl → List Cl) (h : inP g y = false) : rowP g y F = g := by unfold rowP; rw [h]; rfl
section
variable {base : Nat} {w : World} {q : Pv} {g : Pg}
/-- A row's cells are others. -/
theorem PgO.setRow (h : PgO base w q g) {k gs c : Nat} {r : Rh} (hv : q.vs = .slice (some ⟨gs, 0, none⟩) q.S.length c) (hr : q.S[k]? = some r) {A : Option Addr} {cap : Nat} (F : List Cl → List Cl) (hF : (F r.cs).length = r.cs.length) (hc : RcAt w ⟨A, F r.cs, cap, r.cont⟩) :
    PgRes base w q (rowP g k F) (w.setCell ⟨gs, k * 2, none⟩ (.slice A r.cs.length cap)) := by
  have hk := (List.getElem?_eq_some_iff.1 hr).1
  have hM : Mod q.vs.ownBlock.toList w (w.setCell ⟨gs, k * 2, none⟩ (.slice A r.cs.length cap)) := (Mod.refl _ _).setCell (a := ⟨gs, k * 2, none⟩) (.inl (by rw [hv]; simp [Value.ownBlock])) _
  have hX : NoCel w q.vs.ownBlock.toList := fun x hx cs f he => h.nocel x (by simp [pgX, (Option.mem_toList.1 hx)]) cs f he
  have hown := h.own
  rw [hv] at hown
  have h1 := owns_set1 hown (k * 2) (.slice A r.cs.length cap)
  have e := flat_set1 encRh_len q.S k r ⟨A, F r.cs, cap, r.cont⟩ 0 (.slice A r.cs.length cap) hr (by decide) (by simp [encRh, hF])
  rw [Nat.add_zero] at e
  rw [e] at h1
  have hin : inP g k = true := by unfold inP; have := h.len; simp; omega
  unfold rowP
  rw [hin, if_pos rfl]
  refine h.screen (S' := q.S.set k ⟨A, F r.cs, cap, r.cont⟩) (by simp) (by rw [List.length_set, hv]; exact h1) hM ?_ (fun x hx => ?_)
  · rw [← h.scr, Int.toNat_natCast]
    refine List.ext_getElem? fun i => ?_
    rw [List.getElem?_map, List.getElem?_set, List.getElem?_modify, List.getElem?_map]
    by_cases hi : k = i
    · subst hi
      rw [if_pos rfl, if_pos hk, hr]; simp [roOf]
    · rw [if_neg hi]
      cases q.S[i]? with
      | none => rfl
      | some x => simp [hi]
  · rcases List.mem_or_eq_of_mem_set hx with hx | rfl
    · exact ⟨(h.rows x hx).1.mod hM hX, (h.rows x hx).2⟩
    · exact ⟨hc.mod hM hX, by show (F r.cs).length = g.cols; rw [hF]; exact (h.rows r (List.mem_of_getElem? hr)).2⟩
set_option maxRecDepth 100000 in
set_option maxHeartbeats 3200000 in
theorem pat_any (h : PgO base w q g) (y : Int) (f : FuncId) (capt : Array Value) (F : List Cl → List Cl) (hF : ∀ l, (F l).length = l.length) (hfine : ∀ l, Fine l → Fine (F l))
    (hf : ∀ (args : Array Value) (w : World), (callFunc f args).run Tryz.prog w = .ok (.enter f args) w)
    (hdo : ∀ (r : Rh) (w' : World), Below w.heap.size w w' → RcAt w' r → r.cs.length = g.cols → Calls Tryz.prog f (#[.slice r.A r.cs.length r.cap] ++ capt) w' (WithPost (F r.cs) w')) :
    Calls Tryz.prog 290 #[.pointer (some ⟨q.P, 0, none⟩), .int .i64 y, .func (.func f) #[] capt] w (PgPost base w q (rowP g y F)) := by
  have HIN := Lib.hid (pIn_any h y)
  cases hin : inP g y with
  | false =>
    rw [hin] at HIN
    have H := Lib.hid h.res
    have HC := Lib.hid (rowP_out F hin)
    clear h hdo
    go_enter Tryz.func290, Tryz.ntmps290
    go_wp2_with (go_at_call 289; refine HIN.out.mono ?_; rintro e w1 ⟨rfl, rfl⟩)
    go_end0
    rw [HC.out]
    exact ⟨rfl, H.out⟩
  | true =>
    rw [hin] at HIN
    obtain ⟨k, rfl⟩ : ∃ k : Nat, y = k := ⟨y.toNat, by unfold inP at hin; simp at hin; omega⟩
    have hk : k < q.S.length := by unfold inP at hin; have := h.len; simp at hin; omega
    obtain ⟨gs, c, hv⟩ := own_form h.own (by omega)
    obtain ⟨r, hr⟩ : ∃ r, q.S[k]? = some r := ⟨_, List.getElem?_eq_getElem hk⟩
    obtain ⟨hrc, hrl⟩ := h.rows r (List.mem_of_getElem? hr)
    obtain ⟨-, ⟨x1, -⟩, -, -⟩ := h.cells
    have hown := h.own
    rw [hv] at x1 hown
    obtain ⟨⟨y0, y0f⟩, -⟩ := owns_row hown hr
    have hkI : (k : Int) < (q.S.length : Int) := by omega
    have H := Lib.hid h
    have HV := Lib.hid hv
    have HR := Lib.hid hr
    have HDO := Lib.hid hdo
    have HRC := Lib.hid hrc
    have HFI := Lib.hid hfine
    have HF := Lib.hid hF
    clear h hown hv hin hr hdo hrc hF hfine
    go_enter Tryz.func290, Tryz.ntmps290
    go_upto_region 1 with (go_at_call 289; refine HIN.out.mono ?_; rintro e w1 ⟨rfl, rfl⟩)
    refine wp_region_n 15 (fun w' => Below w.heap.size w w' ∧ w'.cell? ⟨q.P, 1, none⟩ = some (.slice (some ⟨gs, 0, none⟩) q.S.length c) ∧ w'.cell? ⟨gs, k * 2, none⟩ = some (.slice r.A r.cs.length r.cap)) (by kernel_rfl) (by kernel_rfl) (fun w1 w2 hS hb => ⟨below_tail hS.1 hb, holda hb hS.2.1, holda hb hS.2.2⟩) ⟨(Below.refl _ _).drew, x1, y0⟩ ?_
    refine AtN.go 0 ?_
    iterate 14 (refine AtC.take (o := ⟨_, _, _, _, _, _⟩) (v := ?_) (by kernel_rfl) rfl (by simp) (by kernel_rfl) (by kernel_rfl) ?_ ?_; rotate_left; (focus (first | exact StabN.skip (by rfl) | (refine StabN.val (by rfl) ?_; intro w' hS; obtain ⟨_, _, _⟩ := hS; go_simp; first | done | with_reducible rfl))); simp only [Act.put, List.setIfInBounds_toArray, List.set_cons_zero, List.set_cons_succ])
    refine AtC.back ?_
    refine AtN.one 14 (o := ⟨_, _, _, _, _, _⟩) (fun v => ∃ g cap, v = .slice (some ⟨g, 0, none⟩) r.cs.length cap) (fun v w' => ∃ g cap, v = .slice (some ⟨g, 0, none⟩) r.cs.length cap ∧ RcAt w' ⟨some ⟨g, 0, none⟩, F r.cs, cap, r.cont⟩) (by simp) (by kernel_rfl) rfl (fun v w1 w2 ⟨g, cap, hv, hr⟩ hb => ⟨g, cap, hv, hr.below hb⟩) (StabN.call f (#[.slice r.A r.cs.length r.cap] ++ capt) _ _ (by rfl) ?_ (fun w' hS => ?_)) ?_
    · intro w'
      go_simp
    · refine (HDO.out r w' hS.1 (HRC.out.below hS.1) hrl).mono ?_
      rintro e w2 ⟨g1, cap, rfl, hc, hb⟩
      rw [HF.out] 
      exact ⟨_, rfl, ⟨⟨g1, cap, rfl⟩, g1, cap, rfl, .of_own hc (by rw [HF.out]; exact HRC.out.1) (HFI.out _ HRC.out.2.1) _⟩, hb⟩
    rintro v ⟨g1, cap, rfl⟩
    simp only [Act.put, List.setIfInBounds_toArray, List.set_cons_zero, List.set_cons_succ]
    refine AtN.done (by kernel_rfl) (fun w' hS => ?_)
    obtain ⟨⟨hb1, -, z0⟩, g1', cap', hv', hrc'⟩ := hS
    simp only [Value.slice.injEq, Option.some.injEq, Addr.mk.injEq, and_true, true_and] at hv'
    obtain ⟨rfl, rfl⟩ := hv'
    have HB1 := Lib.hid hb1
    have HRC' := Lib.hid hrc'
    have hfz : w'.frozen? ⟨gs, k * 2, none⟩ = false := (hold hb1 ⟨y0, y0f⟩).2
    clear hb1 hrc' x1 y0 y0f
    go_wp2
    go_end0
    have key := ((H.out.below HB1.out).setRow HV.out HR.out F (HF.out _) HRC'.out).pre HB1.out
    rw [hrl] at key
    exact ⟨rfl, key⟩
end
end Go.Proofs.YtaefcahblmopfaaGreatDoor
namespace Go.Proofs.YtaefcahblmopfaaGreatDoor
open Go.RowKit
set_option maxRecDepth 100000 in
set_option maxHeartbeats 1600000 in
theorem pput1_any (r0 : Rh) (x r : Int) (a : Atr) (bx br ba : Nat) (w : World) (hrc : RcAt w r0) (h0 : 0 < r0.cs.length) (hx : w.cell? ⟨bx, 0, none⟩ = some (.int .i64 x)) (hr : w.cell? ⟨br, 0, none⟩ = some (.int .i32 r)) (a0 : w.cell? ⟨ba, 0, none⟩ = some (.int .i64 a.fk)) (a1 : w.cell? ⟨ba, 1, none⟩ = some (.int .i64 a.fn)) (a2 : w.cell? ⟨ba, 2, none⟩ = some (.int .i64 a.bk)) (a3 : w.cell? ⟨ba, 3, none⟩ = some (.int .i64 a.bn)) (a4 : w.cell? ⟨ba, 4, none⟩ = some (.int .i64 a.fl)) :
    Calls Tryz.prog 294 (#[.slice r0.A r0.cs.length r0.cap] ++ #[.pointer (some ⟨bx, 0, none⟩), .pointer (some ⟨br, 0, none⟩), .pointer (some ⟨ba, 0, none⟩)]) w (WithPost (putL r0.cs x r a) w) := by
  have HC := Lib.hid (cPut_any r0.A r0.cs r0.cap x r a w hrc.2.2.1 h0 hrc.1)
  simp only [List.append_toArray, List.cons_append, List.nil_append]
  clear hrc
  go_enter Tryz.func294, Tryz.ntmps294
  go_wp2_with (go_at_call 295; refine HC.out.mono ?_; rintro e w1 ⟨g, cap, rfl, hc, hb⟩; have HK := Lib.hid hc; clear hc)
  go_ret
  exact ⟨g, cap, rfl, HK.out, hb⟩
set_option maxRecDepth 100000 in
set_option maxHeartbeats 1600000 in
theorem pmark1_any (r0 : Rh) (x r : Int) (bx br : Nat) (w : World) (hrc : RcAt w r0) (h0 : 0 < r0.cs.length) (hx : w.cell? ⟨bx, 0, none⟩ = some (.int .i64 x)) (hr : w.cell? ⟨br, 0, none⟩ = some (.int .i32 r)) :
    Calls Tryz.prog 339 (#[.slice r0.A r0.cs.length r0.cap] ++ #[.pointer (some ⟨bx, 0, none⟩), .pointer (some ⟨br, 0, none⟩)]) w (WithPost (markL r0.cs x r) w) := by
  have HC := Lib.hid (cMark_any r0.A r0.cs r0.cap x r w hrc.2.2.1 h0 hrc.1 hrc.2.1)
  simp only [List.append_toArray, List.cons_append, List.nil_append]
  clear hrc
  go_enter Tryz.func339, Tryz.ntmps339
  go_wp2_with (go_at_call 340; refine HC.out.mono ?_; rintro e w1 ⟨g, cap, rfl, hc, hb⟩; have HK := Lib.hid hc; clear hc)
  go_ret
  exact ⟨g, cap, rfl, HK.out, hb⟩
set_option maxRecDepth 100000 in
set_option maxHeartbeats 1600000 in
theorem pinsert1_any (r0 : Rh) (x n : Int) (b : Col) (bx bn bb : Nat) (w : World) (hrc : RcAt w r0) (h0 : 0 < r0.cs.length) (hx : w.cell? ⟨bx, 0, none⟩ = some (.int .i64 x)) (hn : w.cell? ⟨bn, 0, none⟩ = some (.int .i64 n)) (b0 : w.cell? ⟨bb, 0, none⟩ = some (.int .i64 b.k)) (b1 : w.cell? ⟨bb, 1, none⟩ = some (.int .i64 b.n)) :
    Calls Tryz.prog 343 (#[.slice r0.A r0.cs.length r0.cap] ++ #[.pointer (some ⟨bx, 0, none⟩), .pointer (some ⟨bn, 0, none⟩), .pointer (some ⟨bb, 0, none⟩)]) w (WithPost (insertL r0.cs x n b) w) := by
  have HC := Lib.hid (cInsert_any r0.A r0.cs r0.cap x n b w hrc.2.2.1 h0 hrc.1)
  simp only [List.append_toArray, List.cons_append, List.nil_append]
  clear hrc
  go_enter Tryz.func343, Tryz.ntmps343
  go_wp2_with (go_at_call 344; refine HC.out.mono ?_; rintro e w1 ⟨g, cap, rfl, hc, hb⟩; have HK := Lib.hid hc; clear hc)
  go_ret
  exact ⟨g, cap, rfl, HK.out, hb⟩
set_option maxRecDepth 100000 in
set_option maxHeartbeats 3200000 in
theorem pPut_any {base : Nat} {w : World} {q : Pv} {g : Pg} (h : PgO base w q g) (y : Int) (x r9 : Int) (a : Atr) :
    Calls Tryz.prog 198 #[.pointer (some ⟨q.P, 0, none⟩), .int .i64 y, .int .i64 x, .int .i32 r9, .agg #[.int .i64 a.fk, .int .i64 a.fn, .int .i64 a.bk, .int .i64 a.bn, .int .i64 a.fl]] w (PgPost base w q (rowP g y (fun l => putL l x r9 a))) := by
  have hb0 : Below w.heap.size w (((w.alloc (.cells #[.int .i64 x] 3)).alloc (.cells #[.int .i32 r9] 21)).alloc (.cells #[.int .i64 a.fk, .int .i64 a.fn, .int .i64 a.bk, .int .i64 a.bn, .int .i64 a.fl] 63)) := below_allocs (below_allocs (below_allocs (Below.refl w.heap.size w) _) _) _
  have hp0 : ((((w.alloc (.cells #[.int .i64 x] 3)).alloc (.cells #[.int .i32 r9] 21)).alloc (.cells #[.int .i64 a.fk, .int .i64 a.fn, .int .i64 a.bk, .int .i64 a.bn, .int .i64 a.fl] 63)) : World).heap[w.heap.size + 0]? = some (.cells #[.int .i64 x] 3 (0, 0)) := by first | exact hp_old (hp_old (hp_new (by simp))) | (refine hp_old ?_; refine hp_old ?_; exact hp_new rfl)
  have hp1 : ((((w.alloc (.cells #[.int .i64 x] 3)).alloc (.cells #[.int .i32 r9] 21)).alloc (.cells #[.int .i64 a.fk, .int .i64 a.fn, .int .i64 a.bk, .int .i64 a.bn, .int .i64 a.fl] 63)) : World).heap[w.heap.size + 1]? = some (.cells #[.int .i32 r9] 21 (0, 0)) := by first | exact hp_old (hp_new (by simp)) | (refine hp_old ?_; refine hp_old ?_; exact hp_new rfl)
  have hp2 : ((((w.alloc (.cells #[.int .i64 x] 3)).alloc (.cells #[.int .i32 r9] 21)).alloc (.cells #[.int .i64 a.fk, .int .i64 a.fn, .int .i64 a.bk, .int .i64 a.bn, .int .i64 a.fl] 63)) : World).heap[w.heap.size + 2]? = some (.cells #[.int .i64 a.fk, .int .i64 a.fn, .int .i64 a.bk, .int .i64 a.bn, .int .i64 a.fl] 63 (0, 0)) := by first | exact hp_new (by simp) | (refine hp_old ?_; refine hp_old ?_; exact hp_new rfl)
  have HB0 := Lib.hid hb0
  have hc2 := h.cols2
  have HA := Lib.hid (pat_any (h.below hb0) y 294 #[.pointer (some ⟨w.heap.size, 0, none⟩), .pointer (some ⟨w.heap.size + 1, 0, none⟩), .pointer (some ⟨w.heap.size + 2, 0, none⟩)] (fun l => putL l x r9 a) (fun l => putL_len l x r9 a) (fun l hl => hl.put x r9 a) (fun args w => by kernel_rfl) (fun r w' hb hr hl => pput1_any r x r9 a _ _ _ w' hr (by omega) (holda hb (range_box hp0 0 _ rfl)) (holda hb (range_box hp1 0 _ rfl)) (holda hb (range_box hp2 0 _ rfl)) (holda hb (range_box hp2 1 _ rfl)) (holda hb (range_box hp2 2 _ rfl)) (holda hb (range_box hp2 3 _ rfl)) (holda hb (range_box hp2 4 _ rfl))))
  clear h hb0 hp0 hp1 hp2
  go_enter Tryz.func198, Tryz.ntmps198
  go_wp2_with (go_at_call 290; refine HA.out.mono ?_; rintro e w1 ⟨rfl, hp⟩; have HP := Lib.hid hp; clear hp)
  go_end0
  exact ⟨rfl, HP.out.pre HB0.out⟩
set_option maxRecDepth 100000 in
set_option maxHeartbeats 3200000 in
theorem pMark_any {base : Nat} {w : World} {q : Pv} {g : Pg} (h : PgO base w q g) (y : Int) (x r9 : Int) :
    Calls Tryz.prog 276 #[.pointer (some ⟨q.P, 0, none⟩), .int .i64 y, .int .i64 x, .int .i32 r9] w (PgPost base w q (rowP g y (fun l => markL l x r9))) := by
  have hb0 : Below w.heap.size w ((w.alloc (.cells #[.int .i64 x] 3)).alloc (.cells #[.int .i32 r9] 21)) := below_allocs (below_allocs (Below.refl w.heap.size w) _) _
  have hp0 : (((w.alloc (.cells #[.int .i64 x] 3)).alloc (.cells #[.int .i32 r9] 21)) : World).heap[w.heap.size + 0]? = some (.cells #[.int .i64 x] 3 (0, 0)) := by first | exact hp_old (hp_new (by simp)) | (refine hp_old ?_; refine hp_old ?_; exact hp_new rfl)
  have hp1 : (((w.alloc (.cells #[.int .i64 x] 3)).alloc (.cells #[.int .i32 r9] 21)) : World).heap[w.heap.size + 1]? = some (.cells #[.int .i32 r9] 21 (0, 0)) := by first | exact hp_new (by simp) | (refine hp_old ?_; refine hp_old ?_; exact hp_new rfl)
  have HB0 := Lib.hid hb0
  have hc2 := h.cols2
  have HA := Lib.hid (pat_any (h.below hb0) y 339 #[.pointer (some ⟨w.heap.size, 0, none⟩), .pointer (some ⟨w.heap.size + 1, 0, none⟩)] (fun l => markL l x r9) (fun l => markL_len l x r9) (fun l hl => hl.mark x r9) (fun args w => by kernel_rfl) (fun r w' hb hr hl => pmark1_any r x r9 _ _ w' hr (by omega) (holda hb (range_box hp0 0 _ rfl)) (holda hb (range_box hp1 0 _ rfl))))
  clear h hb0 hp0 hp1
  go_enter Tryz.func276, Tryz.ntmps276
  go_wp2_with (go_at_call 290; refine HA.out.mono ?_; rintro e w1 ⟨rfl, hp⟩; have HP := Lib.hid hp; clear hp)
  go_end0
  exact ⟨rfl, HP.out.pre HB0.out⟩
set_option maxRecDepth 100000 in
set_option maxHeartbeats 3200000 in
theorem pInsert_any {base : Nat} {w : World} {q : Pv} {g : Pg} (h : PgO base w q g) (y : Int) (x n : Int) (b : Col) :
    Calls Tryz.prog 278 #[.pointer (some ⟨q.P, 0, none⟩), .int .i64 y, .int .i64 x, .int .i64 n, .agg #[.int .i64 b.k, .int .i64 b.n]] w (PgPost base w q (rowP g y (fun l => insertL l x n b))) := by
  have hb0 : Below w.heap.size w (((w.alloc (.cells #[.int .i64 x] 3)).alloc (.cells #[.int .i64 n] 3)).alloc (.cells #[.int .i64 b.k, .int .i64 b.n] 61)) := below_allocs (below_allocs (below_allocs (Below.refl w.heap.size w) _) _) _
  have hp0 : ((((w.alloc (.cells #[.int .i64 x] 3)).alloc (.cells #[.int .i64 n] 3)).alloc (.cells #[.int .i64 b.k, .int .i64 b.n] 61)) : World).heap[w.heap.size + 0]? = some (.cells #[.int .i64 x] 3 (0, 0)) := by first | exact hp_old (hp_old (hp_new (by simp))) | (refine hp_old ?_; refine hp_old ?_; exact hp_new rfl)
  have hp1 : ((((w.alloc (.cells #[.int .i64 x] 3)).alloc (.cells #[.int .i64 n] 3)).alloc (.cells #[.int .i64 b.k, .int .i64 b.n] 61)) : World).heap[w.heap.size + 1]? = some (.cells #[.int .i64 n] 3 (0, 0)) := by first | exact hp_old (hp_new (by simp)) | (refine hp_old ?_; refine hp_old ?_; exact hp_new rfl)
  have hp2 : ((((w.alloc (.cells #[.int .i64 x] 3)).alloc (.cells #[.int .i64 n] 3)).alloc (.cells #[.int .i64 b.k, .int .i64 b.n] 61)) : World).heap[w.heap.size + 2]? = some (.cells #[.int .i64 b.k, .int .i64 b.n] 61 (0, 0)) := by first | exact hp_new (by simp) | (refine hp_old ?_; refine hp_old ?_; exact hp_new rfl)
  have HB0 := Lib.hid hb0
  have hc2 := h.cols2
  have HA := Lib.hid (pat_any (h.below hb0) y 343 #[.pointer (some ⟨w.heap.size, 0, none⟩), .pointer (some ⟨w.heap.size + 1, 0, none⟩), .pointer (some ⟨w.heap.size + 2, 0, none⟩)] (fun l => insertL l x n b) (fun l => insertL_len l x n b) (fun l hl => hl.insert x n b) (fun args w => by kernel_rfl) (fun r w' hb hr hl => pinsert1_any r x n b _ _ _ w' hr (by omega) (holda hb (range_box hp0 0 _ rfl)) (holda hb (range_box hp1 0 _ rfl)) (holda hb (range_box hp2 0 _ rfl)) (holda hb (range_box hp2 1 _ rfl))))
  clear h hb0 hp0 hp1 hp2
  go_enter Tryz.func278, Tryz.ntmps278
  go_wp2_with (go_at_call 290; refine HA.out.mono ?_; rintro e w1 ⟨rfl, hp⟩; have HP := Lib.hid hp; clear hp)
  go_end0
  exact ⟨rfl, HP.out.pre HB0.out⟩
set_option maxRecDepth 100000 in
theorem pPad_any {base : Nat} {w : World} {q : Pv} {g : Pg} (h : PgO base w q g) (y : Int) : Calls Tryz.prog 341 #[.pointer (some ⟨q.P, 0, none⟩), .int .i64 y] w (PgPost base w q (rowP g y closeL)) := by
  have hc2 := h.cols2
  have HA := Lib.hid (pat_any h y 379 #[] closeL closeL_len (fun l hl => hl.close) (fun args w => by kernel_rfl) (fun r w' hb hr hl => by
    have := cClose_any r.A r.cs r.cap w' hr.2.2.1 (by omega) hr.1
    simpa using this))
  clear h
  go_enter Tryz.func341, Tryz.ntmps341
  go_wp2_with (go_at_call 290; refine HA.out.mono ?_; rintro e w1 ⟨rfl, hp⟩; have HP := Lib.hid hp; clear hp)
  go_end0
  exact ⟨rfl, HP.out⟩
end Go.Proofs.YtaefcahblmopfaaGreatDoor

namespace Go.Proofs.YtaefcahblmopfaaGreatDoor
open Go.RowKit
def encU (n : Nat) : List Value := [.int .u64 n]
theorem encU_len : ∀ n, (encU n).length = 1 := fun _ => rfl
theorem flat_u {ws : List Nat} {k n : Nat} (h : ws[k]? = some n) : (flat encU ws)[k]? = some (.int .u64 n) := by
  have := flat_at2 encU_len ws k n 0 h (by decide)
  rw [Nat.mul_one, Nat.add_zero] at this
  exact this
theorem owns_addr {w : World} {base : Nat} {e : TypeId} {size n cap : Nat} {A : Option Addr} {xs : List Value} (h : w.ownsRow base e size (.slice A n cap) n xs) (hn : 0 < n) : ∃ g, A = some ⟨g, 0, none⟩ := by
  obtain ⟨-, h2 | ⟨g', cap', cur, hv, -⟩⟩ := h
  · have := h2.1; injection this with h1 h3; omega
  · injection hv with h1
    exact ⟨g', h1⟩
theorem pow_u64 {j : Nat} (h : j < 64) : 2 ^ j < 18446744073709551616 := Nat.lt_of_lt_of_le (Nat.pow_lt_pow_right (by decide) h : 2 ^ j < 2 ^ 64) (by decide)
theorem run_shl1 (P : Program) (w : World) {x j : Nat} (h : x % 64 = j) : (Op.shift .shl .u64 1 .i64 ((x : Int).tmod 64)).run P w = .ok (.int .u64 ((2 ^ j : Nat) : Int)) w := by
  have hj : j < 64 := by omega
  have e : (x : Int).tmod 64 = (j : Int) := by rw [Int.tmod_eq_emod_of_nonneg (by omega)]; omega
  have hp : 2 ^ j < 2 ^ 64 := Nat.pow_lt_pow_right (by decide) hj
  rw [e, shift_shl_any _ _ _ _ (by omega), Int.toNat_natCast, Int.one_mul]
  show Result.ok (Value.int .u64 (IntKind.u64.wrap (2 ^ min j 64))) w = _
  rw [show min j 64 = j by omega, IntKind.wrap_u64]
  have e2 : (2 : Int) ^ j = ((2 ^ j : Nat) : Int) := by simp
  have hp2 : 2 ^ j < 18446744073709551616 := Nat.lt_of_lt_of_le hp (by decide)
  have h3 : ((2 ^ j : Nat) : Int) % 18446744073709551616 = ((2 ^ j : Nat) : Int) := Int.emod_eq_of_lt (Int.natCast_nonneg _) (show ((2 ^ j : Nat) : Int) < 18446744073709551616 from Int.ofNat_lt.2 hp2)
  rw [e2, h3]
/-- Stops in memory. -/
structure TbO (base : Nat) (w : World) (T : Nat) (vw : Value) (ws : List Nat) (st : List Bool) : Prop where
  blk : w.heap[T]? = some (.cells #[vw, .int .i64 st.length] 179 (0, 0))
  hb : base ≤ T
  own : w.ownsRow base 206 1 vw ws.length (flat encU ws)
  wds : WdsOf ws st
  le : st.length ≤ 1000
  few : ws.length ≤ 16
def tbX (T : Nat) (vw : Value) : List Nat := T :: vw.ownBlock.toList
section
variable {base : Nat} {w : World} {T : Nat} {vw : Value} {ws : List Nat} {st : List Bool}
theorem TbO.cells (h : TbO base w T vw ws st) : (w.cell? ⟨T, 0, none⟩ = some vw ∧ w.frozen? ⟨T, 0, none⟩ = false) ∧ w.cell? ⟨T, 1, none⟩ = some (.int .i64 st.length) ∧ w.frozen? ⟨T, 1, none⟩ = false := ⟨at_ h.blk 0 _ rfl, at_ h.blk 1 _ rfl⟩
theorem TbO.vform (h : TbO base w T vw ws st) : ∃ A c, vw = .slice A ws.length c := row_form h.own
theorem TbO.mod {X : List Nat} {w' : World} (h : TbO base w T vw ws st) (hm : Mod X w w') (hd : ∀ b ∈ tbX T vw, b ∉ X) : TbO base w' T vw ws st :=
  ⟨(hm.block T (Array.getElem?_eq_some_iff.1 h.blk).1 (hd T (by simp [tbX]))).trans h.blk, h.hb, owns_mod h.own hm (fun b hb => hd b (by simp [tbX, hb])), h.wds, h.le, h.few⟩
theorem TbO.below {w' : World} (h : TbO base w T vw ws st) (hb : Below w.heap.size w w') : TbO base w' T vw ws st := h.mod (Mod.of_below (X := []) hb) (fun _ _ h => by cases h)
set_option maxRecDepth 100000 in
theorem tCols_any (h : TbO base w T vw ws st) : Calls Tryz.prog 326 #[.pointer (some ⟨T, 0, none⟩)] w fun e w' => e = .returned (.int .i64 st.length) ∧ w = w' := by
  obtain ⟨-, x1, -⟩ := h.cells
  clear h
  go_enter Tryz.func326, Tryz.ntmps326
  go_wp2
  go_ret
  exact ⟨rfl, rfl⟩
set_option maxRecDepth 100000 in
theorem tIn_any (h : TbO base w T vw ws st) (x : Int) : Calls Tryz.prog 244 #[.pointer (some ⟨T, 0, none⟩), .int .i64 x] w fun e w' => e = .returned (.bool (decide (0 ≤ x) && decide (x < st.length))) ∧ w = w' := by
  have HR := Lib.hid (tCols_any h)
  clear h
  by_cases hy : 0 ≤ x
  · go_enter Tryz.func244, Tryz.ntmps244
    go_wp2_with (go_at_call 326; refine HR.out.mono ?_; rintro e w1 ⟨rfl, rfl⟩)
    go_ret
    simp [hy]
  · go_enter Tryz.func244, Tryz.ntmps244
    go_wp2_with (go_at_call 326; refine HR.out.mono ?_; rintro e w1 ⟨rfl, rfl⟩)
    go_ret
    simp; omega
/-- What a stop that is set or cleared leaves. -/
def TbSet (base : Nat) (w : World) (T : Nat) (vw : Value) (st' : List Bool) (w' : World) : Prop := ∃ ws', TbO base w' T vw ws' st' ∧ Mod vw.ownBlock.toList w w'
theorem TbO.setW {g c k n : Nat} {st' : List Bool} (h : TbO base w T vw ws st) (hv : vw = .slice (some ⟨g, 0, none⟩) ws.length c) (hk : k < ws.length) (hw : WdsOf (ws.set k n) st') (hl : st'.length = st.length) : TbSet base w T vw st' (w.setCell ⟨g, k, none⟩ (.int .u64 n)) := by
  have hown := h.own
  rw [hv] at hown
  have h1 := owns_set1 hown (k * 1 + 0) (.int .u64 n)
  rw [flat_set1 encU_len ws k ws[k] n 0 (.int .u64 n) (List.getElem?_eq_getElem hk) (by decide) rfl, Nat.mul_one, Nat.add_zero] at h1
  have hM : Mod vw.ownBlock.toList w (w.setCell ⟨g, k, none⟩ (.int .u64 n)) := (Mod.refl _ _).setCell (a := ⟨g, k, none⟩) (.inl (by rw [hv]; simp [Value.ownBlock])) _
  refine ⟨ws.set k n, ⟨?_, h.hb, by rw [List.length_set, hv]; exact h1, hw, by rw [hl]; exact h.le, by rw [List.length_set]; exact h.few⟩, hM⟩
  rw [hl]
  refine (hM.block T (Array.getElem?_eq_some_iff.1 h.blk).1 (fun hb => ?_)).trans h.blk
  obtain ⟨cur, hc⟩ := own_block h.own (Option.mem_toList.1 hb)
  exact block_ne h.blk hc (by decide) rfl
theorem TbSet.trans {w1 w2 : World} {st' : List Bool} (h : TbSet base w1 T vw st' w2) (hb : Below w.heap.size w w1) : TbSet base w T vw st' w2 := by
  obtain ⟨ws', h1, h2⟩ := h
  exact ⟨ws', h1, (Mod.of_below hb).trans h2 (fun b hb => .inl hb)⟩
def TbSetPost (base : Nat) (w : World) (T : Nat) (vw : Value) (st' : List Bool) (e : Ending) (w' : World) : Prop := e = .returned (.tuple #[]) ∧ TbSet base w T vw st' w'
set_option maxRecDepth 100000 in
set_option maxHeartbeats 1600000 in
theorem tSet_in (h : TbO base w T vw ws st) (x : Nat) (hx : x < st.length) : Calls Tryz.prog 151 #[.pointer (some ⟨T, 0, none⟩), .int .i64 x] w (TbSetPost base w T vw (st.set x true)) := by
  have HIN := Lib.hid (tIn_any h x)
  have hin : (decide (0 ≤ (x : Int)) && decide ((x : Int) < st.length)) = true := by simp; omega
  rw [hin] at HIN
  clear hin
  obtain ⟨⟨x0, -⟩, -⟩ := h.cells
  obtain ⟨A, c, hv⟩ := h.vform
  obtain ⟨wd, hwd, hlt, hbit⟩ := wds_word h.wds hx
  have hl := (List.getElem?_eq_some_iff.1 hwd).1
  have hle := h.le
  have hown := h.own
  rw [hv] at hown x0
  obtain ⟨g, rfl⟩ : ∃ g, A = some ⟨g, 0, none⟩ := owns_addr hown (by omega)
  obtain ⟨y, yf⟩ := owns_hold hown (i := x / 64) (v := .int .u64 wd) (flat_u hwd)
  have hwds := h.wds
  generalize hk : x / 64 = k at *
  have hq : IntKind.i64.wrap ((x : Int) / 64) = (k : Int) := by rw [IntWalk.i64_in _ (by omega)]; omega
  have hkl : (k : Int) < (ws.length : Int) := by omega
  obtain ⟨j, hj⟩ : ∃ j, x % 64 = j := ⟨_, rfl⟩
  have hsh := fun w' => run_shl1 Tryz.prog w' hj
  have hor := u64_or_nat wd (2 ^ j) hlt (pow_u64 (show j < 64 by omega))
  go_enter Tryz.func151, Tryz.ntmps151
  go_upto_region 1 with (go_at_call 244; refine HIN.out.mono ?_; rintro e w1 ⟨rfl, rfl⟩)
  refine wp_region_u 13 (fun w' => Below w.heap.size w w' ∧ w'.cell? ⟨T, 0, none⟩ = some (.slice (some ⟨g, 0, none⟩) ws.length c) ∧ w'.cell? ⟨g, k, none⟩ = some (.int .u64 wd)) (by kernel_rfl) (by kernel_rfl) ?_ ?_
  · exact ⟨(Below.refl _ _).drew, x0, y⟩
  simp only [List.take_succ_cons, List.take_zero, List.drop_succ_cons, List.drop_zero]
  repeat (
    (first
     | refine seqU_skip (by rfl) ?_
     | (refine seqU_val ?_ (by rfl) ?_ ?_; rotate_left; (focus (intro w' hS; obtain ⟨_, _, _⟩ := hS; go_simp; first | done | with_reducible rfl))))
    simp only [Act.put, List.setIfInBounds_toArray, List.set_cons_zero, List.set_cons_succ])
  refine seqU_nil (fun w' hS => ?_)
  have hO := h.below hS.1
  have hown2 := hO.own
  rw [hv] at hown2
  obtain ⟨z, zf⟩ := owns_hold hown2 (i := k) (v := .int .u64 wd) (flat_u hwd)
  go_wp2
  go_end0
  have e2 : (2 : Int) ^ j = ((2 ^ j : Nat) : Int) := by simp
  rw [e2, hor]
  have hs := wds_set hO.wds hx (hk.symm ▸ hwd)
  rw [hk, hj] at hs
  exact ⟨rfl, (hO.setW hv (by omega) hs (by simp)).trans hS.1⟩
theorem tSet_out (h : TbO base w T vw ws st) (x : Int) (hx : x < 0 ∨ (st.length : Int) ≤ x) : Calls Tryz.prog 151 #[.pointer (some ⟨T, 0, none⟩), .int .i64 x] w (TbSetPost base w T vw st) := by
  have HIN := Lib.hid (tIn_any h x)
  have hin : (decide (0 ≤ x) && decide (x < st.length)) = false := by simp; omega
  rw [hin] at HIN
  have H := Lib.hid h
  clear hin hx h
  go_enter Tryz.func151, Tryz.ntmps151
  go_wp2_with (go_at_call 244; refine HIN.out.mono ?_; rintro e w1 ⟨rfl, rfl⟩)
  go_end0
  exact ⟨rfl, ws, H.out, Mod.refl _ _⟩
def setT (st : List Bool) (x : Int) (b : Bool) : List Bool := if 0 ≤ x ∧ x < st.length then st.set x.toNat b else st
theorem tSet_any (h : TbO base w T vw ws st) (x : Int) : Calls Tryz.prog 151 #[.pointer (some ⟨T, 0, none⟩), .int .i64 x] w (TbSetPost base w T vw (setT st x true)) := by
  unfold setT
  by_cases hx : 0 ≤ x ∧ x < st.length
  · obtain ⟨k, rfl⟩ := Int.eq_ofNat_of_zero_le hx.1
    rw [if_pos hx, Int.toNat_natCast]
    exact tSet_in h k (by omega)
  · rw [if_neg hx]
    exact tSet_out h x (by omega)
set_option maxRecDepth 100000 in
set_option maxHeartbeats 1600000 in
theorem tClear_in (h : TbO base w T vw ws st) (x : Nat) (hx : x < st.length) : Calls Tryz.prog 150 #[.pointer (some ⟨T, 0, none⟩), .int .i64 x] w (TbSetPost base w T vw (st.set x false)) := by
  have HIN := Lib.hid (tIn_any h x)
  have hin : (decide (0 ≤ (x : Int)) && decide ((x : Int) < st.length)) = true := by simp; omega
  rw [hin] at HIN
  clear hin
  obtain ⟨⟨x0, -⟩, -⟩ := h.cells
  obtain ⟨A, c, hv⟩ := h.vform
  obtain ⟨wd, hwd, hlt, hbit⟩ := wds_word h.wds hx
  have hl := (List.getElem?_eq_some_iff.1 hwd).1
  have hle := h.le
  have hown := h.own
  rw [hv] at hown x0
  obtain ⟨g, rfl⟩ : ∃ g, A = some ⟨g, 0, none⟩ := owns_addr hown (by omega)
  obtain ⟨y, yf⟩ := owns_hold hown (i := x / 64) (v := .int .u64 wd) (flat_u hwd)
  have hwds := h.wds
  generalize hk : x / 64 = k at *
  have hq : IntKind.i64.wrap ((x : Int) / 64) = (k : Int) := by rw [IntWalk.i64_in _ (by omega)]; omega
  have hkl : (k : Int) < (ws.length : Int) := by omega
  obtain ⟨j, hj⟩ : ∃ j, x % 64 = j := ⟨_, rfl⟩
  have hsh := fun w' => run_shl1 Tryz.prog w' hj
  have hor := u64_andNot_nat wd (2 ^ j) hlt (pow_u64 (show j < 64 by omega))
  go_enter Tryz.func150, Tryz.ntmps150
  go_upto_region 1 with (go_at_call 244; refine HIN.out.mono ?_; rintro e w1 ⟨rfl, rfl⟩)
  refine wp_region_u 13 (fun w' => Below w.heap.size w w' ∧ w'.cell? ⟨T, 0, none⟩ = some (.slice (some ⟨g, 0, none⟩) ws.length c) ∧ w'.cell? ⟨g, k, none⟩ = some (.int .u64 wd)) (by kernel_rfl) (by kernel_rfl) ?_ ?_
  · exact ⟨(Below.refl _ _).drew, x0, y⟩
  simp only [List.take_succ_cons, List.take_zero, List.drop_succ_cons, List.drop_zero]
  repeat (
    (first
     | refine seqU_skip (by rfl) ?_
     | (refine seqU_val ?_ (by rfl) ?_ ?_; rotate_left; (focus (intro w' hS; obtain ⟨_, _, _⟩ := hS; go_simp; first | done | with_reducible rfl))))
    simp only [Act.put, List.setIfInBounds_toArray, List.set_cons_zero, List.set_cons_succ])
  refine seqU_nil (fun w' hS => ?_)
  have hO := h.below hS.1
  have hown2 := hO.own
  rw [hv] at hown2
  obtain ⟨z, zf⟩ := owns_hold hown2 (i := k) (v := .int .u64 wd) (flat_u hwd)
  go_wp2
  go_end0
  have e2 : (2 : Int) ^ j = ((2 ^ j : Nat) : Int) := by simp
  rw [e2, hor]
  have hs := wds_clear hO.wds hx (hk.symm ▸ hwd)
  rw [hk, hj] at hs
  exact ⟨rfl, (hO.setW hv (by omega) hs (by simp)).trans hS.1⟩
theorem tClear_out (h : TbO base w T vw ws st) (x : Int) (hx : x < 0 ∨ (st.length : Int) ≤ x) : Calls Tryz.prog 150 #[.pointer (some ⟨T, 0, none⟩), .int .i64 x] w (TbSetPost base w T vw st) := by
  have HIN := Lib.hid (tIn_any h x)
  have hin : (decide (0 ≤ x) && decide (x < st.length)) = false := by simp; omega
  rw [hin] at HIN
  have H := Lib.hid h
  clear hin hx h
  go_enter Tryz.func150, Tryz.ntmps150
  go_wp2_with (go_at_call 244; refine HIN.out.mono ?_; rintro e w1 ⟨rfl, rfl⟩)
  go_end0
  exact ⟨rfl, ws, H.out, Mod.refl _ _⟩
theorem tClear_any (h : TbO base w T vw ws st) (x : Int) : Calls Tryz.prog 150 #[.pointer (some ⟨T, 0, none⟩), .int .i64 x] w (TbSetPost base w T vw (setT st x false)) := by
  unfold setT
  by_cases hx : 0 ≤ x ∧ x < st.length
  · obtain ⟨k, rfl⟩ := Int.eq_ofNat_of_zero_le hx.1
    rw [if_pos hx, Int.toNat_natCast]
    exact tClear_in h k (by omega)
  · rw [if_neg hx]
    exact tClear_out h x (by omega)
end
end Go.Proofs.YtaefcahblmopfaaGreatDoor
