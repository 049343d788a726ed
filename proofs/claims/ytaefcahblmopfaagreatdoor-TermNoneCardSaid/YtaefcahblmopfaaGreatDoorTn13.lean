/- Joined by a tool of this claim out of smaller texts. Conditions: as stated. -/
import Derived.Test.YtaefcahblmopfaaGreatDoorTn12
import Derived.Deep.LoopGhost
set_option linter.unusedVariables false
set_option linter.unusedSimpArgs false
namespace Go.Proofs.YtaefcahblmopfaaGreatDoor
open Go.RowKit
section
variable {base : Nat} {w w1 : World} {q : Pv} {g g1 : Pg}
theorem rowP_len {g : Pg} (y : Int) (F : List Cl → List Cl) : (rowP g y F).scr.length = g.scr.length ∧ (rowP g y F).cols = g.cols := by
  unfold rowP
  split
  · exact ⟨by simp, rfl⟩
  · exact ⟨rfl, rfl⟩
end
end Go.Proofs.YtaefcahblmopfaaGreatDoor
namespace Go.Proofs.YtaefcahblmopfaaGreatDoor
open Go.RowKit
section
variable {base : Nat} {w w1 : World} {q : Pv} {g g1 : Pg}
/-- One more row at the screen's end. -/
theorem PgO.grown {vs' : Value} {r : Rh} (h : PgO base w q g) (ho : w1.ownsRow base 52 2 vs' (q.S.length + 1) (flat encRh (q.S ++ [r]))) (hm : Mod q.vs.ownBlock.toList w w1) (hv : ∀ b, vs'.ownBlock = some b → q.vs.ownBlock = some b ∨ w.heap.size ≤ b)
    (hr : RcAt w1 r) (hrl : r.cs.length = g.cols) (hz : q.S.length + 1 ≤ 1000) : PgRes base w q { g with scr := g.scr ++ [roOf r] } (w1.setCell ⟨q.P, 1, none⟩ vs') := by
  have hvs : ∀ b, q.vs.ownBlock = some b → ∃ cur : Array Value, w.heap[b]? = some (.cells cur 52 (0, 0)) := fun b hb => own_block h.own hb
  have hPv : q.P ∉ q.vs.ownBlock.toList := fun hb => by
    obtain ⟨cur, hc⟩ := hvs _ (Option.mem_toList.1 hb)
    exact block_ne h.blk hc (by decide) rfl
  have hPl := (Array.getElem?_eq_some_iff.1 h.blk).1
  have hm2 : Mod (q.P :: q.vs.ownBlock.toList) w (w1.setCell ⟨q.P, 1, none⟩ vs') := (hm.mono (fun b hb => by simp [Option.mem_toList.1 hb])).setCell (a := ⟨q.P, 1, none⟩) (.inl (by simp)) _
  have hX : NoCel w (q.P :: q.vs.ownBlock.toList) := fun b hb cs f he => by
    refine h.nocel b ?_ cs f he
    rcases List.mem_cons.1 hb with rfl | hb
    · simp [pgX]
    · simp [pgX, Option.mem_toList.1 hb]
  have hblk := whole_set (cs := [.pointer (some ⟨q.R, 0, none⟩), q.vs, .int .i64 g.cols, q.vt]) ((hm.block q.P hPl hPv).trans h.blk) 1 vs' (cs' := [.pointer (some ⟨q.R, 0, none⟩), vs', .int .i64 g.cols, q.vt]) rfl
  have hM1 : Mod [q.P] w1 (w1.setCell ⟨q.P, 1, none⟩ vs') := (Mod.refl [q.P] w1).setCell (a := ⟨q.P, 1, none⟩) (.inl (by simp)) vs'
  have hN1 : NoCel w1 [q.P] := fun b hb cs f he => by
    rw [List.mem_singleton.1 hb, hm.block q.P hPl hPv] at he
    exact block_ne h.blk he (by decide) rfl
  refine ⟨{ q with vs := vs', S := q.S ++ [r] }, rfl, rfl, ⟨hblk, h.hb, h.ring.mod hm2 hX (fun b hb hx => ?_), ?_, owns_mod h.told hm2 (fun b hb hx => ?_), fun b hb hb2 => ?_, ?_, h.hist, fun x hx => ?_, h.cols2, h.cols1000, by show (q.S ++ [r]).length ≤ 1000; simpa using hz, h.gone0⟩, hm2.mono (fun b hb => ?_), fun b hb => ?_⟩
  · rcases List.mem_cons.1 hx with rfl | hx
    · rcases List.mem_cons.1 hb with h1 | hb
      · exact block_ne h.blk h.ring.blk (by decide) h1
      · obtain ⟨cur, hc⟩ := own_block h.ring.own (Option.mem_toList.1 hb)
        exact block_ne h.blk hc (by decide) rfl
    · rcases List.mem_cons.1 hb with rfl | hb
      · obtain ⟨cur, hc⟩ := hvs _ (Option.mem_toList.1 hx)
        exact block_ne h.ring.blk hc (by decide) rfl
      · exact h.apart b (Option.mem_toList.1 hx) (Option.mem_toList.1 hb)
  · have := owns_mod ho hM1 (fun b hb hx => by
      have e := List.mem_singleton.1 hx
      rcases hv b hb with h1 | h1
      · exact hPv (by rw [← e]; simp [h1])
      · omega)
    simpa using this
  · obtain ⟨cur, hc⟩ := own_block h.told hb
    rcases List.mem_cons.1 hx with rfl | hx
    · exact block_ne h.blk hc (by decide) rfl
    · obtain ⟨cur2, hc2⟩ := hvs _ (Option.mem_toList.1 hx)
      exact block_ne hc2 hc (by decide) rfl
  · rcases hv b hb with h1 | h1
    · exact h.apart b h1 hb2
    · have := (h.ring.own.lt b hb2).2; omega
  · show (q.S ++ [r]).map roOf = g.scr ++ [roOf r]
    rw [List.map_append, h.scr]; rfl
  · rcases List.mem_append.1 (show x ∈ q.S ++ [r] from hx) with hx | hx
    · exact ⟨(h.rows x hx).1.mod hm2 hX, (h.rows x hx).2⟩
    · rw [List.mem_singleton.1 hx]
      exact ⟨hr.mod hM1 hN1, hrl⟩
  · rcases List.mem_cons.1 hb with rfl | hb
    · simp [pgX]
    · simp [pgX, Option.mem_toList.1 hb]
  · rcases List.mem_cons.1 hb with rfl | hb
    · exact .inl (by simp [pgX])
    rcases List.mem_append.1 hb with hb | hb
    · rcases hv b (Option.mem_toList.1 hb) with h1 | h1
      · exact .inl (by simp [pgX, h1])
      · exact .inr h1
    · exact .inl (by simp only [pgX, List.mem_cons, List.mem_append]; right; right; simpa using hb)
def zeroCol : Col := ⟨0, 0⟩
set_option maxRecDepth 100000 in
set_option maxHeartbeats 3200000 in
theorem pfill_any (h : PgO base w q g) (rows : Nat) (hr : rows ≤ 1000) : Calls Tryz.prog 112 #[.pointer (some ⟨q.P, 0, none⟩), .int .i64 rows] w (PgPost base w q { g with scr := g.scr ++ List.replicate (rows - g.scr.length) (blankR g.cols zeroCol) }) := by
  obtain ⟨j0, hj, gz0, gz1, gz2⟩ := info_parts info_rowz
  have hrows := h.rows1000
  have hlen := h.len
  have hc2 := h.cols2
  have hc3 := h.cols1000
  have HBK := Lib.hid (fun w' (x2 : w'.cell? ⟨q.P, 2, none⟩ = some (.int .i64 g.cols)) => pblank_any q.P g.cols zeroCol w' x2 hc2 hc3)
  have H := Lib.hid h
  clear h
  obtain ⟨N, hN⟩ : ∃ N, rows - g.scr.length = N := ⟨_, rfl⟩
  rw [hN]
  have HN := Lib.hid hN
  clear hN
  go_enter Tryz.func112, Tryz.ntmps112
  go_wp2_with fail
  go_loopg [10] N (fun k _ wr => ∃ i : Nat, i + k = N ∧ PgRes base w q { g with scr := g.scr ++ List.replicate i (blankR g.cols zeroCol) } wr)
  case atStart => exact ⟨0, by omega, by simpa using H.out.res⟩
  case round =>
    obtain ⟨i, hik, hs⟩ := hrel
    have HS := Lib.hid hs
    obtain ⟨q1, e1, e2, hq1, hm1, hx1⟩ := hs
    obtain ⟨A1, c1, hv1⟩ := row_form hq1.own
    have hl1 : q1.S.length = g.scr.length + i := by rw [hq1.len]; simp
    obtain ⟨-, ⟨x1, x1f⟩, ⟨x2, -⟩, -⟩ := hq1.cells
    rw [e1] at x1 x1f x2
    rw [hv1] at x1
    obtain ⟨m, hm⟩ : ∃ m, q1.S.length = m := ⟨_, rfl⟩
    rw [hm] at x1
    have HM := Lib.hid hm
    have hbw : base ≤ wr.heap.size := by have := hq1.lt q1.P (by simp [pgX]); omega
    have hPl := lt_of_cell x2
    by_cases hlt : m < rows
    rotate_left
    · have hltI : ¬ (m : Int) < (rows : Int) := by omega
      have hi : i = N := by have := HN.out; omega
      subst hi
      clear hm hq1 hm1 hx1
      go_wp2
      go_end0
      exact ⟨rfl, HS.out⟩
    · have hltI : (m : Int) < (rows : Int) := by omega
      have HQ := Lib.hid hq1
      have HE := Lib.hid (And.intro e1 (And.intro e2 (And.intro hm1 hx1)))
      have HV := Lib.hid (show q1.vs = .slice A1 m c1 from by rw [← hm]; exact hv1)
      have hNi : i < N := by have := HN.out; omega
      have hm1000 : m + 1 ≤ 1000 := by omega
      clear hm hq1 hm1 hx1 hv1 HS
      go_upto_region 1 with fail
      refine Go.RL.wp_region_l 12 (fun w' => (w'.cell? ⟨q.P, 1, none⟩ = some (.slice A1 m c1) ∧ w'.frozen? ⟨q.P, 1, none⟩ = false) ∧ w'.cell? ⟨q.P, 2, none⟩ = some (.int .i64 g.cols)) (fun w' => Below wr.heap.size wr w') (by kernel_rfl) (by kernel_rfl) ⟨⟨x1, x1f⟩, x2⟩ ((Below.refl _ _).drew) ?_
      refine Go.RL.AtL.go 0 ?_
      iterate 7 (refine Go.RL.AtK.take (o := ⟨_, _, _, _, _, _⟩) (v := ?_) (by kernel_rfl) rfl (by simp) (by kernel_rfl) (by kernel_rfl) ?_ ?_; rotate_left; (focus (refine Go.RL.Pure.val (by rfl) ?_; intro w' hI; obtain ⟨⟨_, _⟩, _⟩ := hI; go_simp; first | done | with_reducible rfl)); simp only [Act.put, List.setIfInBounds_toArray, List.set_cons_zero, List.set_cons_succ])
      refine Go.RL.AtK.back ?_
      refine Go.RL.AtL.one 7 (o := ⟨_, _, _, _, _, _⟩) (fun v => ∃ g1 cap, v = .agg #[.slice (some ⟨g1, 0, none⟩) g.cols cap, .bool false]) (fun v w' => ∃ g1 cap, v = .agg #[.slice (some ⟨g1, 0, none⟩) g.cols cap, .bool false] ∧ Below wr.heap.size wr w' ∧ RcAt w' ⟨some ⟨g1, 0, none⟩, List.replicate g.cols (blankC zeroCol), cap, false⟩) (by simp) (by kernel_rfl) rfl
        (Go.RL.StabL.call 174 #[.pointer (some ⟨q.P, 0, none⟩), .agg #[.int .i64 0, .int .i64 0]] _ _ (by rfl) ?_ (fun w' hI hS => ?_)) ?_
      · intro w'
        go_simp
      · refine (HBK.out w' hI.2).mono ?_
        rintro e w3 ⟨g1, cap, rfl, hr, hb⟩
        exact ⟨_, rfl, ⟨g1, cap, rfl⟩, ⟨hold hb hI.1, holda hb hI.2⟩, g1, cap, rfl, below_tail hS hb, hr⟩
      rintro v ⟨g1, cap, rfl⟩
      simp only [Act.put, List.setIfInBounds_toArray, List.set_cons_zero, List.set_cons_succ]
      refine Go.RL.AtL.one 8 (o := ⟨_, _, _, _, _, _⟩) (fun v => ∃ k, v = .slice (some ⟨k, 0, none⟩) 1 1) (fun v w' => ∃ k, v = .slice (some ⟨k, 0, none⟩) 1 1 ∧ Below wr.heap.size wr w' ∧ RcAt w' ⟨some ⟨g1, 0, none⟩, List.replicate g.cols (blankC zeroCol), cap, false⟩ ∧ w'.heap[k]? = some (.cells #[.slice (some ⟨g1, 0, none⟩) g.cols cap, .bool false] 52 (0, 0))) (by simp) (by kernel_rfl) rfl (Go.RL.StabL.op _ _ (by rfl) (fun w' hI hS => ?_)) ?_
      · obtain ⟨g1', cap', hv', hb, hrc⟩ := hS
        simp only [Value.agg.injEq, Array.mk.injEq, List.cons.injEq, Value.slice.injEq, Option.some.injEq, Addr.mk.injEq, and_true, true_and] at hv'
        obtain ⟨rfl, rfl⟩ := hv'
        have hb2 := below_allocs (Below.refl w'.heap.size w') (.cells #[.slice (some ⟨g1, 0, none⟩) g.cols cap, .bool false] 52)
        exact ⟨.slice (some ⟨w'.heap.size, 0, none⟩) 1 1, w'.alloc (.cells #[.slice (some ⟨g1, 0, none⟩) g.cols cap, .bool false] 52), by go_simp, ⟨_, rfl⟩, ⟨hold hb2 hI.1, holda hb2 hI.2⟩, _, rfl, below_tail hb hb2, hrc.below hb2, hp_new rfl⟩
      rintro v ⟨k, rfl⟩
      simp only [Act.put, List.setIfInBounds_toArray, List.set_cons_zero, List.set_cons_succ]
      refine Go.RL.AtL.one 9 (o := ⟨some 20, .call { callee := .builtin .append, args := #[.tmp 15, .tmp 19], argTypes := #[46, 46] }, 46, _, _, none⟩) (fun v => ∃ g' c', v = .slice (some ⟨g', 0, none⟩) (m + 1) c') (fun v w' => w'.ownsRow base 52 2 v (m + 1) (flat encRh (q1.S ++ [⟨some ⟨g1, 0, none⟩, List.replicate g.cols (blankC zeroCol), cap, false⟩])) ∧ Mod q1.vs.ownBlock.toList wr w' ∧ (∀ b, v.ownBlock = some b → q1.vs.ownBlock = some b ∨ wr.heap.size ≤ b) ∧ RcAt w' ⟨some ⟨g1, 0, none⟩, List.replicate g.cols (blankC zeroCol), cap, false⟩) (by simp) (by kernel_rfl) rfl (Go.RL.StabL.op _ _ (by rfl) (fun w' hI hS => ?_)) ?_
      · obtain ⟨k', hv', hb, hrc, hk⟩ := hS
        simp only [Value.slice.injEq, Option.some.injEq, Addr.mk.injEq, and_true, true_and] at hv'
        subst hv'
        have hown := (HQ.out.below hb).own
        rw [HM.out] at hown
        obtain ⟨v', w3, hr3, ho3, hg3, -, hn3⟩ := run_append_own_at (P := Tryz.prog) w' base 46 46 52 j0 _ 2 32 Tryz.underlying46 hj gz0 gz1 gz2 rfl (by decide) q1.vs m (flat encRh q1.S) hown ⟨k, 0, none⟩ 1 1 (encRh ⟨some ⟨g1, 0, none⟩, List.replicate g.cols (blankC zeroCol), cap, false⟩) rfl (fun j u hj => by
          rw [add_lit', Nat.zero_add]
          exact (at_ hk j u (by simpa [encRh] using hj)).1) (encRh_one _) (by simp only [maxLen]; omega) (by omega) (Nat.le_trans hbw hb.size)
        obtain ⟨g', c', rfl⟩ := own_form ho3 (by omega)
        have hvs : ∀ b, q1.vs.ownBlock = some b → b < wr.heap.size := fun b hb => (HQ.out.own.lt b hb).2
        have hMg : Mod q1.vs.ownBlock.toList w' w3 := Mod.of_grown hg3 (fun b hb => by simp [hb])
        have hPn : q.P ∉ q1.vs.ownBlock.toList := fun hx => by
          obtain ⟨cur, hc⟩ := own_block HQ.out.own (Option.mem_toList.1 hx)
          have := HQ.out.blk
          rw [HE.out.1] at this
          exact block_ne this hc (by decide) rfl
        have hNC : NoCel w' q1.vs.ownBlock.toList := fun b hb' cs f he => by
          obtain ⟨cur, hc⟩ := own_block hown (Option.mem_toList.1 hb')
          exact block_ne hc he (by decide) rfl
        refine ⟨_, w3, exec_append _ _ _ rfl _ _ _ rfl rfl (by rw [HV.out] at hr3; exact hr3), ⟨g', c', rfl⟩, ⟨hMg.hold hPn hI.1, hMg.cell hPn hI.2⟩, ?_, (Mod.of_below (X := q1.vs.ownBlock.toList) hb).trans hMg (fun b hb => .inl hb), fun b hb' => ?_, hrc.mod hMg hNC⟩
        · rw [flat_append]; exact ho3
        · rcases hn3 with h3 | h3
          · exact .inl (by rw [← h3]; exact hb')
          · rw [h3] at hb'; injection hb' with hb'; exact .inr (by have := hb.size; omega)
      rintro v ⟨g', c', rfl⟩
      simp only [Act.put, List.setIfInBounds_toArray, List.set_cons_zero, List.set_cons_succ]
      refine Go.RL.AtL.go 10 ?_
      iterate 2 (refine Go.RL.AtK.take (o := ⟨_, _, _, _, _, _⟩) (v := ?_) (by kernel_rfl) rfl (by simp) (by kernel_rfl) (by kernel_rfl) ?_ ?_; rotate_left; (focus (refine Go.RL.Pure.val (by rfl) ?_; intro w' hI; obtain ⟨⟨_, _⟩, _⟩ := hI; go_simp; first | done | with_reducible rfl)); simp only [Act.put, List.setIfInBounds_toArray, List.set_cons_zero, List.set_cons_succ])
      refine Go.RL.AtK.back ?_
      refine Go.RL.AtL.done (by kernel_rfl) (fun w' hI hS => ?_)
      obtain ⟨hs1, hs2, hs3, hs4⟩ := hS
      rw [← HM.out] at hs1
      have HG := Lib.hid (HQ.out.grown hs1 hs2 hs3 hs4 (by simp) (by rw [HM.out]; exact hm1000))
      rw [HM.out, HE.out.1] at HG
      obtain ⟨⟨z1, z1f⟩, -⟩ := hI
      clear hs1 hs2 hs3 hs4 x1 x1f x2
      go_wp2
      go_roundg (gk - 1)
      case rel =>
        refine ⟨i + 1, by omega, ?_⟩
        have := PgRes.trans ⟨HE.out.1, HE.out.2.1, HE.out.2.2.1, HE.out.2.2.2⟩ HG.out
        rw [List.replicate_succ', ← List.append_assoc]
        exact this
      case measure => omega
def fitsB (r c : Int) : Bool := decide (1 ≤ r ∧ r ≤ 1000 ∧ 2 ≤ c ∧ c ≤ 1000)
set_option maxRecDepth 100000 in
theorem pfits_any (r c : Int) (w : World) : Calls Tryz.prog 111 #[.int .i64 r, .int .i64 c] w fun e w' => e = .returned (.bool (fitsB r c)) ∧ w = w' := by
  unfold fitsB
  by_cases h1 : 1 ≤ r <;> by_cases h2 : r ≤ 1000 <;> by_cases h3 : 2 ≤ c <;>
  · go_enter Tryz.func111, Tryz.ntmps111
    go_wp2
    go_ret
    refine ⟨?_, rfl⟩
    simp [h1, h2, h3]
    try omega
end
end Go.Proofs.YtaefcahblmopfaaGreatDoor
namespace Go.Proofs.YtaefcahblmopfaaGreatDoor
open Go.RowKit
def newP (rows cols lines : Nat) : Pg := ⟨lines, [], 0, List.replicate rows (blankR cols zeroCol), cols, []⟩
def NewPost (rows cols lines : Nat) (w : World) (e : Ending) (w' : World) : Prop :=
  ∃ q, e = .returned (.tuple #[.pointer (some ⟨q.P, 0, none⟩), .int .i64 0]) ∧ PgO w.heap.size w' q (newP rows cols lines) ∧ Below w.heap.size w w'
set_option maxRecDepth 100000 in
set_option maxHeartbeats 1600000 in
theorem pnew_ok (rows cols lines : Nat) (w : World) (hr1 : 1 ≤ rows) (hr2 : rows ≤ 1000) (hc1 : 2 ≤ cols) (hc2 : cols ≤ 1000) (hl : lines ≤ 100000) :
    Calls Tryz.prog 62 #[.int .i64 rows, .int .i64 cols, .int .i64 lines] w (NewPost rows cols lines w) := by
  have HN := Lib.hid (rnew_ok lines w hl)
  have hf : fitsB rows cols = true := by unfold fitsB; simp; omega
  have HF := Lib.hid (fun w => pfits_any rows cols w)
  rw [hf] at HF
  clear hf
  go_enter Tryz.func62, Tryz.ntmps62
  go_upto_region 5 with (first
    | (go_at_call 110; refine HN.out.mono ?_; rintro e w1 ⟨rfl, hro, hb⟩; have HRO := Lib.hid hro; have HB := Lib.hid hb; clear hro hb)
    | (go_at_call 111; refine (HF.out _).mono ?_; rintro e w9 ⟨rfl, rfl⟩))
  have hb2 := below_allocs (Below.refl w1.heap.size w1) (.cells #[.pointer (some ⟨w.heap.size, 0, none⟩), .slice none 0 0, .int .i64 cols, .slice none 0 0] 175)
  have hp : (w1.alloc (.cells #[.pointer (some ⟨w.heap.size, 0, none⟩), .slice none 0 0, .int .i64 cols, .slice none 0 0] 175)).heap[w1.heap.size]? = some (.cells #[.pointer (some ⟨w.heap.size, 0, none⟩), .slice none 0 0, .int .i64 cols, .slice none 0 0] 175 (0, 0)) := hp_new rfl
  have hO : PgO w.heap.size (w1.alloc (.cells #[.pointer (some ⟨w.heap.size, 0, none⟩), .slice none 0 0, .int .i64 cols, .slice none 0 0] 175)) ⟨w1.heap.size, w.heap.size, .slice none 0 0, .slice none 0 0, .slice none 0 0, [], [], 0, 0⟩ ⟨lines, [], 0, [], cols, []⟩ :=
    ⟨hp, HB.out.size, HRO.out.below hb2, World.ownsRow_nil _ _ _ _, World.ownsRow_nil _ _ _ _, (fun b hb => by simp [Value.ownBlock] at hb), rfl, rfl, (fun r hr => by cases hr), hc1, hc2, by simp, Int.le_refl _⟩
  have HFI := Lib.hid (pfill_any hO rows hr2)
  have HB2 := Lib.hid (below_tail HB.out hb2)
  have HX := Lib.hid hO.lt
  clear hb2 hp hO
  go_wp2_with (go_at_call 112; (with_reducible refine HFI.out.mono ?_); rintro e w3 ⟨rfl, hs⟩; have HS := Lib.hid hs; clear hs)
  go_ret2
  obtain ⟨q, e1, e2, h1, h2, h3⟩ := HS.out
  simp only [List.length_nil, Nat.sub_zero, List.nil_append] at h1
  refine ⟨q, by rw [e1]; rfl, h1, HB2.out.trans (h2.below (B := w.heap.size) (fun b hb => (HX.out b hb).1) HB2.out.size)⟩
set_option maxRecDepth 100000 in
set_option maxHeartbeats 1600000 in
theorem pnew_bad (rows cols lines : Int) (w : World) (h : fitsB rows cols = false ∨ lines < 0 ∨ 100000 < lines) :
    Calls Tryz.prog 62 #[.int .i64 rows, .int .i64 cols, .int .i64 lines] w fun e w' => e = .returned (.tuple #[.pointer none, .int .i64 1]) ∧ Below w.heap.size w w' := by
  have HF := Lib.hid (fun w => pfits_any rows cols w)
  by_cases hl : lines < 0 ∨ 100000 < lines
  · have HN := Lib.hid (rnew_bad lines w hl)
    clear h hl
    cases hf : fitsB rows cols with
    | true =>
      rw [hf] at HF
      clear hf
      go_enter Tryz.func62, Tryz.ntmps62
      go_wp2_with (first
        | (go_at_call 110; refine HN.out.mono ?_; rintro e w1 ⟨rfl, rfl⟩)
        | (go_at_call 111; refine (HF.out _).mono ?_; rintro e w9 ⟨rfl, rfl⟩))
      go_ret2
      exact ⟨rfl, Below.refl _ _⟩
    | false =>
      rw [hf] at HF
      clear hf
      go_enter Tryz.func62, Tryz.ntmps62
      go_wp2_with (first
        | (go_at_call 110; refine HN.out.mono ?_; rintro e w1 ⟨rfl, rfl⟩)
        | (go_at_call 111; refine (HF.out _).mono ?_; rintro e w9 ⟨rfl, rfl⟩))
      go_ret2
      exact ⟨rfl, Below.refl _ _⟩
  · obtain ⟨n, rfl⟩ : ∃ n : Nat, lines = n := ⟨lines.toNat, by omega⟩
    have HN := Lib.hid (rnew_ok n w (by omega))
    have hf : fitsB rows cols = false := by
      rcases h with h | h
      · exact h
      · exact absurd h hl
    rw [hf] at HF
    clear h hl hf
    go_enter Tryz.func62, Tryz.ntmps62
    go_wp2_with (first
      | (go_at_call 110; refine HN.out.mono ?_; rintro e w1 ⟨rfl, -, hb⟩; have HB := Lib.hid hb; clear hb)
      | (go_at_call 111; refine (HF.out _).mono ?_; rintro e w9 ⟨rfl, rfl⟩))
    go_ret2
    exact ⟨rfl, HB.out⟩
end Go.Proofs.YtaefcahblmopfaaGreatDoor
namespace Go.Proofs.YtaefcahblmopfaaGreatDoor
open Go.RowKit
section
variable {base : Nat} {w : World} {R : Nat} {vl : Value} {SL : List Rh} {room first n : Nat} {gone : Int}
end
section
variable {base : Nat} {w : World} {q : Pv} {g : Pg}
end
end Go.Proofs.YtaefcahblmopfaaGreatDoor

namespace Go.Proofs.YtaefcahblmopfaaGreatDoor
open Go.RowKit
def TbRes (base : Nat) (w : World) (T : Nat) (vw : Value) (st' : List Bool) (w' : World) : Prop :=
  ∃ vw' ws', TbO base w' T vw' ws' st' ∧ Mod (tbX T vw) w w' ∧ ∀ b ∈ tbX T vw', b ∈ tbX T vw ∨ w.heap.size ≤ b
theorem info_u64 : (Tryz.prog.info? 206).map (fun i => (i.zero, i.size, i.bytes)) = some (some (.int .u64 0), 1, 8) := by kernel_rfl
theorem wds_any {ws : List Nat} {st st2 : List Bool} (h : WdsOf ws st) (hl : st2.length ≤ 64 * ws.length) (hg : ∀ y, st2.getD y false = st.getD y false) : WdsOf ws st2 :=
  ⟨hl, fun i n hn => ⟨(h.2 i n hn).1, fun k hk => by rw [(h.2 i n hn).2 k hk, hg]⟩⟩
theorem ext_getD {a b : List Bool} (hl : a.length = b.length) (h : ∀ y, y < a.length → a.getD y false = b.getD y false) : a = b := by
  apply List.ext_getElem hl
  intro i h1 h2
  have := h i h1
  rw [List.getD_eq_getElem?_getD, List.getD_eq_getElem?_getD, List.getElem?_eq_getElem h1, List.getElem?_eq_getElem h2] at this
  exact this
theorem getD_map {n y : Nat} (f : Nat → Bool) : ((List.range n).map f).getD y false = if y < n then f y else false := by
  rw [List.getD_eq_getElem?_getD, List.getElem?_map]
  by_cases h : y < n
  · rw [List.getElem?_range h, if_pos h]; rfl
  · rw [List.getElem?_eq_none (by simpa using h), if_neg h]; rfl
/-- Stops of so many columns. -/
def sizeT (st : List Bool) (cols : Nat) : List Bool := (List.range cols).map (fun y => if y < st.length then st.getD y false else decide (y % 8 = 0))
section
variable {base : Nat} {w : World} {T : Nat} {vw : Value} {ws : List Nat} {st : List Bool}
theorem TbRes.set {w1 w2 : World} {st2 : List Bool} {vw1 : Value} (hm : Mod (tbX T vw) w w1) (hx : ∀ b ∈ tbX T vw1, b ∈ tbX T vw ∨ w.heap.size ≤ b) (h2 : TbSet base w1 T vw1 st2 w2) : TbRes base w T vw st2 w2 := by
  obtain ⟨ws2, ho, hm2⟩ := h2
  exact ⟨vw1, ws2, ho, hm.trans hm2 (fun b hb => hx b (by simp only [tbX, List.mem_cons]; exact .inr hb)), hx⟩
set_option maxRecDepth 100000 in
theorem tfits_any (c : Int) (w : World) : Calls Tryz.prog 113 #[.int .i64 c] w fun e w' => e = .returned (.bool (decide (2 ≤ c) && decide (c ≤ 1000))) ∧ w = w' := by
  by_cases h1 : 2 ≤ c
  · go_enter Tryz.func113, Tryz.ntmps113
    go_wp2
    go_ret
    simp [h1]
  · go_enter Tryz.func113, Tryz.ntmps113
    go_wp2
    go_ret
    simp; omega
theorem TbO.ne (h : TbO base w T vw ws st) : T ∉ vw.ownBlock.toList := fun hb => by
  obtain ⟨cur, hc⟩ := own_block h.own (Option.mem_toList.1 hb)
  exact block_ne h.blk hc (by decide) rfl
theorem TbO.rewords {w1 : World} {v' : Value} {ws' : List Nat} (h : TbO base w T vw ws st) (ho : w1.ownsRow base 206 1 v' ws'.length (flat encU ws')) (hm : Mod vw.ownBlock.toList w w1) (hv : ∀ b, v'.ownBlock = some b → vw.ownBlock = some b ∨ w.heap.size ≤ b) (hw : WdsOf ws' st) (hf : ws'.length ≤ 16) :
    TbO base (w1.setCell ⟨T, 0, none⟩ v') T v' ws' st ∧ Mod (tbX T vw) w (w1.setCell ⟨T, 0, none⟩ v') ∧ ∀ b ∈ tbX T v', b ∈ tbX T vw ∨ w.heap.size ≤ b := by
  have hT := (hm.block T (Array.getElem?_eq_some_iff.1 h.blk).1 h.ne).trans h.blk
  have hTl := (Array.getElem?_eq_some_iff.1 h.blk).1
  have hT2 : ∀ b, v'.ownBlock = some b → b ∉ [T] := fun b hb hx => by
    rw [List.mem_singleton.1 hx] at hb
    rcases hv T hb with h1 | h1
    · exact h.ne (Option.mem_toList.2 h1)
    · omega
  have hM1 : Mod [T] w1 (w1.setCell ⟨T, 0, none⟩ v') := (Mod.refl _ _).setCell (a := ⟨T, 0, none⟩) (.inl (by simp)) _
  refine ⟨⟨heap_setCell_eq hT, h.hb, owns_mod ho hM1 hT2, hw, h.le, hf⟩, (hm.mono (fun b hb => by simp only [tbX, List.mem_cons]; exact .inr hb)).setCell (a := ⟨T, 0, none⟩) (.inl (by simp [tbX])) _, fun b hb => ?_⟩
  rcases List.mem_cons.1 hb with rfl | hb
  · exact .inl (by simp [tbX])
  · rcases hv b (Option.mem_toList.1 hb) with h1 | h1
    · exact .inl (by simp only [tbX, List.mem_cons, Option.mem_toList]; exact .inr h1)
    · exact .inr h1
theorem TbO.recols {st' : List Bool} (h : TbO base w T vw ws st) (hl : st'.length ≤ 64 * ws.length) (h3 : st'.length ≤ 1000) (hg : ∀ y, st'.getD y false = st.getD y false) :
    TbO base (w.setCell ⟨T, 1, none⟩ (.int .i64 st'.length)) T vw ws st' ∧ Mod (tbX T vw) w (w.setCell ⟨T, 1, none⟩ (.int .i64 st'.length)) := by
  have hM1 : Mod [T] w (w.setCell ⟨T, 1, none⟩ (.int .i64 st'.length)) := (Mod.refl _ _).setCell (a := ⟨T, 1, none⟩) (.inl (by simp)) _
  exact ⟨⟨heap_setCell_eq h.blk, h.hb, owns_mod h.own hM1 (fun b hb hx => h.ne (by rw [← List.mem_singleton.1 hx]; exact Option.mem_toList.2 hb)), wds_any h.wds hl hg, h3, h.few⟩, hM1.mono (fun b hb => by rw [List.mem_singleton.1 hb]; simp [tbX])⟩
def TbSizePost (base : Nat) (w : World) (T : Nat) (vw : Value) (st' : List Bool) (e : Ending) (w' : World) : Prop := e = .returned (.int .i64 0) ∧ TbRes base w T vw st' w'
set_option maxRecDepth 100000 in
set_option maxHeartbeats 1600000 in
theorem tSize_ok (h : TbO base w T vw ws st) (cols : Nat) (h2 : 2 ≤ cols) (h3 : cols ≤ 1000) : Calls Tryz.prog 80 #[.pointer (some ⟨T, 0, none⟩), .int .i64 cols] w (TbSizePost base w T vw (sizeT st cols)) := by
  obtain ⟨j0, hj, gz0, gz1, gz2⟩ := info_parts info_u64
  have HF := Lib.hid (fun w => tfits_any cols w)
  have hf : (decide (2 ≤ (cols : Int)) && decide ((cols : Int) ≤ 1000)) = true := by simp; omega
  rw [hf] at HF
  clear hf
  obtain ⟨-, x1, -⟩ := h.cells
  have H := Lib.hid h
  have hle := h.le
  have hTl := lt_of_cell x1
  obtain ⟨was, hwas⟩ : ∃ was, st.length = was := ⟨_, rfl⟩
  rw [hwas] at x1 hle
  have HW := Lib.hid hwas
  clear h hwas
  go_enter Tryz.func80, Tryz.ntmps80
  go_wp2_with (go_at_call 113; refine (HF.out _).mono ?_; rintro e w1 ⟨rfl, rfl⟩)
  go_loopw [6] (fun s6 wr => ∃ x : Nat, s6 = .int .i64 x ∧ cols ≤ x ∧ (x ≤ was ∨ x = cols) ∧ ∃ st1, TbSet base w T vw st1 wr ∧ st1.length = was ∧ ∀ y, st1.getD y false = if cols ≤ y ∧ y < x then false else st.getD y false) (fun s6 _ => was - (intOf s6).toNat)
  case atStart => exact ⟨cols, rfl, Nat.le_refl _, .inr rfl, st, ⟨ws, H.out, Mod.refl _ _⟩, HW.out, fun y => by rw [if_neg (by omega)]⟩
  case round =>
    obtain ⟨x, rfl, hx1, hx2, st1, hs, hsl, hsg⟩ := hrel
    have HS := Lib.hid hs
    have HG := Lib.hid hsg
    have HL := Lib.hid hsl
    clear hs hsg hsl
    by_cases hlt : x < was
    · have hltI : (x : Int) < (was : Int) := by omega
      obtain ⟨ws1, ho, hm⟩ := HS.out
      have HC := Lib.hid (tClear_any ho x)
      have HM := Lib.hid hm
      clear ho hm
      go_wp2_with (go_at_call 150; refine HC.out.mono ?_; rintro e w2 ⟨rfl, hs2⟩; have HS2 := Lib.hid hs2; clear hs2)
      go_roundw
      case rel =>
        obtain ⟨ws2, ho2, hm2⟩ := HS2.out
        refine ⟨x + 1, by go_num, by omega, .inl (by omega), _, ⟨ws2, ho2, HM.out.trans hm2 (fun b hb => .inl hb)⟩, ?_, fun y => ?_⟩
        · unfold setT; split
          · rw [List.length_set]; exact HL.out
          · exact HL.out
        · unfold setT
          rw [if_pos ⟨by omega, by rw [HL.out]; omega⟩, Int.toNat_natCast, getD_set (by rw [HL.out]; exact hlt), HG.out y]
          by_cases hxy : x = y
          · rw [if_pos hxy, if_pos (by omega)]
          · rw [if_neg hxy]
            by_cases hc : cols ≤ y ∧ y < x
            · rw [if_pos hc, if_pos (by omega)]
            · rw [if_neg hc, if_neg (by omega)]
      case measure => simp [intOf]; omega
    · have hltI : ¬ (x : Int) < (was : Int) := by omega
      have HG1 : Hid (∀ y, st1.getD y false = if cols ≤ y then false else st.getD y false) := Lib.hid (fun y => by
        rw [HG.out y]
        by_cases hc : cols ≤ y ∧ y < x
        · rw [if_pos hc, if_pos hc.1]
        · rw [if_neg hc]
          by_cases hy : cols ≤ y
          · rw [if_pos hy, getD_out (by rw [HW.out]; omega)]
          · rw [if_neg hy])
      have HR0 : Hid (TbRes base w T vw st1 wr) := Lib.hid (by
        obtain ⟨ws1, ho, hm⟩ := HS.out
        exact ⟨vw, ws1, ho, hm.mono (fun b hb => by simp only [tbX, List.mem_cons]; exact .inr hb), fun b hb => .inl hb⟩)
      clear HG HS
      go_wp2_with fail
      go_loopg [35] 16 (fun k _ w2 => ∃ vw' ws', TbO base w2 T vw' ws' st1 ∧ Mod (tbX T vw) w w2 ∧ (∀ b ∈ tbX T vw', b ∈ tbX T vw ∨ w.heap.size ≤ b) ∧ (16 ≤ k + ws'.length))
      case atStart =>
        obtain ⟨vw', ws', ho, hm, hx⟩ := HR0.out
        exact ⟨vw', ws', ho, hm, hx, by omega⟩
      case round =>
        obtain ⟨vw1, ws1, ho1, hm1, hx1', hk1⟩ := hrel
        obtain ⟨A1, c1, hv1⟩ := ho1.vform
        obtain ⟨⟨z0, z0f⟩, z1, z1f⟩ := ho1.cells
        rw [hv1] at z0
        have hTw := lt_of_cell z1
        have HO1 := Lib.hid ho1
        have HM1 := Lib.hid hm1
        have HX1 := Lib.hid hx1'
        obtain ⟨n1, hn1⟩ : ∃ n1, ws1.length = n1 := ⟨_, rfl⟩
        have HN1 := Lib.hid hn1
        rw [hn1] at z0 hk1 hv1
        have HV1 := Lib.hid hv1
        clear ho1 hm1 hx1' hn1 hv1 z1 z1f
        by_cases hlt2 : 64 * n1 < cols
        · have hn16 : n1 < 16 := by omega
          have hw64 : IntKind.i64.wrap ((n1 : Int) * 64) = (n1 : Int) * 64 := IntWalk.i64_in _ (by omega)
          have hltI2 : (n1 : Int) * 64 < (cols : Int) := by omega
          obtain ⟨W2, hW2⟩ : ∃ W2, wr.alloc (.cells #[.int .u64 0] 206) = W2 := ⟨_, rfl⟩
          have hb2 : Below wr.heap.size wr W2 := by rw [← hW2]; exact below_allocs (Below.refl _ _) _
          have HNW := Lib.hid (show W2.heap[wr.heap.size]? = some (.cells #[.int .u64 0] 206 (0, 0)) from by rw [← hW2]; exact hp_new rfl)
          have HB2 := Lib.hid hb2
          have HOB := Lib.hid (show W2.ownsRow base 206 1 (.slice A1 n1 c1) n1 (flat encU ws1) from by have := (HO1.out.below hb2).own; rw [HV1.out, HN1.out] at this; exact this)
          have hbw2 : base ≤ W2.heap.size := by have := HO1.out.hb; have := hb2.size; omega
          clear hb2
          go_wp2_with (refine wpList_append_g rfl (.tmp 40) (.tmp 41) 177 rfl base 206 j0 _ 1 8 Tryz.underlying177 hj gz0 gz1 gz2 rfl (by decide) (.slice A1 n1 c1) n1 (flat encU ws1) rfl HOB.out ⟨wr.heap.size, 0, none⟩ 1 1 [.int .u64 0] rfl rfl ?_ ?_ ?_ ?_ ?_ ?_)
          all_goals first
            | omega
            | (simp only [maxLen]; omega)
            | skip
          · intro j u hj
            rw [add_lit', Nat.zero_add]
            exact (at_ HNW.out j u (by simpa using hj)).1
          · intro u hu
            obtain rfl := List.mem_singleton.1 hu
            rfl
          · intro v' w' ho hg hv'
            have HMG : Hid (Mod vw1.ownBlock.toList wr w') := Lib.hid ((Mod.of_below (X := vw1.ownBlock.toList) HB2.out).trans (Mod.of_grown (X := vw1.ownBlock.toList) hg (fun g hg => by rw [HV1.out, hg]; simp)) (fun g hg => .inl hg))
            have HR := Lib.hid (HO1.out.rewords (ws' := ws1 ++ [0]) (by rw [List.length_append, HN1.out, flat_append]; exact ho) HMG.out (fun b hb => (hv' b hb).imp (fun h => by rw [HV1.out]; exact h) (fun h => by have := HB2.out.size; omega)) (wds_push HO1.out.wds) (by rw [List.length_append, HN1.out]; simp; omega))
            obtain ⟨y0, y0f⟩ := HMG.out.hold HO1.out.ne HO1.out.cells.1
            obtain ⟨A', c', hvf⟩ := row_form ho
            clear ho hg hv' hW2
            subst hvf
            go_wp2
            go_roundg (gk - 1)
            case rel =>
              obtain ⟨r1, r2, r3⟩ := HR.out
              refine ⟨_, ws1 ++ [0], r1, HM1.out.trans r2 HX1.out, fun b hb => ?_, by rw [List.length_append, HN1.out]; simp; omega⟩
              rcases r3 b hb with h | h
              · exact HX1.out b h
              · exact .inr (Nat.le_trans HM1.out.size h)
            case measure => omega
        · have hn17 : n1 ≤ 16 := by rw [← HN1.out]; exact HO1.out.few
          have hw64 : IntKind.i64.wrap ((n1 : Int) * 64) = (n1 : Int) * 64 := IntWalk.i64_in _ (by omega)
          have hltI2 : ¬ (n1 : Int) * 64 < (cols : Int) := by omega
          obtain ⟨st2, hst2⟩ : ∃ st2, (List.range cols).map (fun y => st1.getD y false) = st2 := ⟨_, rfl⟩
          have hl2 : st2.length = cols := by rw [← hst2]; simp
          have hg2 : ∀ y, st2.getD y false = st1.getD y false := fun y => by
            rw [← hst2, getD_map]
            by_cases hy : y < cols
            · rw [if_pos hy]
            · rw [if_neg hy, HG1.out y, if_pos (by omega)]
          have HRC := Lib.hid (HO1.out.recols (st' := st2) (by rw [hl2, HN1.out]; omega) (by rw [hl2]; exact h3) hg2)
          rw [hl2] at HRC
          have HL2 := Lib.hid hl2
          have HG2 : Hid (∀ y, st2.getD y false = if cols ≤ y then false else st.getD y false) := Lib.hid (fun y => by rw [hg2 y]; exact HG1.out y)
          obtain ⟨-, z1, z1f⟩ := HO1.out.cells
          clear hg2 hl2 hst2 HG1 HV1
          go_wp2_with fail
          generalize World.setCell _ _ _ = W3 at HRC ⊢
          clear z0 z0f z1 z1f
          go_loopw [7] (fun s7 w4 => ∃ x : Nat, s7 = .int .i64 x ∧ was ≤ x ∧ (x ≤ cols ∨ x = was) ∧ ∃ st3, TbSet base W3 T vw1 st3 w4 ∧ st3.length = cols ∧ ∀ y, y < cols → st3.getD y false = if was ≤ y ∧ y < x then decide (y % 8 = 0) else st2.getD y false) (fun s7 _ => cols - (intOf s7).toNat)
          case atStart => exact ⟨was, rfl, Nat.le_refl _, .inr rfl, st2, ⟨ws1, HRC.out.1, Mod.refl _ _⟩, HL2.out, fun y _ => by rw [if_neg (by omega)]⟩
          case round =>
            obtain ⟨x, rfl, hx1, hx2, st3, hs, hsl, hsg⟩ := hrel
            have HS := Lib.hid hs
            have HG := Lib.hid hsg
            have HL := Lib.hid hsl
            clear hs hsg hsl
            by_cases hlt3 : x < cols
            · have hltI3 : (x : Int) < (cols : Int) := by omega
              have h8 : (x : Int).tmod 8 = ((x % 8 : Nat) : Int) := by rw [Int.tmod_eq_emod_of_nonneg (by omega)]; omega
              by_cases hx8 : x % 8 = 0
              · rw [hx8] at h8
                obtain ⟨ws3, ho, hm⟩ := HS.out
                have HC := Lib.hid (tSet_any ho x)
                have HM := Lib.hid hm
                clear ho hm
                go_wp2_with (go_at_call 151; refine HC.out.mono ?_; rintro e w5 ⟨rfl, hs2⟩; have HS2 := Lib.hid hs2; clear hs2)
                go_roundw
                case rel =>
                  obtain ⟨ws4, ho4, hm4⟩ := HS2.out
                  refine ⟨x + 1, by go_num, by omega, .inl (by omega), _, ⟨ws4, ho4, HM.out.trans hm4 (fun b hb => .inl hb)⟩, ?_, fun y hy => ?_⟩
                  · unfold setT; split
                    · rw [List.length_set]; exact HL.out
                    · exact HL.out
                  · unfold setT
                    rw [if_pos ⟨by omega, by rw [HL.out]; omega⟩, Int.toNat_natCast, getD_set (by rw [HL.out]; exact hlt3), HG.out y hy]
                    by_cases hxy : x = y
                    · subst hxy; rw [if_pos rfl, if_pos (by omega), decide_eq_true hx8]
                    · rw [if_neg hxy]
                      by_cases hc : was ≤ y ∧ y < x
                      · rw [if_pos hc, if_pos (by omega)]
                      · rw [if_neg hc, if_neg (by omega)]
                case measure => simp [intOf]; omega
              · have h8' : ¬ (x : Int).tmod 8 = 0 := by omega
                go_wp2_with fail
                go_roundw
                case rel =>
                  refine ⟨x + 1, by go_num, by omega, .inl (by omega), st3, HS.out, HL.out, fun y hy => ?_⟩
                  rw [HG.out y hy]
                  by_cases hxy : x = y
                  · subst hxy; rw [if_neg (by omega), if_pos (by omega), decide_eq_false hx8, HG2.out x, if_neg (by omega), getD_out (by rw [HW.out]; omega)]
                  · by_cases hc : was ≤ y ∧ y < x
                    · rw [if_pos hc, if_pos (by omega)]
                    · rw [if_neg hc, if_neg (by omega)]
                case measure => simp [intOf]; omega
            · have hltI3 : ¬ (x : Int) < (cols : Int) := by omega
              go_wp2
              go_ret
              have he : st3 = sizeT st cols := by
                refine ext_getD (by rw [HL.out]; simp [sizeT]) (fun y hy => ?_)
                rw [HL.out] at hy
                unfold sizeT
                rw [HG.out y hy, getD_map, if_pos hy, HW.out]
                by_cases hw : y < was
                · rw [if_neg (by omega), if_pos hw, HG2.out y, if_neg (by omega)]
                · rw [if_pos (by omega), if_neg hw]
              rw [he] at HS
              exact ⟨rfl, TbRes.set (HM1.out.trans HRC.out.2 HX1.out) HX1.out HS.out⟩
def TbNewPost (cols : Nat) (w : World) (e : Ending) (w' : World) : Prop := ∃ T vw ws, e = .returned (.tuple #[.pointer (some ⟨T, 0, none⟩), .int .i64 0]) ∧ TbO w.heap.size w' T vw ws (sizeT [] cols) ∧ Below w.heap.size w w'
set_option maxRecDepth 100000 in
set_option maxHeartbeats 1600000 in
theorem tnew_ok (cols : Nat) (w : World) (h2 : 2 ≤ cols) (h3 : cols ≤ 1000) : Calls Tryz.prog 63 #[.int .i64 cols] w (TbNewPost cols w) := by
  have HF := Lib.hid (fun w => tfits_any cols w)
  have hf : (decide (2 ≤ (cols : Int)) && decide ((cols : Int) ≤ 1000)) = true := by simp; omega
  rw [hf] at HF
  clear hf
  have hO : TbO w.heap.size (w.alloc (.cells #[.slice none 0 0, .int .i64 0] 179)) w.heap.size (.slice none 0 0) [] [] :=
    ⟨hp_new rfl, Nat.le_refl _, World.ownsRow_nil _ _ _ _, ⟨Nat.zero_le _, fun i n hn => by simp at hn⟩, by simp, by simp⟩
  have HS := Lib.hid (tSize_ok hO cols h2 h3)
  have HB := Lib.hid (below_allocs (Below.refl w.heap.size w) (.cells #[.slice none 0 0, .int .i64 0] 179))
  clear hO
  go_enter Tryz.func63, Tryz.ntmps63
  go_wp2_with (first
    | (go_at_call 113; refine (HF.out _).mono ?_; rintro e w1 ⟨rfl, rfl⟩)
    | (go_at_call 80; refine HS.out.mono ?_; rintro e w2 ⟨rfl, hs⟩; have HR := Lib.hid hs; clear hs))
  go_ret2
  obtain ⟨vw, ws, h1, hm, -⟩ := HR.out
  exact ⟨w.heap.size, vw, ws, rfl, h1, HB.out.trans (hm.below (B := w.heap.size) (fun b hb => by simp [tbX, Value.ownBlock] at hb; omega) (by simp))⟩
end
end Go.Proofs.YtaefcahblmopfaaGreatDoor
