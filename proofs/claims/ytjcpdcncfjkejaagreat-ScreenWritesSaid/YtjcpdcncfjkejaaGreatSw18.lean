/- Joined by a tool of this claim out of smaller texts. Conditions: as stated. -/
import Derived.Test.YtjcpdcncfjkejaaGreatSw12
import Derived.Test.YtjcpdcncfjkejaaGreatSw14
set_option linter.unusedVariables false
set_option linter.unusedSimpArgs false
namespace Go.Proofs.YtjcpdcncfjkejaaGreat
open Go.RowKit
def TbRes (base : Nat) (w : World) (T : Nat) (vw : Value) (st' : List Bool) (w' : World) : Prop :=
  ∃ vw' ws', TbO base w' T vw' ws' st' ∧ Mod (tbX T vw) w w' ∧ ∀ b ∈ tbX T vw', b ∈ tbX T vw ∨ w.heap.size ≤ b
theorem info_u64 : (Tryz.prog.info? 35).map (fun i => (i.zero, i.size, i.bytes)) = some (some (.int .u64 0), 1, 8) := by kernel_rfl
theorem wds_any {ws : List Nat} {st st2 : List Bool} (h : WdsOf ws st) (hl : st2.length ≤ 64 * ws.length) (hg : ∀ y, st2.getD y false = st.getD y false) : WdsOf ws st2 :=
  ⟨hl, fun i n hn => ⟨(h.2 i n hn).1, fun k hk => by rw [(h.2 i n hn).2 k hk, hg]⟩⟩
theorem ext_getD {a b : List Bool} (hl : a.length = b.length) (h : ∀ y, y < a.length → a.getD y false = b.getD y false) : a = b := by
  apply List.ext_getElem hl
  intro i h1 h2
  have := h i h1
  rw [List.getD_eq_getElem?_getD, List.getD_eq_getElem?_getD, List.getElem?_eq_getElem h1, List.getElem?_eq_getElem h2] at this
  exact this
theorem getD_map {n y : Nat} (f : Nat → Bool) : ((List.range n).map f).getD y false = if y < n then f y else false := by
  rw [List.getD_eq_getElem?_getD, List.getElem?_map]
  by_cases h : y < n
  · rw [List.getElem?_range h, if_pos h]; rfl
  · rw [List.getElem?_eq_none (by simpa using h), if_neg h]; rfl
/-- Stops of so many columns. -/
def sizeT (st : List Bool) (cols : Nat) : List Bool := (List.range cols).map (fun y => if y < st.length then st.getD y false else decide (y % 8 = 0))
section
variable {base : Nat} {w : World} {T : Nat} {vw : Value} {ws : List Nat} {st : List Bool}
theorem TbRes.set {w1 w2 : World} {st2 : List Bool} {vw1 : Value} (hm : Mod (tbX T vw) w w1) (hx : ∀ b ∈ tbX T vw1, b ∈ tbX T vw ∨ w.heap.size ≤ b) (h2 : TbSet base w1 T vw1 st2 w2) : TbRes base w T vw st2 w2 := by
  obtain ⟨ws2, ho, hm2⟩ := h2
  exact ⟨vw1, ws2, ho, hm.trans hm2 (fun b hb => hx b (by simp only [tbX, List.mem_cons]; exact .inr hb)), hx⟩
set_option maxRecDepth 100000 in
theorem tfits_any (c : Int) (w : World) : Calls Tryz.prog 43 #[.int .i64 c] w fun e w' => e = .returned (.bool (decide (2 ≤ c) && decide (c ≤ 1000))) ∧ w = w' := by
  by_cases h1 : 2 ≤ c
  · go_enter Tryz.func43, Tryz.ntmps43
    go_wp2
    go_ret
    simp [h1]
  · go_enter Tryz.func43, Tryz.ntmps43
    go_wp2
    go_ret
    simp; omega
theorem TbO.ne (h : TbO base w T vw ws st) : T ∉ vw.ownBlock.toList := fun hb => by
  obtain ⟨cur, hc⟩ := own_block h.own (Option.mem_toList.1 hb)
  exact block_ne h.blk hc (by decide) rfl
theorem TbO.rewords {w1 : World} {v' : Value} {ws' : List Nat} (h : TbO base w T vw ws st) (ho : w1.ownsRow base 35 1 v' ws'.length (flat encU ws')) (hm : Mod vw.ownBlock.toList w w1) (hv : ∀ b, v'.ownBlock = some b → vw.ownBlock = some b ∨ w.heap.size ≤ b) (hw : WdsOf ws' st) (hf : ws'.length ≤ 16) :
    TbO base (w1.setCell ⟨T, 0, none⟩ v') T v' ws' st ∧ Mod (tbX T vw) w (w1.setCell ⟨T, 0, none⟩ v') ∧ ∀ b ∈ tbX T v', b ∈ tbX T vw ∨ w.heap.size ≤ b := by
  have hT := (hm.block T (Array.getElem?_eq_some_iff.1 h.blk).1 h.ne).trans h.blk
  have hTl := (Array.getElem?_eq_some_iff.1 h.blk).1
  have hT2 : ∀ b, v'.ownBlock = some b → b ∉ [T] := fun b hb hx => by
    rw [List.mem_singleton.1 hx] at hb
    rcases hv T hb with h1 | h1
    · exact h.ne (Option.mem_toList.2 h1)
    · omega
  have hM1 : Mod [T] w1 (w1.setCell ⟨T, 0, none⟩ v') := (Mod.refl _ _).setCell (a := ⟨T, 0, none⟩) (.inl (by simp)) _
  refine ⟨⟨heap_setCell_eq hT, h.hb, owns_mod ho hM1 hT2, hw, h.le, hf⟩, (hm.mono (fun b hb => by simp only [tbX, List.mem_cons]; exact .inr hb)).setCell (a := ⟨T, 0, none⟩) (.inl (by simp [tbX])) _, fun b hb => ?_⟩
  rcases List.mem_cons.1 hb with rfl | hb
  · exact .inl (by simp [tbX])
  · rcases hv b (Option.mem_toList.1 hb) with h1 | h1
    · exact .inl (by simp only [tbX, List.mem_cons, Option.mem_toList]; exact .inr h1)
    · exact .inr h1
theorem TbO.recols {st' : List Bool} (h : TbO base w T vw ws st) (hl : st'.length ≤ 64 * ws.length) (h3 : st'.length ≤ 1000) (hg : ∀ y, st'.getD y false = st.getD y false) :
    TbO base (w.setCell ⟨T, 1, none⟩ (.int .i64 st'.length)) T vw ws st' ∧ Mod (tbX T vw) w (w.setCell ⟨T, 1, none⟩ (.int .i64 st'.length)) := by
  have hM1 : Mod [T] w (w.setCell ⟨T, 1, none⟩ (.int .i64 st'.length)) := (Mod.refl _ _).setCell (a := ⟨T, 1, none⟩) (.inl (by simp)) _
  exact ⟨⟨heap_setCell_eq h.blk, h.hb, owns_mod h.own hM1 (fun b hb hx => h.ne (by rw [← List.mem_singleton.1 hx]; exact Option.mem_toList.2 hb)), wds_any h.wds hl hg, h3, h.few⟩, hM1.mono (fun b hb => by rw [List.mem_singleton.1 hb]; simp [tbX])⟩
def TbSizePost (base : Nat) (w : World) (T : Nat) (vw : Value) (st' : List Bool) (e : Ending) (w' : World) : Prop := e = .returned (.int .i64 0) ∧ TbRes base w T vw st' w'
set_option maxRecDepth 100000 in
set_option maxHeartbeats 1600000 in
theorem tSize_ok (h : TbO base w T vw ws st) (cols : Nat) (h2 : 2 ≤ cols) (h3 : cols ≤ 1000) : Calls Tryz.prog 44 #[.pointer (some ⟨T, 0, none⟩), .int .i64 cols] w (TbSizePost base w T vw (sizeT st cols)) := by
  obtain ⟨j0, hj, gz0, gz1, gz2⟩ := info_parts info_u64
  have HF := Lib.hid (fun w => tfits_any cols w)
  have hf : (decide (2 ≤ (cols : Int)) && decide ((cols : Int) ≤ 1000)) = true := by simp; omega
  rw [hf] at HF
  clear hf
  obtain ⟨-, x1, -⟩ := h.cells
  have H := Lib.hid h
  have hle := h.le
  have hTl := lt_of_cell x1
  obtain ⟨was, hwas⟩ : ∃ was, st.length = was := ⟨_, rfl⟩
  rw [hwas] at x1 hle
  have HW := Lib.hid hwas
  clear h hwas
  go_enter Tryz.func44, Tryz.ntmps44
  go_wp2_with (go_at_call 43; refine (HF.out _).mono ?_; rintro e w1 ⟨rfl, rfl⟩)
  go_loopw [6] (fun s6 wr => ∃ x : Nat, s6 = .int .i64 x ∧ cols ≤ x ∧ (x ≤ was ∨ x = cols) ∧ ∃ st1, TbSet base w T vw st1 wr ∧ st1.length = was ∧ ∀ y, st1.getD y false = if cols ≤ y ∧ y < x then false else st.getD y false) (fun s6 _ => was - (intOf s6).toNat)
  case atStart => exact ⟨cols, rfl, Nat.le_refl _, .inr rfl, st, ⟨ws, H.out, Mod.refl _ _⟩, HW.out, fun y => by rw [if_neg (by omega)]⟩
  case round =>
    obtain ⟨x, rfl, hx1, hx2, st1, hs, hsl, hsg⟩ := hrel
    have HS := Lib.hid hs
    have HG := Lib.hid hsg
    have HL := Lib.hid hsl
    clear hs hsg hsl
    by_cases hlt : x < was
    · have hltI : (x : Int) < (was : Int) := by omega
      obtain ⟨ws1, ho, hm⟩ := HS.out
      have HC := Lib.hid (tClear_any ho x)
      have HM := Lib.hid hm
      clear ho hm
      go_wp2_with (go_at_call 66; refine HC.out.mono ?_; rintro e w2 ⟨rfl, hs2⟩; have HS2 := Lib.hid hs2; clear hs2)
      go_roundw
      case rel =>
        obtain ⟨ws2, ho2, hm2⟩ := HS2.out
        refine ⟨x + 1, by go_num, by omega, .inl (by omega), _, ⟨ws2, ho2, HM.out.trans hm2 (fun b hb => .inl hb)⟩, ?_, fun y => ?_⟩
        · unfold setT; split
          · rw [List.length_set]; exact HL.out
          · exact HL.out
        · unfold setT
          rw [if_pos ⟨by omega, by rw [HL.out]; omega⟩, Int.toNat_natCast, getD_set (by rw [HL.out]; exact hlt), HG.out y]
          by_cases hxy : x = y
          · rw [if_pos hxy, if_pos (by omega)]
          · rw [if_neg hxy]
            by_cases hc : cols ≤ y ∧ y < x
            · rw [if_pos hc, if_pos (by omega)]
            · rw [if_neg hc, if_neg (by omega)]
      case measure => simp [intOf]; omega
    · have hltI : ¬ (x : Int) < (was : Int) := by omega
      have HG1 : Hid (∀ y, st1.getD y false = if cols ≤ y then false else st.getD y false) := Lib.hid (fun y => by
        rw [HG.out y]
        by_cases hc : cols ≤ y ∧ y < x
        · rw [if_pos hc, if_pos hc.1]
        · rw [if_neg hc]
          by_cases hy : cols ≤ y
          · rw [if_pos hy, getD_out (by rw [HW.out]; omega)]
          · rw [if_neg hy])
      have HR0 : Hid (TbRes base w T vw st1 wr) := Lib.hid (by
        obtain ⟨ws1, ho, hm⟩ := HS.out
        exact ⟨vw, ws1, ho, hm.mono (fun b hb => by simp only [tbX, List.mem_cons]; exact .inr hb), fun b hb => .inl hb⟩)
      clear HG HS
      go_wp2_with fail
      go_loopg [35] 16 (fun k _ w2 => ∃ vw' ws', TbO base w2 T vw' ws' st1 ∧ Mod (tbX T vw) w w2 ∧ (∀ b ∈ tbX T vw', b ∈ tbX T vw ∨ w.heap.size ≤ b) ∧ (16 ≤ k + ws'.length))
      case atStart =>
        obtain ⟨vw', ws', ho, hm, hx⟩ := HR0.out
        exact ⟨vw', ws', ho, hm, hx, by omega⟩
      case round =>
        obtain ⟨vw1, ws1, ho1, hm1, hx1', hk1⟩ := hrel
        obtain ⟨A1, c1, hv1⟩ := ho1.vform
        obtain ⟨⟨z0, z0f⟩, z1, z1f⟩ := ho1.cells
        rw [hv1] at z0
        have hTw := lt_of_cell z1
        have HO1 := Lib.hid ho1
        have HM1 := Lib.hid hm1
        have HX1 := Lib.hid hx1'
        obtain ⟨n1, hn1⟩ : ∃ n1, ws1.length = n1 := ⟨_, rfl⟩
        have HN1 := Lib.hid hn1
        rw [hn1] at z0 hk1 hv1
        have HV1 := Lib.hid hv1
        clear ho1 hm1 hx1' hn1 hv1 z1 z1f
        by_cases hlt2 : 64 * n1 < cols
        · have hn16 : n1 < 16 := by omega
          have hw64 : IntKind.i64.wrap ((n1 : Int) * 64) = (n1 : Int) * 64 := IntWalk.i64_in _ (by omega)
          have hltI2 : (n1 : Int) * 64 < (cols : Int) := by omega
          obtain ⟨W2, hW2⟩ : ∃ W2, wr.alloc (.cells #[.int .u64 0] 35) = W2 := ⟨_, rfl⟩
          have hb2 : Below wr.heap.size wr W2 := by rw [← hW2]; exact below_allocs (Below.refl _ _) _
          have HNW := Lib.hid (show W2.heap[wr.heap.size]? = some (.cells #[.int .u64 0] 35 (0, 0)) from by rw [← hW2]; exact hp_new rfl)
          have HB2 := Lib.hid hb2
          have HOB := Lib.hid (show W2.ownsRow base 35 1 (.slice A1 n1 c1) n1 (flat encU ws1) from by have := (HO1.out.below hb2).own; rw [HV1.out, HN1.out] at this; exact this)
          have hbw2 : base ≤ W2.heap.size := by have := HO1.out.hb; have := hb2.size; omega
          clear hb2
          go_wp2_with (refine wpList_append_g rfl (.tmp 40) (.tmp 41) 109 rfl base 35 j0 _ 1 8 Tryz.underlying109 hj gz0 gz1 gz2 rfl (by decide) (.slice A1 n1 c1) n1 (flat encU ws1) rfl HOB.out ⟨wr.heap.size, 0, none⟩ 1 1 [.int .u64 0] rfl rfl ?_ ?_ ?_ ?_ ?_ ?_)
          all_goals first
            | omega
            | (simp only [maxLen]; omega)
            | skip
          · intro j u hj
            rw [add_lit', Nat.zero_add]
            exact (at_ HNW.out j u (by simpa using hj)).1
          · intro u hu
            obtain rfl := List.mem_singleton.1 hu
            rfl
          · intro v' w' ho hg hv'
            have HMG : Hid (Mod vw1.ownBlock.toList wr w') := Lib.hid ((Mod.of_below (X := vw1.ownBlock.toList) HB2.out).trans (Mod.of_grown (X := vw1.ownBlock.toList) hg (fun g hg => by rw [HV1.out, hg]; simp)) (fun g hg => .inl hg))
            have HR := Lib.hid (HO1.out.rewords (ws' := ws1 ++ [0]) (by rw [List.length_append, HN1.out, flat_append]; exact ho) HMG.out (fun b hb => (hv' b hb).imp (fun h => by rw [HV1.out]; exact h) (fun h => by have := HB2.out.size; omega)) (wds_push HO1.out.wds) (by rw [List.length_append, HN1.out]; simp; omega))
            obtain ⟨y0, y0f⟩ := HMG.out.hold HO1.out.ne HO1.out.cells.1
            obtain ⟨A', c', hvf⟩ := row_form ho
            clear ho hg hv' hW2
            subst hvf
            go_wp2
            go_roundg (gk - 1)
            case rel =>
              obtain ⟨r1, r2, r3⟩ := HR.out
              refine ⟨_, ws1 ++ [0], r1, HM1.out.trans r2 HX1.out, fun b hb => ?_, by rw [List.length_append, HN1.out]; simp; omega⟩
              rcases r3 b hb with h | h
              · exact HX1.out b h
              · exact .inr (Nat.le_trans HM1.out.size h)
            case measure => omega
        · have hn17 : n1 ≤ 16 := by rw [← HN1.out]; exact HO1.out.few
          have hw64 : IntKind.i64.wrap ((n1 : Int) * 64) = (n1 : Int) * 64 := IntWalk.i64_in _ (by omega)
          have hltI2 : ¬ (n1 : Int) * 64 < (cols : Int) := by omega
          obtain ⟨st2, hst2⟩ : ∃ st2, (List.range cols).map (fun y => st1.getD y false) = st2 := ⟨_, rfl⟩
          have hl2 : st2.length = cols := by rw [← hst2]; simp
          have hg2 : ∀ y, st2.getD y false = st1.getD y false := fun y => by
            rw [← hst2, getD_map]
            by_cases hy : y < cols
            · rw [if_pos hy]
            · rw [if_neg hy, HG1.out y, if_pos (by omega)]
          have HRC := Lib.hid (HO1.out.recols (st' := st2) (by rw [hl2, HN1.out]; omega) (by rw [hl2]; exact h3) hg2)
          rw [hl2] at HRC
          have HL2 := Lib.hid hl2
          have HG2 : Hid (∀ y, st2.getD y false = if cols ≤ y then false else st.getD y false) := Lib.hid (fun y => by rw [hg2 y]; exact HG1.out y)
          obtain ⟨-, z1, z1f⟩ := HO1.out.cells
          clear hg2 hl2 hst2 HG1 HV1
          go_wp2_with fail
          generalize World.setCell _ _ _ = W3 at HRC ⊢
          clear z0 z0f z1 z1f
          go_loopw [7] (fun s7 w4 => ∃ x : Nat, s7 = .int .i64 x ∧ was ≤ x ∧ (x ≤ cols ∨ x = was) ∧ ∃ st3, TbSet base W3 T vw1 st3 w4 ∧ st3.length = cols ∧ ∀ y, y < cols → st3.getD y false = if was ≤ y ∧ y < x then decide (y % 8 = 0) else st2.getD y false) (fun s7 _ => cols - (intOf s7).toNat)
          case atStart => exact ⟨was, rfl, Nat.le_refl _, .inr rfl, st2, ⟨ws1, HRC.out.1, Mod.refl _ _⟩, HL2.out, fun y _ => by rw [if_neg (by omega)]⟩
          case round =>
            obtain ⟨x, rfl, hx1, hx2, st3, hs, hsl, hsg⟩ := hrel
            have HS := Lib.hid hs
            have HG := Lib.hid hsg
            have HL := Lib.hid hsl
            clear hs hsg hsl
            by_cases hlt3 : x < cols
            · have hltI3 : (x : Int) < (cols : Int) := by omega
              have h8 : (x : Int).tmod 8 = ((x % 8 : Nat) : Int) := by rw [Int.tmod_eq_emod_of_nonneg (by omega)]; omega
              by_cases hx8 : x % 8 = 0
              · rw [hx8] at h8
                obtain ⟨ws3, ho, hm⟩ := HS.out
                have HC := Lib.hid (tSet_any ho x)
                have HM := Lib.hid hm
                clear ho hm
                go_wp2_with (go_at_call 67; refine HC.out.mono ?_; rintro e w5 ⟨rfl, hs2⟩; have HS2 := Lib.hid hs2; clear hs2)
                go_roundw
                case rel =>
                  obtain ⟨ws4, ho4, hm4⟩ := HS2.out
                  refine ⟨x + 1, by go_num, by omega, .inl (by omega), _, ⟨ws4, ho4, HM.out.trans hm4 (fun b hb => .inl hb)⟩, ?_, fun y hy => ?_⟩
                  · unfold setT; split
                    · rw [List.length_set]; exact HL.out
                    · exact HL.out
                  · unfold setT
                    rw [if_pos ⟨by omega, by rw [HL.out]; omega⟩, Int.toNat_natCast, getD_set (by rw [HL.out]; exact hlt3), HG.out y hy]
                    by_cases hxy : x = y
                    · subst hxy; rw [if_pos rfl, if_pos (by omega), decide_eq_true hx8]
                    · rw [if_neg hxy]
                      by_cases hc : was ≤ y ∧ y < x
                      · rw [if_pos hc, if_pos (by omega)]
                      · rw [if_neg hc, if_neg (by omega)]
                case measure => simp [intOf]; omega
              · have h8' : ¬ (x : Int).tmod 8 = 0 := by omega
                go_wp2_with fail
                go_roundw
                case rel =>
                  refine ⟨x + 1, by go_num, by omega, .inl (by omega), st3, HS.out, HL.out, fun y hy => ?_⟩
                  rw [HG.out y hy]
                  by_cases hxy : x = y
                  · subst hxy; rw [if_neg (by omega), if_pos (by omega), decide_eq_false hx8, HG2.out x, if_neg (by omega), getD_out (by rw [HW.out]; omega)]
                  · by_cases hc : was ≤ y ∧ y < x
                    · rw [if_pos hc, if_pos (by omega)]
                    · rw [if_neg hc, if_neg (by omega)]
                case measure => simp [intOf]; omega
            · have hltI3 : ¬ (x : Int) < (cols : Int) := by omega
              go_wp2
              go_ret
              have he : st3 = sizeT st cols := by
                refine ext_getD (by rw [HL.out]; simp [sizeT]) (fun y hy => ?_)
                rw [HL.out] at hy
                unfold sizeT
                rw [HG.out y hy, getD_map, if_pos hy, HW.out]
                by_cases hw : y < was
                · rw [if_neg (by omega), if_pos hw, HG2.out y, if_neg (by omega)]
                · rw [if_pos (by omega), if_neg hw]
              rw [he] at HS
              exact ⟨rfl, TbRes.set (HM1.out.trans HRC.out.2 HX1.out) HX1.out HS.out⟩
def TbNewPost (cols : Nat) (w : World) (e : Ending) (w' : World) : Prop := ∃ T vw ws, e = .returned (.tuple #[.pointer (some ⟨T, 0, none⟩), .int .i64 0]) ∧ TbO w.heap.size w' T vw ws (sizeT [] cols) ∧ Below w.heap.size w w'
set_option maxRecDepth 100000 in
set_option maxHeartbeats 1600000 in
theorem tnew_ok (cols : Nat) (w : World) (h2 : 2 ≤ cols) (h3 : cols ≤ 1000) : Calls Tryz.prog 21 #[.int .i64 cols] w (TbNewPost cols w) := by
  have HF := Lib.hid (fun w => tfits_any cols w)
  have hf : (decide (2 ≤ (cols : Int)) && decide ((cols : Int) ≤ 1000)) = true := by simp; omega
  rw [hf] at HF
  clear hf
  have hO : TbO w.heap.size (w.alloc (.cells #[.slice none 0 0, .int .i64 0] 111)) w.heap.size (.slice none 0 0) [] [] :=
    ⟨hp_new rfl, Nat.le_refl _, World.ownsRow_nil _ _ _ _, ⟨Nat.zero_le _, fun i n hn => by simp at hn⟩, by simp, by simp⟩
  have HS := Lib.hid (tSize_ok hO cols h2 h3)
  have HB := Lib.hid (below_allocs (Below.refl w.heap.size w) (.cells #[.slice none 0 0, .int .i64 0] 111))
  clear hO
  go_enter Tryz.func21, Tryz.ntmps21
  go_wp2_with (first
    | (go_at_call 43; refine (HF.out _).mono ?_; rintro e w1 ⟨rfl, rfl⟩)
    | (go_at_call 44; refine HS.out.mono ?_; rintro e w2 ⟨rfl, hs⟩; have HR := Lib.hid hs; clear hs))
  go_ret2
  obtain ⟨vw, ws, h1, hm, -⟩ := HR.out
  exact ⟨w.heap.size, vw, ws, rfl, h1, HB.out.trans (hm.below (B := w.heap.size) (fun b hb => by simp [tbX, Value.ownBlock] at hb; omega) (by simp))⟩
end
end Go.Proofs.YtjcpdcncfjkejaaGreat

namespace Go.Proofs.YtjcpdcncfjkejaaGreat
open Go.RowKit
def GetPost (r : Ro) (w : World) (e : Ending) (w' : World) : Prop := ∃ g cap, e = .returned (.tuple #[.agg #[.slice (some ⟨g, 0, none⟩) r.cs.length cap, .bool r.cont], .bool true]) ∧ RcAt w' ⟨some ⟨g, 0, none⟩, r.cs, cap, r.cont⟩ ∧ Below w.heap.size w w'
section
variable {base : Nat} {w : World} {R : Nat} {vl : Value} {SL : List Rh} {room first n : Nat} {gone : Int}
set_option maxRecDepth 100000 in
set_option maxHeartbeats 3200000 in
theorem rat_in (h : RgO base w R vl SL room first n gone) (i : Nat) (r : Rh) (hr0 : (histL SL first n)[i]? = some r) : Calls Tryz.prog 25 #[.pointer (some ⟨R, 0, none⟩), .int .i64 i] w (GetPost (roOf r) w) := by
  have hi : i < n := by have := (List.getElem?_eq_some_iff.1 hr0).1; rwa [histL_len] at this
  have hnr : n ≤ 100000 := by have := h.hn; have := h.hm; have := h.hroom; omega
  have hmr : SL.length ≤ 100000 := by have := h.hm; have := h.hroom; omega
  have HOWN := Lib.hid (fun (r : Rh) (w' : World) (h : RcAt w' r) (h0 : 0 < r.cs.length) => rown_any r w' h h0)
  have HAB := Lib.hid (below_allocs (Below.refl w.heap.size w) (.cells #[.slice none 0 0, .bool false] 39))
  have HX := Lib.hid (hp_new (W := w) (b := w.heap.size) (o := .cells #[.slice none 0 0, .bool false] 39) rfl)
  obtain ⟨W, hW⟩ : ∃ W, w.alloc (.cells #[.slice none 0 0, .bool false] 39) = W := ⟨_, rfl⟩
  rw [hW] at HAB HX
  have H := Lib.hid (h.below HAB.out)
  have HLEN := Lib.hid (rlen_any H.out)
  have hiI : ¬ (n : Int) ≤ (i : Int) := by omega
  have hi0 : ¬ (i : Int) < 0 := by omega
  have hf : first < SL.length := by
    rcases h.hf with hf | ⟨-, hf⟩
    · exact hf
    · have := h.hn; omega
  obtain ⟨k, hk⟩ : ∃ k, slotOf SL.length first i = k := ⟨_, rfl⟩
  have hkl : k < SL.length := by rw [← hk]; exact slotOf_lt hf (by have := h.hn; omega)
  have hr : SL[k]? = some r := by rw [← hk, ← histL_at hf h.hn hi]; exact hr0
  have hrr := H.out.rows r (List.mem_of_getElem? hr0)
  obtain ⟨gs, cs, hvs⟩ := own_form H.out.own (by omega)
  have hownS := H.out.own
  have x0 := (at_ H.out.blk 0 _ rfl).1
  have x2 : W.cell? ⟨R, 2, none⟩ = some (.int .i64 first) := (at_ H.out.blk 2 _ rfl).1
  rw [hvs] at hownS x0
  obtain ⟨⟨r0, -⟩, r1, -⟩ := owns_row hownS hr
  have hfr : first ≤ 100000 := by omega
  have hkI : (k : Int) < (SL.length : Int) := by omega
  have HRR := Lib.hid hrr
  have HWW := Lib.hid hW
  clear hr0 h hr hownS hvs hf hrr hW
  go_enter Tryz.func25, Tryz.ntmps25
  go_upto_region 1 with fail
  rw [HWW.out]
  clear HWW
  go_upto_region 3 with (go_at_call 37; (with_reducible refine HLEN.out.mono ?_); rintro e w1 ⟨rfl, rfl⟩)
  refine wp_region_n 10 (fun w2 => Below W.heap.size W w2 ∧ w2.cell? ⟨R, 0, none⟩ = some (.slice (some ⟨gs, 0, none⟩) SL.length cs) ∧ w2.cell? ⟨gs, k * 2, none⟩ = some (.slice r.A r.cs.length r.cap) ∧ w2.cell? ⟨gs, k * 2 + 1, none⟩ = some (.bool r.cont)) (by kernel_rfl) (by kernel_rfl) (fun w1 w2 hS hb => ⟨below_tail hS.1 hb, holda hb hS.2.1, holda hb hS.2.2.1, holda hb hS.2.2.2⟩) ⟨(Below.refl _ _).drew, x0, r0, r1⟩ ?_
  refine AtN.go 0 ?_
  iterate 6 (refine AtC.take (o := ⟨_, _, _, _, _, _⟩) (v := ?_) (by kernel_rfl) rfl (by simp) (by kernel_rfl) (by kernel_rfl) ?_ ?_; rotate_left; (focus (first | exact StabN.skip (by rfl) | (refine StabN.val (by rfl) ?_; intro w' hS; obtain ⟨_, _, _, _⟩ := hS; go_simp; first | done | with_reducible rfl))); simp only [Act.put, List.setIfInBounds_toArray, List.set_cons_zero, List.set_cons_succ])
  refine AtC.back ?_
  refine AtN.take 6 (o := ⟨_, _, _, _, _, _⟩) (v := .int .i64 k) (by kernel_rfl) rfl (by simp) (by kernel_rfl) (by kernel_rfl) (StabN.call1 39 #[.pointer (some ⟨R, 0, none⟩), .int .i64 i] (.int .i64 k) (by rfl) (by intro w'; go_simp; done) (fun w' hS => (slot_raw hS.2.1 ((Mod.of_below (X := []) hS.1).cell (by simp) x2) hmr hfr i (by omega)).mono (fun e w3 h => ⟨by rw [← hk]; exact h.1, h.2 ▸ Below.refl _ _⟩))) ?_
  simp only [Act.put, List.setIfInBounds_toArray, List.set_cons_zero, List.set_cons_succ]
  refine AtN.go 7 ?_
  iterate 2 (refine AtC.take (o := ⟨_, _, _, _, _, _⟩) (v := ?_) (by kernel_rfl) rfl (by simp) (by kernel_rfl) (by kernel_rfl) ?_ ?_; rotate_left; (focus (first | exact StabN.skip (by rfl) | (refine StabN.val (by rfl) ?_; intro w' hS; obtain ⟨_, _, _, _⟩ := hS; go_simp; first | done | with_reducible rfl))); simp only [Act.put, List.setIfInBounds_toArray, List.set_cons_zero, List.set_cons_succ])
  refine AtC.back ?_
  refine AtN.one 9 (o := ⟨_, _, _, _, _, _⟩) (fun v => ∃ g1 cap, v = .agg #[.slice (some ⟨g1, 0, none⟩) r.cs.length cap, .bool r.cont]) (fun v w' => ∃ g1 cap, v = .agg #[.slice (some ⟨g1, 0, none⟩) r.cs.length cap, .bool r.cont] ∧ RcAt w' ⟨some ⟨g1, 0, none⟩, r.cs, cap, r.cont⟩) (by simp) (by kernel_rfl) rfl (fun v w1 w2 ⟨g1, cap, hv, hr⟩ hb => ⟨g1, cap, hv, hr.below hb⟩) (StabN.call 38 #[.agg #[.slice r.A r.cs.length r.cap, .bool r.cont]] _ _ (by rfl) ?_ (fun w' hS => ?_)) ?_
  · intro w'
    go_simp
  · refine (HOWN.out r w' (HRR.out.1.below hS.1) HRR.out.2).mono ?_
    rintro e w3 ⟨g1, cap, rfl, hrc, hb, -⟩
    exact ⟨_, rfl, ⟨⟨g1, cap, rfl⟩, g1, cap, rfl, hrc⟩, hb⟩
  rintro v ⟨g1, cap, rfl⟩
  simp only [Act.put, List.setIfInBounds_toArray, List.set_cons_zero, List.set_cons_succ]
  refine AtN.done (by kernel_rfl) (fun w' hS => ?_)
  obtain ⟨⟨hb1, -⟩, g1', cap', hv', hrc'⟩ := hS
  simp only [Value.agg.injEq, Array.mk.injEq, List.cons.injEq, Value.slice.injEq, Option.some.injEq, Addr.mk.injEq, and_true, true_and] at hv'
  obtain ⟨rfl, rfl⟩ := hv'
  have HR1 := Lib.hid hrc'
  have HB1 := Lib.hid (below_tail HAB.out hb1)
  have HX1 := Lib.hid ((hb1.block _ (lt_of_heap HX.out)).trans HX.out)
  obtain ⟨y0, y0f⟩ := at_ HX1.out 0 _ rfl
  obtain ⟨y1, y1f⟩ := at_ HX1.out 1 _ rfl
  clear hb1 hrc' x0 x2 r0 r1
  go_wp2
  have HB3 := below_set (below_set HB1.out (Nat.le_refl _) (o := 0) (.slice (some ⟨g1, 0, none⟩) r.cs.length cap)) (Nat.le_refl _) (o := 1) (.bool r.cont)
  have hset := set_two (u' := .slice (some ⟨g1, 0, none⟩) r.cs.length cap) (v' := .bool r.cont) ⟨y0, y0f⟩ ⟨y1, y1f⟩
  refine bodyPost_ret (ret_row2 rfl _ _ w.heap.size _ _ _ rfl rfl hset.1.1 hset.2.1) rfl ⟨g1, cap, rfl, HR1.out.mod (X := [w.heap.size]) (mod_set2 (Mod.refl _ _) (.inl (by simp))) ?_, HB3⟩
  intro b hb cs' f he
  rw [List.mem_singleton.1 hb, HX1.out] at he
  injection he with he
  injection he with _ ht
  exact absurd ht (by decide)
end
section
variable {base : Nat} {w : World} {q : Pv} {g : Pg}
set_option maxRecDepth 100000 in
set_option maxHeartbeats 3200000 in
theorem pRow_scr (h : PgO base w q g) (i k : Nat) (r : Ro) (hi : i = g.hist.length + k) (hr : g.scr[k]? = some r) : Calls Tryz.prog 13 #[.pointer (some ⟨q.P, 0, none⟩), .int .i64 i] w (GetPost r w) := by
  have HAB := Lib.hid (below_allocs (Below.refl w.heap.size w) (.cells #[.slice none 0 0, .bool false] 39))
  have HX := Lib.hid (hp_new (W := w) (b := w.heap.size) (o := .cells #[.slice none 0 0, .bool false] 39) rfl)
  obtain ⟨W, hW⟩ : ∃ W, w.alloc (.cells #[.slice none 0 0, .bool false] 39) = W := ⟨_, rfl⟩
  rw [hW] at HAB HX
  have H := Lib.hid (h.below HAB.out)
  have HBA := Lib.hid (pBase_any H.out)
  have HRO := Lib.hid (pRows_any H.out)
  have hh := h.hist100k
  have hrow := h.rows1000
  rw [← h.scr, List.getElem?_map] at hr
  obtain ⟨x, hx, rfl⟩ := Option.map_eq_some_iff.1 hr
  have hkS : k < q.S.length := (List.getElem?_eq_some_iff.1 hx).1
  obtain ⟨hrc, hrl⟩ := H.out.rows x (List.mem_of_getElem? hx)
  obtain ⟨gs, cs, hvs⟩ := own_form H.out.own (by omega)
  obtain ⟨-, ⟨x1, -⟩, -⟩ := H.out.cells
  have hownS := H.out.own
  rw [hvs] at hownS x1
  obtain ⟨⟨r0, -⟩, r1, -⟩ := owns_row hownS hx
  have h0r : 0 < x.cs.length := by rw [hrl]; have := h.cols2; omega
  have HO := Lib.hid (pown_any x W hrc h0r)
  have hlen := h.len
  have hsub : (i : Int) - (g.hist.length : Int) = (k : Int) := by omega
  have hwk : IntKind.i64.wrap (k : Int) = (k : Int) := IntWalk.i64_in _ (by omega)
  have hkI : (k : Int) < (g.scr.length : Int) := by omega
  have hkI2 : (k : Int) < (q.S.length : Int) := by omega
  have HWW := Lib.hid hW
  obtain ⟨A, cs', cap0, cont⟩ := x
  simp only at HO r0 r1
  clear h hW hr hx hownS hvs hrc hrl hi hlen hrow hh h0r
  go_enter Tryz.func13, Tryz.ntmps13
  go_upto_region 1 with fail
  rw [HWW.out]
  clear HWW
  go_wp2_with (first
    | (go_at_call 23; (with_reducible refine HBA.out.mono ?_); rintro e w1 ⟨rfl, rfl⟩)
    | (go_at_call 24; (with_reducible refine HRO.out.mono ?_); rintro e w1 ⟨rfl, rfl⟩)
    | (go_at_call 18; (with_reducible refine HO.out.mono ?_); rintro e w1 ⟨g1, cap, rfl, hrc, hb, -⟩; have HRC := Lib.hid hrc; have HB1 := Lib.hid (below_tail HAB.out hb); have HX1 := Lib.hid ((hb.block _ (lt_of_heap HX.out)).trans HX.out); obtain ⟨y0, y0f⟩ := at_ HX1.out 0 _ rfl; obtain ⟨y1, y1f⟩ := at_ HX1.out 1 _ rfl; clear hrc hb x1 r0 r1))
  have HB3 := below_set (below_set HB1.out (Nat.le_refl _) (o := 0) (.slice (some ⟨g1, 0, none⟩) cs'.length cap)) (Nat.le_refl _) (o := 1) (.bool cont)
  have hset := set_two (u' := .slice (some ⟨g1, 0, none⟩) cs'.length cap) (v' := .bool cont) ⟨y0, y0f⟩ ⟨y1, y1f⟩
  refine bodyPost_ret (ret_row2 rfl _ _ w.heap.size _ _ _ rfl rfl hset.1.1 hset.2.1) rfl ⟨g1, cap, rfl, HRC.out.mod (X := [w.heap.size]) (mod_set2 (Mod.refl _ _) (.inl (by simp))) ?_, HB3⟩
  intro b hb cs' f he
  rw [List.mem_singleton.1 hb, HX1.out] at he
  injection he with he
  injection he with _ ht
  exact absurd ht (by decide)
set_option maxRecDepth 100000 in
set_option maxHeartbeats 3200000 in
theorem pRow_hist (h : PgO base w q g) (i : Nat) (r : Ro) (hr : g.hist[i]? = some r) : Calls Tryz.prog 13 #[.pointer (some ⟨q.P, 0, none⟩), .int .i64 i] w (GetPost r w) := by
  have HAB := Lib.hid (below_allocs (Below.refl w.heap.size w) (.cells #[.slice none 0 0, .bool false] 39))
  have HX := Lib.hid (hp_new (W := w) (b := w.heap.size) (o := .cells #[.slice none 0 0, .bool false] 39) rfl)
  obtain ⟨W, hW⟩ : ∃ W, w.alloc (.cells #[.slice none 0 0, .bool false] 39) = W := ⟨_, rfl⟩
  rw [hW] at HAB HX
  have H := Lib.hid (h.below HAB.out)
  have HBA := Lib.hid (pBase_any H.out)
  have hh := h.hist100k
  have hil : i < g.hist.length := (List.getElem?_eq_some_iff.1 hr).1
  have hlen := h.hlen
  rw [← h.hist, List.getElem?_map] at hr
  obtain ⟨x, hx, rfl⟩ := Option.map_eq_some_iff.1 hr
  have HAT := Lib.hid (rat_in H.out.ring i x hx)
  obtain ⟨⟨x0, -⟩, -⟩ := H.out.cells
  obtain ⟨z, hz⟩ : ∃ z : Int, z = (i : Int) - (g.hist.length : Int) := ⟨_, rfl⟩
  have hsub : (i : Int) - (g.hist.length : Int) = z := hz.symm
  have hwk : IntKind.i64.wrap z = z := IntWalk.i64_in _ (by omega)
  have hz0 : z < 0 := by omega
  have HWW := Lib.hid hW
  clear h hW hr hx hz hlen hh hil
  go_enter Tryz.func13, Tryz.ntmps13
  go_upto_region 1 with fail
  rw [HWW.out]
  clear HWW
  go_wp2_with (first
    | (go_at_call 23; (with_reducible refine HBA.out.mono ?_); rintro e w1 ⟨rfl, rfl⟩)
    | (go_at_call 25; (with_reducible refine HAT.out.mono ?_); rintro e w1 ⟨g1, cap, rfl, hrc, hb⟩; have HRC := Lib.hid hrc; have HB1 := Lib.hid (below_tail HAB.out hb); have HX1 := Lib.hid ((hb.block _ (lt_of_heap HX.out)).trans HX.out); obtain ⟨y0, y0f⟩ := at_ HX1.out 0 _ rfl; obtain ⟨y1, y1f⟩ := at_ HX1.out 1 _ rfl; clear hrc hb x0))
  have HB3 := below_set (below_set HB1.out (Nat.le_refl _) (o := 0) (.slice (some ⟨g1, 0, none⟩) x.cs.length cap)) (Nat.le_refl _) (o := 1) (.bool x.cont)
  have hset := set_two (u' := .slice (some ⟨g1, 0, none⟩) x.cs.length cap) (v' := .bool x.cont) ⟨y0, y0f⟩ ⟨y1, y1f⟩
  refine bodyPost_ret (ret_row2 rfl _ _ w.heap.size _ _ _ rfl rfl hset.1.1 hset.2.1) rfl ⟨g1, cap, rfl, HRC.out.mod (X := [w.heap.size]) (mod_set2 (Mod.refl _ _) (.inl (by simp))) ?_, HB3⟩
  intro b hb cs' f he
  rw [List.mem_singleton.1 hb, HX1.out] at he
  injection he with he
  injection he with _ ht
  exact absurd ht (by decide)
end
end Go.Proofs.YtjcpdcncfjkejaaGreat

namespace Go.Proofs.YtjcpdcncfjkejaaGreat
open Go.RowKit
def encB (b : Bool) : List Value := [.bool b]
theorem encB_one : ∀ b, ∀ v ∈ encB b, v.oneCell' = true := fun b v hv => by
  obtain rfl := List.mem_singleton.1 hv; rfl
/-- Stops of the document in memory. -/
def DbO (B : Nat) (w : World) (v : Value) (l : List Bool) : Prop := w.ownsRow B 4 1 v l.length (flat encB l)
theorem DbO.mod {B : Nat} {w w' : World} {v : Value} {l : List Bool} {X : List Nat} (h : DbO B w v l) (hm : Mod X w w') (hX : ∀ g, v.ownBlock = some g → g ∉ X) : DbO B w' v l := owns_mod h hm hX
theorem DbO.below {B : Nat} {w w' : World} {v : Value} {l : List Bool} (h : DbO B w v l) (hb : Below w.heap.size w w') : DbO B w' v l := h.mod (Mod.of_below (X := []) hb) (fun _ _ h => by cases h)
theorem info_bool : (Tryz.prog.info? 4).map (fun i => (i.zero, i.size, i.bytes)) = some (some (.bool false), 1, 1) := by kernel_rfl
def DbPost (l : List Bool) (w : World) (e : Ending) (w' : World) : Prop := ∃ v, e = .returned v ∧ DbO w.heap.size w' v l ∧ Below w.heap.size w w'
theorem sizeT_succ {st : List Bool} {i : Nat} {b : Bool} (hb : b = if i < st.length then st.getD i false else decide (i % 8 = 0)) : sizeT st (i + 1) = sizeT st i ++ [b] := by
  unfold sizeT
  rw [List.range_succ, List.map_append, hb]
  rfl
theorem sizeT_len (st : List Bool) (n : Nat) : (sizeT st n).length = n := by simp [sizeT]
theorem stops_push {w W2 w' : World} {st : List Bool} {i c5 : Nat} {A5 : Option Addr} {b : Bool} {v' : Value} (hB : Below w.heap.size w W2) (hO : W2.ownsRow w.heap.size 4 1 (.slice A5 i c5) i (flat encB (sizeT st i))) (hbv : b = if i < st.length then st.getD i false else decide (i % 8 = 0))
    (ho : w'.ownsRow w.heap.size 4 1 v' (i + 1) (flat encB (sizeT st i) ++ [.bool b])) (hg : W2.grownBy w' (Value.slice A5 i c5).ownBlock) : DbO w.heap.size w' v' (sizeT st (i + 1)) ∧ Below w.heap.size w w' := by
  refine ⟨?_, hB.grown hg hB.size (fun k hk => (hO.lt k hk).1)⟩
  unfold DbO
  rw [sizeT_len, sizeT_succ hbv, flat_append]
  exact ho
set_option maxRecDepth 100000 in
set_option maxHeartbeats 1600000 in
theorem rSize_any (A : Option Addr) (st : List Bool) (ca cols : Nat) (w : World) (hA : GrAt encB 1 w A st) (hz : st.length ≤ 1000) (h3 : cols ≤ 1000) : Calls Tryz.prog 47 #[.slice A st.length ca, .int .i64 cols] w (DbPost (sizeT st cols) w) := by
  obtain ⟨j0, hj, gz0, gz1, gz2⟩ := info_parts info_bool
  have HA := Lib.hid hA
  obtain ⟨m, hm⟩ : ∃ m, st.length = m := ⟨_, rfl⟩
  rw [hm] at hz ⊢
  have HM := Lib.hid hm
  clear hA hm
  go_enter Tryz.func47, Tryz.ntmps47
  go_wp2_with fail
  go_loopw [5, 6] (fun s5 s6 wr => ∃ i : Nat, s6 = .int .i64 i ∧ i ≤ cols ∧ DbO w.heap.size wr s5 (sizeT st i) ∧ Below w.heap.size w wr) (fun _ s6 _ => cols - (intOf s6).toNat)
  case atStart => exact ⟨0, rfl, Nat.zero_le _, World.ownsRow_nil _ _ _ _, Below.refl _ _⟩
  case round =>
    obtain ⟨i, rfl, hi, ho, hb⟩ := hrel
    have HO := Lib.hid ho
    have HB := Lib.hid hb
    obtain ⟨A5, c5, hv5⟩ := row_form ho
    rw [sizeT_len] at hv5
    subst hv5
    clear ho hb
    by_cases hlt : i < cols
    rotate_left
    · obtain rfl : i = cols := by omega
      go_wp2
      go_ret
      exact ⟨_, rfl, HO.out, HB.out⟩
    · have hltI : (i : Int) < (cols : Int) := by omega
      have hlen := sizeT_len st i
      by_cases hin : i < m
      · have hinI : (i : Int) < (m : Int) := by omega
        obtain ⟨ga, off, rfl, hg⟩ := HA.out (by rw [HM.out]; omega)
        obtain ⟨b, hb⟩ : ∃ b, st[i]? = some b := ⟨st[i]'(by rw [HM.out]; exact hin), List.getElem?_eq_getElem _⟩
        have hsrc := hg i b hb 0 (.bool b) rfl
        rw [Nat.mul_one, Nat.add_zero] at hsrc
        have hsrc2 := holda HB.out hsrc
        obtain ⟨W2, hW2⟩ : ∃ W2, wr.alloc (.cells #[.bool b] 4) = W2 := ⟨_, rfl⟩
        have hb2 : Below wr.heap.size wr W2 := by rw [← hW2]; exact below_allocs (Below.refl _ _) _
        have HNW := Lib.hid (show W2.heap[wr.heap.size]? = some (.cells #[.bool b] 4 (0, 0)) from by rw [← hW2]; exact hp_new rfl)
        have HB2 := Lib.hid (below_tail HB.out hb2)
        have HOB := Lib.hid (show W2.ownsRow w.heap.size 4 1 (.slice A5 i c5) i (flat encB (sizeT st i)) from by have := HO.out.below hb2; unfold DbO at this; rw [hlen] at this; exact this)
        have HBV : Hid (b = if i < st.length then st.getD i false else decide (i % 8 = 0)) := Lib.hid (by rw [HM.out, if_pos hin, List.getD_eq_getElem?_getD, hb]; rfl)
        have hbw2 := HB2.out.size
        clear hb2 hsrc hg hb
        go_wp2_with (refine wpList_append_g rfl (.tmp 16) (.tmp 21) 86 rfl w.heap.size 4 j0 _ 1 1 Tryz.underlying86 hj gz0 gz1 gz2 rfl (by decide) (.slice A5 i c5) i (flat encB (sizeT st i)) rfl HOB.out ⟨wr.heap.size, 0, none⟩ 1 1 [.bool b] rfl rfl ?_ (encB_one b) ?_ ?_ ?_ ?_)
        all_goals first
          | omega
          | (simp only [maxLen]; omega)
          | skip
        · intro j u hj
          rw [add_lit', Nat.zero_add]
          exact (at_ HNW.out j u (by simpa using hj)).1
        · intro v' w' ho hg hv'
          have HD := Lib.hid (stops_push HB2.out HOB.out HBV.out ho hg)
          obtain ⟨A', c', hvf⟩ := row_form ho
          clear ho hg hv' hW2
          subst hvf
          go_wp2
          go_roundw
          case rel => exact ⟨i + 1, by go_num, by omega, HD.out.1, HD.out.2⟩
          case measure => simp [intOf]; omega
      · have hinI : ¬ (i : Int) < (m : Int) := by omega
        have h8 : (i : Int).tmod 8 = ((i % 8 : Nat) : Int) := by rw [Int.tmod_eq_emod_of_nonneg (by omega)]; omega
        obtain ⟨b, hbd⟩ : ∃ b, decide (i % 8 = 0) = b := ⟨_, rfl⟩
        have hbi : decide ((i : Int).tmod 8 = 0) = b := by rw [h8, ← hbd]; congr 1; apply propext; omega
        have hbi2 : ((i : Int).tmod 8 == 0) = b := hbi
        obtain ⟨W2, hW2⟩ : ∃ W2, wr.alloc (.cells #[.bool b] 4) = W2 := ⟨_, rfl⟩
        have hb2 : Below wr.heap.size wr W2 := by rw [← hW2]; exact below_allocs (Below.refl _ _) _
        have HNW := Lib.hid (show W2.heap[wr.heap.size]? = some (.cells #[.bool b] 4 (0, 0)) from by rw [← hW2]; exact hp_new rfl)
        have HB2 := Lib.hid (below_tail HB.out hb2)
        have HOB := Lib.hid (show W2.ownsRow w.heap.size 4 1 (.slice A5 i c5) i (flat encB (sizeT st i)) from by have := HO.out.below hb2; unfold DbO at this; rw [hlen] at this; exact this)
        have HBV : Hid (b = if i < st.length then st.getD i false else decide (i % 8 = 0)) := Lib.hid (by rw [HM.out, if_neg hin, hbd])
        have hbw2 := HB2.out.size
        clear hb2 h8
        go_upto_region 7 with fail
        refine wp_region_lit ?_
        refine wpList_valG (.slice A5 i c5) (by rfl) (by rfl) ?_
        simp only [Act.put, List.setIfInBounds_toArray, List.set_cons_zero, List.set_cons_succ]
        refine wpList_valG (.int .i64 (i : Int)) (by rfl) (by go_simp) ?_
        simp only [Act.put, List.setIfInBounds_toArray, List.set_cons_zero, List.set_cons_succ]
        refine wpList_valG (.int .i64 ((i : Int).tmod 8)) (by rfl) (by go_simp) ?_
        simp only [Act.put, List.setIfInBounds_toArray, List.set_cons_zero, List.set_cons_succ]
        refine wpList_valG (.bool b) (by rfl) (by go_simp) ?_
        simp only [Act.put, List.setIfInBounds_toArray, List.set_cons_zero, List.set_cons_succ]
        go_wp2_with (refine wpList_append_g rfl (.tmp 23) (.tmp 27) 86 rfl w.heap.size 4 j0 _ 1 1 Tryz.underlying86 hj gz0 gz1 gz2 rfl (by decide) (.slice A5 i c5) i (flat encB (sizeT st i)) rfl HOB.out ⟨wr.heap.size, 0, none⟩ 1 1 [.bool b] rfl rfl ?_ (encB_one b) ?_ ?_ ?_ ?_)
        all_goals first
          | omega
          | (simp only [maxLen]; omega)
          | skip
        · intro j u hj
          first | rw [add_lit', Nat.zero_add] | skip
          exact (at_ HNW.out j u (by simpa using hj)).1
        · intro v' w' ho hg hv'
          have HD := Lib.hid (stops_push HB2.out HOB.out HBV.out ho hg)
          obtain ⟨A', c', hvf⟩ := row_form ho
          clear ho hg hv' hW2
          subst hvf
          go_wp2
          go_roundw
          case rel => exact ⟨i + 1, by go_num, by omega, HD.out.1, HD.out.2⟩
          case measure => simp [intOf]; omega
theorem rFirst_any (cols : Nat) (w : World) (h3 : cols ≤ 1000) : Calls Tryz.prog 27 #[.int .i64 cols] w (DbPost (sizeT [] cols) w) := by
  have HS := Lib.hid (rSize_any (some ⟨w.heap.size, 0, none⟩) [] 0 cols (w.alloc (.cells #[] 4)) (fun h0 => absurd h0 (by simp)) (by simp) h3)
  have HB := Lib.hid (below_allocs (Below.refl w.heap.size w) (.cells #[] 4))
  go_enter Tryz.func27, Tryz.ntmps27
  go_wp2_with (go_at_call 47; refine HS.out.mono ?_; rintro e w2 ⟨v, rfl, hs, hb⟩; have HR := Lib.hid hs; have HB2 := Lib.hid hb; clear hs hb)
  go_ret
  exact ⟨v, rfl, ⟨HR.out.1, HR.out.2.imp (fun h => h) (fun ⟨g, cap, cur, h1, h2, h3⟩ => ⟨g, cap, cur, h1, by have := HB.out.size; simp at h2; omega, h3⟩)⟩, below_tail HB.out HB2.out⟩
end Go.Proofs.YtjcpdcncfjkejaaGreat
