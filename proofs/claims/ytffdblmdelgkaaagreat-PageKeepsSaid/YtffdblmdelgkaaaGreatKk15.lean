/- Joined by a tool of this claim out of smaller texts. Conditions: as stated. -/
import Derived.Test.YtffdblmdelgkaaaGreatKk14
namespace Go.Proofs.YtffdblmdelgkaaaGreat
open Go.RowKit
theorem run_copy_none {P : Program} (w : World) (dT sT ty elem : TypeId) (d a : Option Addr) (dLen dCap sCap k : Nat) (hu : P.underlying dT = some (.slice elem)) (hs : (P.info? elem).map (·.size) = some k) :
    (Builtin.copy_ #[dT, sT] ty #[.slice d dLen dCap, .slice a 0 sCap]).run P w = .ok (goInt 0) w := by
  cases hq : P.info? elem with
  | none => simp [hq] at hs
  | some i =>
    cases d <;> cases a <;> simp [Builtin.copy_, run_underlying hu, Builtin.lenOf, Builtin.firstCells, sizeOf, typeInfo, hq, loadCells, loadCellsFrom, storeCells]
theorem copy_into {w : World} {base g cap n c : Nat} {A : Option Addr} {D S : List Cl} (h : CrO w base g cap D) (hs : GrAt encCl 8 w A S) (hn : n ≤ S.length) (hd : n ≤ D.length) :
    ∃ w', (Builtin.copy_ #[48, 48] 3 #[.slice (some ⟨g, 0, none⟩) D.length cap, .slice A n c]).run Tryz.prog w = .ok (goInt n) w' ∧ CrO w' base g cap (S.take n ++ D.drop n) ∧ Mod [g] w w' := by
  rcases Nat.eq_zero_or_pos n with rfl | hn0
  · exact ⟨w, run_copy_none w _ _ _ 109 _ _ _ _ _ 8 Tryz.underlying48 info_cell, by simpa using h, Mod.refl _ _⟩
  · obtain ⟨b, off, rfl, hc⟩ := hs (by omega)
    have hlen : (S.take n).length = n := by rw [List.length_take]; omega
    have hcl : (flat encCl (S.take n)).length = n * 8 := by rw [flat_len encCl_len, hlen]
    have hmin : Nat.min n D.length = n := Nat.min_eq_left hd
    have := run_copy_k (P := Tryz.prog) w 48 48 3 109 g 0 D.length cap ⟨b, off, none⟩ n c 8 (flat encCl (S.take n)) Tryz.underlying48 info_cell (by rw [hmin, hcl]) (fun j v hj => ?_) (fun j hj => ?_) (fun j hj => ?_) (flat_one encCl_one _)
    · rw [hmin] at this
      have h2 := h.setMany 0 (S.take n) (by rw [hlen]; omega)
      rw [hlen, Nat.zero_mul, Nat.zero_add, List.take_zero, List.nil_append] at h2
      exact ⟨_, this, h2⟩
    · exact (GrAt.firsts0 hs n).news encCl_len j v hj
    · rw [hcl] at hj
      obtain ⟨v, hv⟩ : ∃ v, (flat encCl D)[0 + j]? = some v := ⟨_, List.getElem?_eq_getElem (by rw [flat_len encCl_len]; omega)⟩
      rw [(owns_hold h hv).1]; rfl
    · rw [hcl] at hj
      obtain ⟨v, hv⟩ : ∃ v, (flat encCl D)[0 + j]? = some v := ⟨_, List.getElem?_eq_getElem (by rw [flat_len encCl_len]; omega)⟩
      exact (owns_hold h hv).2
theorem splitG_rest {cols : Nat} (hc : 2 ≤ cols) (c : Bool) (l : List Cl) : splitG cols (l.length + 1) c l = ⟨rowCs cols l, c⟩ :: (if takeN cols l < l.length then splitG cols ((l.drop (takeN cols l)).length + 1) true (l.drop (takeN cols l)) else []) := by
  rw [splitG]
  split
  · next h =>
    have := takeN_pos hc (l := l) (by omega)
    rw [splitG_fuel hc l.length ((l.drop (takeN cols l)).length + 1) true (l.drop (takeN cols l)) (by rw [List.length_drop]; omega) (by omega)]
  · rfl
def lnV : Value → Nat
  | .slice _ n _ => n
  | _ => 0
theorem RcAt.lasts {w : World} {A : Option Addr} {l : List Cl} {cap n : Nat} {b b' : Bool} {cap' : Nat} {A' : Option Addr} (h : RcAt w ⟨A, l, cap, b⟩) (hA : n < l.length → ∃ g o, A = some ⟨g, o, none⟩ ∧ A' = some ⟨g, o + n * 8, none⟩) : RcAt w ⟨A', l.drop n, cap', b'⟩ :=
  ⟨by have := h.1; simp only [List.length_drop] at *; omega, h.2.1.drop n, fun h0 => by
    have h1 : 0 < (l.drop n).length := h0
    rw [List.length_drop] at h1
    obtain ⟨g, o, rfl, rfl⟩ := hA (by omega)
    obtain ⟨b2, off, e, hc⟩ := h.2.2.1 (show 0 < l.length by omega)
    simp only [Option.some.injEq, Addr.mk.injEq, and_true] at e
    obtain ⟨rfl, rfl⟩ := e
    refine ⟨g, o + n * 8, rfl, fun i x hx j v hv => ?_⟩
    have := hc (n + i) x (by rw [List.getElem?_drop] at hx; exact hx) j v hv
    rw [show o + n * 8 + i * 8 + j = o + (n + i) * 8 + j by omega]
    exact this, fun h0 => by
    have h1 : 0 < (l.drop n).length := h0
    rw [List.length_drop] at h1
    obtain ⟨g, o, rfl, rfl⟩ := hA (by omega)
    obtain ⟨b2, off, cs, f, e, hc⟩ := h.2.2.2 (show 0 < l.length by omega)
    simp only [Option.some.injEq, Addr.mk.injEq, and_true] at e
    obtain ⟨rfl, rfl⟩ := e
    exact ⟨g, _, cs, f, rfl, hc⟩⟩
theorem fine_row {cols : Nat} {l : List Cl} (h : Fine l) : Fine (rowCs cols l) := by
  unfold rowCs
  refine (h.take _).append ?_
  split
  · intro c hc
    rw [List.mem_singleton.1 hc]; exact Nat.zero_le _
  · exact fun c hc => by rw [(List.mem_replicate.1 hc).2]; exact Nat.zero_le _
theorem CrO.pad {w : World} {base g cap n cols : Nat} {S : List Cl} (h : CrO w base g cap (S.take n ++ (List.replicate cols zC).drop n)) (hn : n + 1 = cols) (hS : n ≤ S.length) :
    HoldAt w g (n * 8 + 2) (.int .i64 0) ∧ CrO (w.setCell ⟨g, n * 8 + 2, none⟩ (.int .i64 3)) base g cap (S.take n ++ [padC]) := by
  have e : S.take n ++ (List.replicate cols zC).drop n = S.take n ++ [zC] := by
    rw [List.drop_replicate, show cols - n = 1 by omega]; rfl
  rw [e] at h
  have hx : (S.take n ++ [zC])[n]? = some zC := by
    rw [List.getElem?_append_right (by rw [List.length_take]; omega), List.length_take, show n - min n S.length = 0 by omega]; rfl
  refine ⟨owns_hold h (i := n * 8 + 2) (by rw [flat_at2 encCl_len _ n zC 2 hx (by decide)]; rfl), ?_⟩
  have h1 := owns_set1 h (n * 8 + 2) (.int .i64 3)
  rw [flat_set1 encCl_len _ n zC padC 2 (.int .i64 3) hx (by decide) rfl] at h1
  rw [List.set_append_right _ _ (by rw [List.length_take]; omega), List.length_take, show n - min n S.length = 0 by omega, List.set_cons_zero] at h1
  unfold CrO
  have hl : (S.take n ++ [padC]).length = (S.take n ++ [zC]).length := by simp
  rw [hl]
  exact h1
theorem rowCs_plain {cols n : Nat} {S : List Cl} (hn : n = takeN cols S) (h : ¬ (n + 1 = cols ∧ n < S.length)) : S.take n ++ (List.replicate cols zC).drop n = rowCs cols S := by
  unfold rowCs
  rw [← hn, if_neg h, List.drop_replicate]
theorem rowCs_padded {cols n : Nat} {S : List Cl} (hn : n = takeN cols S) (h : n + 1 = cols ∧ n < S.length) : S.take n ++ [padC] = rowCs cols S := by
  unfold rowCs
  rw [← hn, if_pos h]
theorem rc_nil_of {w : World} {A : Option Addr} {l : List Cl} {cap : Nat} {b : Bool} (h : l.length = 0) : RcAt w ⟨A, l, cap, b⟩ := by
  rw [List.length_eq_zero_iff.1 h]
  exact rc_nil w A cap b
/-- What Split has come to. -/
structure SplSt (w : World) (cols : Nat) (R : List Ro) (v5 v6 : Value) (done : List Rh) (left : List Cl) (wr : World) : Prop where
  h5 : ∃ A c, v5 = .slice A left.length c ∧ left.length ≤ c ∧ RcAt wr ⟨A, left, c, false⟩ ∧ (done = [] → left.length = 0 → A = none ∧ c = 0)
  h6 : RowsO w.heap.size wr v6 done
  hR : R = done.map roOf ++ (if done = [] ∨ 0 < left.length then splitG cols (left.length + 1) (decide (done ≠ [])) left else [])
  hb : Below w.heap.size w wr
set_option maxRecDepth 100000 in
set_option maxHeartbeats 6400000 in
theorem fSplit_any (A : Option Addr) (l : List Cl) (ca cols : Nat) (w : World) (hl : GrAt encCl 8 w A l) (hz : l.length ≤ 10000) (hf : Fine l) (hc : 2 ≤ cols) (hc2 : cols ≤ 1000) :
    Calls Tryz.prog 99 #[.slice A l.length ca, .int .i64 cols] w (AllPost (splitL cols l) w) := by
  obtain ⟨j0, hj, gz0, gz1, gz2⟩ := info_parts info_cellz
  obtain ⟨j1, hj1, gy0, gy1, gy2⟩ := info_parts info_rowz
  have HFI := Lib.hid (fun w => ffits_any cols w hc hc2)
  have HPL := Lib.hid (fplain_any A l ca w hl hz hf)
  have HTK := Lib.hid (fun (A : Option Addr) (l : List Cl) (ca : Nat) (w : World) (hl : GrAt encCl 8 w A l) (hz : l.length ≤ 100000000) => ftake_any A l ca cols w hl hz hc hc2)
  obtain ⟨P, hP⟩ : ∃ P, P = plainL l := ⟨_, rfl⟩
  have hPz : P.length ≤ 10000 := by rw [hP, plainL_len]; exact hz
  obtain ⟨R, hR⟩ : ∃ R, R = splitL cols l := ⟨_, rfl⟩
  have hR2 : R = splitG cols (P.length + 1) false P := by
    rw [hR, hP]; unfold splitL
    exact splitG_fuel hc _ _ _ _ (by rw [plainL_len]; omega) (by omega)
  have hRl : R.length ≤ 10001 := by
    have := splitG_len hc (P.length + 1) false P
    rw [← hR2] at this; omega
  rw [← hP] at HPL
  rw [← hR]
  have HR2 := Lib.hid hR2
  have HRL := Lib.hid hRl
  have HC := Lib.hid (And.intro hc hc2)
  clear hl hP hPz hR hR2 hRl hf
  go_enter Tryz.func99, Tryz.ntmps99
  go_wp2_with (first
    | (go_at_call 96; (with_reducible refine (HFI.out _).mono ?_); rintro e w1 ⟨rfl, rfl⟩)
    | (go_at_call 131; (with_reducible refine HPL.out.mono ?_); rintro e w2 ⟨A5, c5, rfl, hc5, hr5, hb5, hz5⟩; have HR5 := Lib.hid hr5; have HB5 := Lib.hid hb5; have HC5 := Lib.hid hc5; have HZ5 := Lib.hid hz5; clear hr5 hb5 hc5 hz5))
  go_loopw [5, 6] (fun s5 s6 wr => ∃ done left, SplSt w cols R s5 s6 done left wr) (fun s5 s6 _ => 2 * lnV s5 + (if lnV s6 = 0 then 1 else 0))
  case atStart => exact ⟨[], P, ⟨A5, c5, rfl, HC5.out, HR5.out, fun _ => HZ5.out⟩, ⟨World.ownsRow_nil _ _ _ _, fun r hr => by cases hr⟩, by rw [HR2.out]; simp, HB5.out⟩
  case round =>
    obtain ⟨done, left, ⟨A5, c5, rfl, hc5, hr5, hz5⟩, h6, hR, hb⟩ := hrel
    obtain ⟨A6, c6, hv6⟩ := row_form h6.1
    subst hv6
    have H6 := Lib.hid h6
    have HB := Lib.hid hb
    have HR5' := Lib.hid hr5
    have HRE := Lib.hid hR
    have hdl : done.length ≤ 10001 := by
      have := congrArg List.length hR
      rw [List.length_append, List.length_map] at this
      have := HRL.out
      omega
    by_cases hend : done = [] ∨ 0 < left.length
    rotate_left
    · have hd0 : done ≠ [] := fun h => hend (.inl h)
      have hl0 : left.length = 0 := by have : ¬ 0 < left.length := fun h => hend (.inr h); omega
      have hdp : 0 < done.length := List.length_pos_iff.2 hd0
      obtain ⟨p, hp⟩ : ∃ p, done.length = p := ⟨_, rfl⟩
      have HP := Lib.hid hp
      rw [hp] at hdp ⊢
      have hp0 : ((p : Int) == 0) = false := beq_eq_false_iff_ne.2 (by omega)
      have hpn : ¬ (p : Int) = 0 := by omega
      have HE := Lib.hid hend
      rw [hl0]
      clear h6 hb hr5 hR hend hd0 hl0 hp
      go_wp2
      go_ret
      refine ⟨_, done, rfl, ?_, ?_, HB.out⟩
      · rw [← HP.out]; exact H6.out
      · rw [HRE.out, if_neg HE.out, List.append_nil]
    · -- printed by gen_FlE.py
      obtain ⟨n, hn⟩ : ∃ n, n = takeN cols left := ⟨_, rfl⟩
      obtain ⟨q, hq⟩ : ∃ q, left.length = q := ⟨_, rfl⟩
      obtain ⟨p, hp⟩ : ∃ p, done.length = p := ⟨_, rfl⟩
      have hnq : n ≤ q := by rw [hn, ← hq]; exact takeN_le _ _
      have hnc : n ≤ cols := by rw [hn]; exact takeN_cols _ _
      have hq10 : q ≤ 10000 := by rw [← hq]; exact hr5.1
      have hcs := HC.out
      have HREM := Lib.hid (splitG_rest (cols := cols) hcs.1 (decide (done ≠ [])) left)
      have HTAKE := Lib.hid (HTK.out A5 left c5 wr hr5.2.2.1 (by omega))
      rw [← hn] at HREM HTAKE
      rw [hq] at HTAKE
      rw [hq] at hc5 ⊢
      rw [hp] at hdl ⊢
      have hnc5 : n ≤ c5 := by omega
      have HP := Lib.hid hp
      have H6 := Lib.hid (show RowsO w.heap.size wr (.slice A6 p c6) done from by rw [← hp]; exact H6.out)
      have HQ := Lib.hid hq
      have HNN := Lib.hid hn
      have HEND := Lib.hid hend
      have HRA := Lib.hid (show R = done.map roOf ++ ⟨rowCs cols left, decide (done ≠ [])⟩ :: (if n < q then splitG cols ((left.drop n).length + 1) true (left.drop n) else []) from by rw [HRE.out, if_pos hend, HREM.out, hq])
      obtain ⟨k1, hk1⟩ : ∃ k1, k1 + 1 = cols := ⟨cols - 1, by omega⟩
      have hk1I : (cols : Int) - 1 = (k1 : Int) := by omega
      have hwk1 : IntKind.i64.wrap (k1 : Int) = (k1 : Int) := IntWalk.i64_in _ (by omega)
      have HG5 := Lib.hid hr5.2.2.1
      have HFL := Lib.hid hr5.2.1
      by_cases hq0 : q = 0
      · have hp0 : p = 0 := by
          rcases hend with h | h
          · rw [h] at hp; exact hp.symm
          · omega
        have hn0 : n = 0 := by omega
        obtain ⟨rfl, -⟩ := hz5 (by
          rcases hend with h | h
          · exact h
          · omega) (by rw [hq]; exact hq0)
        have hp0b : ((p : Int) == 0) = true := by simp [hp0]
        have hpN : ¬ 0 < p := by omega
        have hkn : ¬ n = k1 := by omega
        have hkz : ¬ (n : Int) = (k1 : Int) := by omega
        have HP0 := Lib.hid hp0
        have HQ0 := Lib.hid hq0
        have HN0 := Lib.hid hn0
        clear h6 hb hr5 hR hend hn hp hq hcs hp0 hq0 hn0 hz5
        go_upto_region 8 with (first
          | (go_at_call 132; (with_reducible refine HTAKE.out.mono ?_); rintro e w9 ⟨rfl, rfl⟩)
          | (refine wpList_make_full _ rfl (.tmp 25) (.tmp 25) _ rfl w.heap.size 109 j0 _ 8 Tryz.underlying48 hj gz0 gz1 .i64 .i64 _ _ cols rfl rfl ?_ ?_ ?_ ?_ ?_ ?_))
        all_goals first
          | rfl
          | omega
          | (simp only [maxLen]; omega)
          | (rw [gz2]; omega)
          | (simp; done)
          | exact HB.out.size
          | skip
        intro w1 hown hg
        have HG := Lib.hid hg
        have e := made_flat zC cols
        have HO1 : Hid (CrO w1 w.heap.size wr.heap.size cols (List.replicate cols zC)) := Lib.hid (by unfold CrO; rw [List.length_replicate, ← e]; exact hown)
        have HB1 := Lib.hid (show Below wr.heap.size wr w1 from (Below.refl _ _).grown HG.out (Nat.le_refl _) (fun k hk => by cases hk))
        obtain ⟨w2, hcp, hO2, hM2⟩ := copy_into (n := n) (c := c5) HO1.out (HG5.out.below HB1.out) (by rw [HQ.out]; omega) (by rw [List.length_replicate]; omega)
        rw [List.length_replicate] at hcp
        have HO2 := Lib.hid hO2
        have HB2 := Lib.hid (HB1.out.trans (hM2.below (B := wr.heap.size) (fun x hx => by rw [List.mem_singleton.1 hx]; exact Nat.le_refl _) HB1.out.size))
        clear hown hg e hO2 hM2
        obtain ⟨g1, hg1⟩ : ∃ g1, wr.heap.size = g1 := ⟨_, rfl⟩
        rw [hg1] at hcp HO2 ⊢
        have HG1 := Lib.hid hg1
        clear hg1
        have hne1 : ((n : Int) == (k1 : Int)) = false := beq_eq_false_iff_ne.2 hkz
        go_upto_region 12 with fail
        have hqn := HQ0.out
        have hnn := HN0.out
        have hcc := HC.out.1
        have HO3 : Hid (CrO w2 w.heap.size g1 cols (rowCs cols left)) := Lib.hid (by rw [← rowCs_plain HNN.out (by rw [HQ.out]; omega)]; exact HO2.out)
        have HB3 := Lib.hid HB2.out
        obtain ⟨W3, hW3⟩ : ∃ W3, W3 = w2 := ⟨_, rfl⟩
        subst hW3
        clear hqn hnn hcc
        have HL3 : Hid (RcAt W3 ⟨none, left.drop n, c5 - n, false⟩) := Lib.hid (rc_nil_of (by have := HQ0.out; rw [List.length_drop, HQ.out]; omega))
        have H63 := Lib.hid (H6.out.below HB3.out)
        have HBT := Lib.hid (below_tail HB.out HB3.out)
        have HRC3 : Hid (RcAt W3 ⟨some ⟨g1, 0, none⟩, rowCs cols left, cols, false⟩) := Lib.hid (.of_own HO3.out (by rw [rowCs_len HC.out.1]; have := HC.out.2; omega) (fine_row HFL.out) false)
        go_upto_region 12 with fail
        refine wp_region_lit ?_
        refine wpList_valG (.slice A6 p c6) (by rfl) (by rfl) ?_
        simp only [Act.put, List.setIfInBounds_toArray, List.set_cons_zero, List.set_cons_succ]
        refine wpList_valG (.slice (some ⟨g1, 0, none⟩) cols cols) (by rfl) (by rfl) ?_
        simp only [Act.put, List.setIfInBounds_toArray, List.set_cons_zero, List.set_cons_succ]
        refine wpList_valG (.slice A6 p c6) (by rfl) (by rfl) ?_
        simp only [Act.put, List.setIfInBounds_toArray, List.set_cons_zero, List.set_cons_succ]
        refine wpList_valG (.int .i64 (p : Int)) (by rfl) (by go_simp) ?_
        simp only [Act.put, List.setIfInBounds_toArray, List.set_cons_zero, List.set_cons_succ]
        refine wpList_valG (.bool false) (by rfl) (by go_simp) ?_
        simp only [Act.put, List.setIfInBounds_toArray, List.set_cons_zero, List.set_cons_succ]
        refine wpList_valG (.agg #[.slice (some ⟨g1, 0, none⟩) cols cols, .bool false]) (by rfl) (by go_simp) ?_
        simp only [Act.put, List.setIfInBounds_toArray, List.set_cons_zero, List.set_cons_succ]
        have hbx := below_allocs (Below.refl W3.heap.size W3) (.cells #[.slice (some ⟨g1, 0, none⟩) cols cols, .bool false] 50)
        refine wpList_actG (.slice (some ⟨W3.heap.size, 0, none⟩) 1 1) (W3.alloc (.cells #[.slice (some ⟨g1, 0, none⟩) cols cols, .bool false] 50)) (by rfl) (by go_simp) ?_
        simp only [Act.put, List.setIfInBounds_toArray, List.set_cons_zero, List.set_cons_succ]
        have HBX := Lib.hid (below_tail HBT.out hbx)
        have HRX := Lib.hid (H63.out.below hbx)
        have HRC4 := Lib.hid (HRC3.out.below hbx)
        have HL4 := Lib.hid (HL3.out.below hbx)
        refine wpList_append_g (o := ⟨some 55, _, _, _, _, _⟩) rfl (.tmp 48) (.tmp 54) 42 rfl w.heap.size 50 j1 _ 2 32 Tryz.underlying42 hj1 gy0 gy1 gy2 rfl (by decide) (.slice A6 p c6) done.length (flat encRh done) rfl HRX.out.1 ⟨W3.heap.size, 0, none⟩ 1 1 (encRh ⟨some ⟨g1, 0, none⟩, rowCs cols left, cols, false⟩) rfl rfl ?_ (encRh_one _) (by simp only [maxLen]; have := HP.out; omega) (by have := HP.out; omega) HBX.out.size ?_
        · intro j u hj
          rw [add_lit', Nat.zero_add]
          exact (at_ (hp_new rfl) j u (by simpa [encRh, rowCs_len HC.out.1] using hj)).1
        · intro v' w7 ho hg hv'
          have HRO := Lib.hid (HRX.out.push (r := ⟨some ⟨g1, 0, none⟩, rowCs cols left, cols, false⟩) ho hg HRC4.out (by rw [rowCs_len HC.out.1]; have := HC.out.1; omega))
          have hmo : Mod (Value.slice A6 p c6).ownBlock.toList (W3.alloc (.cells #[.slice (some ⟨g1, 0, none⟩) cols cols, .bool false] 50)) w7 := Mod.of_grown hg (fun b hb => by simp [hb])
          have hnc : NoCel (W3.alloc (.cells #[.slice (some ⟨g1, 0, none⟩) cols cols, .bool false] 50)) (Value.slice A6 p c6).ownBlock.toList := fun b hb cs f he => by
            obtain ⟨cur, hc⟩ := own_block HRX.out.1 (Option.mem_toList.1 hb)
            exact block_ne hc he (by decide) rfl
          have HL7 := Lib.hid (HL4.out.mod hmo hnc)
          have HB7 := Lib.hid (HBX.out.grown hg HBX.out.size (fun x hx => (HRX.out.1.lt x hx).1))
          have hln : lnV v' = p + 1 := by
            rcases ho.2 with ⟨e, h0⟩ | ⟨g', c', cur, e, _⟩
            · have := HP.out; omega
            · rw [e]; show done.length + 1 = _; rw [HP.out]
          have HLN := Lib.hid hln
          simp only [Act.put, List.setIfInBounds_toArray, List.set_cons_zero, List.set_cons_succ]
          clear ho hg hv' hmo hnc hln hbx
          go_wp2
          go_roundw
          case rel =>
            refine ⟨done ++ [⟨some ⟨g1, 0, none⟩, rowCs cols left, cols, false⟩], left.drop n, ⟨none, c5 - n, by rw [List.length_drop, HQ.out], by rw [List.length_drop, HQ.out]; omega, HL7.out, fun h => absurd h (by simp)⟩, HRO.out, ?_, HB7.out⟩
            rw [HRA.out, List.map_append, List.append_assoc]
            congr 1
            have hdec : decide (done ≠ []) = false := by have := HP.out; have := HP0.out; rw [decide_eq_false_iff_not]; intro h; apply h; exact List.length_eq_zero_iff.1 (by omega)
            rw [hdec]
            have hne : ¬ (done ++ [(⟨some ⟨g1, 0, none⟩, rowCs cols left, cols, false⟩ : Rh)] = []) := by simp
            have hdec2 : decide (done ++ [(⟨some ⟨g1, 0, none⟩, rowCs cols left, cols, false⟩ : Rh)] ≠ []) = true := by simp
            rw [hdec2, List.length_drop, HQ.out]
            simp only [hne, false_or]
            by_cases h : n < q
            · rw [if_pos h, if_pos (show 0 < q - n by omega)]; rfl
            · rw [if_neg h, if_neg (show ¬ 0 < q - n by omega)]; rfl
          case measure => show 2 * (q - n) + (if lnV v' = 0 then 1 else 0) < 2 * q + (if p = 0 then 1 else 0); have h1 := HLN.out; have h2 := HP0.out; have h3 := HQ0.out; rw [h1, if_neg (show ¬ p + 1 = 0 by omega)]; split <;> omega
      · have hq1 : 0 < left.length := by rw [hq]; omega
        obtain ⟨b, off, rfl, -⟩ := hr5.2.2.1 hq1
        have hqI : 0 < (q : Int) := by omega
        have hn1 : 0 < n := by rw [hn]; exact takeN_pos HC.out.1 hq1
        clear h6 hb hr5 hR hend hn hq hcs hq1 hq0 hz5
        by_cases hp0 : p = 0
        · have hp0b : ((p : Int) == 0) = true := by simp [hp0]
          have hpN : ¬ 0 < p := by omega
          have HP0 := Lib.hid hp0
          clear hp hp0
          go_upto_region 8 with (first
            | (go_at_call 132; (with_reducible refine HTAKE.out.mono ?_); rintro e w9 ⟨rfl, rfl⟩)
            | (refine wpList_make_full _ rfl (.tmp 25) (.tmp 25) _ rfl w.heap.size 109 j0 _ 8 Tryz.underlying48 hj gz0 gz1 .i64 .i64 _ _ cols rfl rfl ?_ ?_ ?_ ?_ ?_ ?_))
          all_goals first
            | rfl
            | omega
            | (simp only [maxLen]; omega)
            | (rw [gz2]; omega)
            | (simp; done)
            | exact HB.out.size
            | skip
          intro w1 hown hg
          have HG := Lib.hid hg
          have e := made_flat zC cols
          have HO1 : Hid (CrO w1 w.heap.size wr.heap.size cols (List.replicate cols zC)) := Lib.hid (by unfold CrO; rw [List.length_replicate, ← e]; exact hown)
          have HB1 := Lib.hid (show Below wr.heap.size wr w1 from (Below.refl _ _).grown HG.out (Nat.le_refl _) (fun k hk => by cases hk))
          obtain ⟨w2, hcp, hO2, hM2⟩ := copy_into (n := n) (c := c5) HO1.out (HG5.out.below HB1.out) (by rw [HQ.out]; omega) (by rw [List.length_replicate]; omega)
          rw [List.length_replicate] at hcp
          have HO2 := Lib.hid hO2
          have HB2 := Lib.hid (HB1.out.trans (hM2.below (B := wr.heap.size) (fun x hx => by rw [List.mem_singleton.1 hx]; exact Nat.le_refl _) HB1.out.size))
          clear hown hg e hO2 hM2
          obtain ⟨g1, hg1⟩ : ∃ g1, wr.heap.size = g1 := ⟨_, rfl⟩
          rw [hg1] at hcp HO2 ⊢
          have HG1 := Lib.hid hg1
          clear hg1
          obtain ⟨off2, hoff, hoff2⟩ : ∃ off2, (if c5 = n then (some ⟨b, off, none⟩ : Option Addr) else some ⟨b, off + n * 8, none⟩) = some ⟨b, off2, none⟩ ∧ (n < c5 → off2 = off + n * 8) := by
            by_cases h : c5 = n
            · exact ⟨off, if_pos h, fun h2 => by omega⟩
            · exact ⟨off + n * 8, if_neg h, fun _ => rfl⟩
          have HADR : Hid (n < q → off2 = off + n * 8) := Lib.hid (fun h => hoff2 (by omega))
          obtain ⟨d, hd⟩ : ∃ d, q - n = d := ⟨_, rfl⟩
          have HD := Lib.hid hd
          clear hoff2
          by_cases hnk : n = k1
          · have heq1 : ((n : Int) == (k1 : Int)) = true := by simp [hnk]
            have HNK := Lib.hid hnk
            clear hnk
            by_cases hd0 : 0 < d
            · have hdI : 0 < (d : Int) := by omega
              have hncI : (n : Int) < (cols : Int) := by have := HNK.out; omega
              obtain ⟨y0, y0f⟩ := (HO2.out.pad (n := n) (by have := HNK.out; omega) (by rw [HQ.out]; omega)).1
              have HO3 : Hid (CrO (w2.setCell ⟨g1, n * 8 + 2, none⟩ (.int .i64 3)) w.heap.size g1 cols (rowCs cols left)) := Lib.hid (by rw [← rowCs_padded HNN.out ⟨by have := HNK.out; omega, by rw [HQ.out]; omega⟩]; exact (HO2.out.pad (n := n) (by have := HNK.out; omega) (by rw [HQ.out]; omega)).2)
              have HB3 := Lib.hid (below_set HB2.out (show wr.heap.size ≤ g1 from Nat.le_of_eq HG1.out) (o := n * 8 + 2) (.int .i64 3))
              go_upto_region 12 with fail
              clear hcp y0 y0f
              generalize World.setCell _ _ _ = W3 at HO3 HB3 ⊢
              have HL3 : Hid (RcAt W3 ⟨(some ⟨b, off + n * 8, none⟩), left.drop n, c5 - n, false⟩) := Lib.hid ((HR5'.out.below HB3.out).lasts (fun hlt => ⟨b, off, rfl, rfl⟩))
              have H63 := Lib.hid (H6.out.below HB3.out)
              have HBT := Lib.hid (below_tail HB.out HB3.out)
              have HRC3 : Hid (RcAt W3 ⟨some ⟨g1, 0, none⟩, rowCs cols left, cols, false⟩) := Lib.hid (.of_own HO3.out (by rw [rowCs_len HC.out.1]; have := HC.out.2; omega) (fine_row HFL.out) false)
              go_upto_region 12 with fail
              refine wp_region_lit ?_
              refine wpList_valG (.slice A6 p c6) (by rfl) (by rfl) ?_
              simp only [Act.put, List.setIfInBounds_toArray, List.set_cons_zero, List.set_cons_succ]
              refine wpList_valG (.slice (some ⟨g1, 0, none⟩) cols cols) (by rfl) (by rfl) ?_
              simp only [Act.put, List.setIfInBounds_toArray, List.set_cons_zero, List.set_cons_succ]
              refine wpList_valG (.slice A6 p c6) (by rfl) (by rfl) ?_
              simp only [Act.put, List.setIfInBounds_toArray, List.set_cons_zero, List.set_cons_succ]
              refine wpList_valG (.int .i64 (p : Int)) (by rfl) (by go_simp) ?_
              simp only [Act.put, List.setIfInBounds_toArray, List.set_cons_zero, List.set_cons_succ]
              refine wpList_valG (.bool false) (by rfl) (by go_simp) ?_
              simp only [Act.put, List.setIfInBounds_toArray, List.set_cons_zero, List.set_cons_succ]
              refine wpList_valG (.agg #[.slice (some ⟨g1, 0, none⟩) cols cols, .bool false]) (by rfl) (by go_simp) ?_
              simp only [Act.put, List.setIfInBounds_toArray, List.set_cons_zero, List.set_cons_succ]
              have hbx := below_allocs (Below.refl W3.heap.size W3) (.cells #[.slice (some ⟨g1, 0, none⟩) cols cols, .bool false] 50)
              refine wpList_actG (.slice (some ⟨W3.heap.size, 0, none⟩) 1 1) (W3.alloc (.cells #[.slice (some ⟨g1, 0, none⟩) cols cols, .bool false] 50)) (by rfl) (by go_simp) ?_
              simp only [Act.put, List.setIfInBounds_toArray, List.set_cons_zero, List.set_cons_succ]
              have HBX := Lib.hid (below_tail HBT.out hbx)
              have HRX := Lib.hid (H63.out.below hbx)
              have HRC4 := Lib.hid (HRC3.out.below hbx)
              have HL4 := Lib.hid (HL3.out.below hbx)
              refine wpList_append_g (o := ⟨some 55, _, _, _, _, _⟩) rfl (.tmp 48) (.tmp 54) 42 rfl w.heap.size 50 j1 _ 2 32 Tryz.underlying42 hj1 gy0 gy1 gy2 rfl (by decide) (.slice A6 p c6) done.length (flat encRh done) rfl HRX.out.1 ⟨W3.heap.size, 0, none⟩ 1 1 (encRh ⟨some ⟨g1, 0, none⟩, rowCs cols left, cols, false⟩) rfl rfl ?_ (encRh_one _) (by simp only [maxLen]; have := HP.out; omega) (by have := HP.out; omega) HBX.out.size ?_
              · intro j u hj
                rw [add_lit', Nat.zero_add]
                exact (at_ (hp_new rfl) j u (by simpa [encRh, rowCs_len HC.out.1] using hj)).1
              · intro v' w7 ho hg hv'
                have HRO := Lib.hid (HRX.out.push (r := ⟨some ⟨g1, 0, none⟩, rowCs cols left, cols, false⟩) ho hg HRC4.out (by rw [rowCs_len HC.out.1]; have := HC.out.1; omega))
                have hmo : Mod (Value.slice A6 p c6).ownBlock.toList (W3.alloc (.cells #[.slice (some ⟨g1, 0, none⟩) cols cols, .bool false] 50)) w7 := Mod.of_grown hg (fun b hb => by simp [hb])
                have hnc : NoCel (W3.alloc (.cells #[.slice (some ⟨g1, 0, none⟩) cols cols, .bool false] 50)) (Value.slice A6 p c6).ownBlock.toList := fun b hb cs f he => by
                  obtain ⟨cur, hc⟩ := own_block HRX.out.1 (Option.mem_toList.1 hb)
                  exact block_ne hc he (by decide) rfl
                have HL7 := Lib.hid (HL4.out.mod hmo hnc)
                have HB7 := Lib.hid (HBX.out.grown hg HBX.out.size (fun x hx => (HRX.out.1.lt x hx).1))
                have hln : lnV v' = p + 1 := by
                  rcases ho.2 with ⟨e, h0⟩ | ⟨g', c', cur, e, _⟩
                  · have := HP.out; omega
                  · rw [e]; show done.length + 1 = _; rw [HP.out]
                have HLN := Lib.hid hln
                simp only [Act.put, List.setIfInBounds_toArray, List.set_cons_zero, List.set_cons_succ]
                clear ho hg hv' hmo hnc hln hbx
                go_wp2
                go_roundw
                case rel =>
                  refine ⟨done ++ [⟨some ⟨g1, 0, none⟩, rowCs cols left, cols, false⟩], left.drop n, ⟨(some ⟨b, off + n * 8, none⟩), c5 - n, by rw [List.length_drop, HQ.out, HD.out], by rw [List.length_drop, HQ.out]; omega, HL7.out, fun h => absurd h (by simp)⟩, HRO.out, ?_, HB7.out⟩
                  rw [HRA.out, List.map_append, List.append_assoc]
                  congr 1
                  have hdec : decide (done ≠ []) = false := by have := HP.out; have := HP0.out; rw [decide_eq_false_iff_not]; intro h; apply h; exact List.length_eq_zero_iff.1 (by omega)
                  rw [hdec]
                  have hne : ¬ (done ++ [(⟨some ⟨g1, 0, none⟩, rowCs cols left, cols, false⟩ : Rh)] = []) := by simp
                  have hdec2 : decide (done ++ [(⟨some ⟨g1, 0, none⟩, rowCs cols left, cols, false⟩ : Rh)] ≠ []) = true := by simp
                  rw [hdec2, List.length_drop, HQ.out]
                  simp only [hne, false_or]
                  by_cases h : n < q
                  · rw [if_pos h, if_pos (show 0 < q - n by omega)]; rfl
                  · rw [if_neg h, if_neg (show ¬ 0 < q - n by omega)]; rfl
                case measure => show 2 * d + (if lnV v' = 0 then 1 else 0) < 2 * q + (if p = 0 then 1 else 0); have h1 := HLN.out; have h2 := HP0.out; have h4 := HD.out; rw [h1, if_neg (show ¬ p + 1 = 0 by omega)]; split <;> omega
            · have hdI : ¬ 0 < (d : Int) := by omega
              go_upto_region 12 with fail
              clear hcp
              have HO3 : Hid (CrO w2 w.heap.size g1 cols (rowCs cols left)) := Lib.hid (by rw [← rowCs_plain HNN.out (by rw [HQ.out]; omega)]; exact HO2.out)
              have HB3 := Lib.hid HB2.out
              obtain ⟨W3, hW3⟩ : ∃ W3, W3 = w2 := ⟨_, rfl⟩
              subst hW3
              have HL3 : Hid (RcAt W3 ⟨(some ⟨b, off2, none⟩), left.drop n, c5 - n, false⟩) := Lib.hid ((HR5'.out.below HB3.out).lasts (fun hlt => ⟨b, off, rfl, by rw [HADR.out (by rw [← HQ.out]; exact hlt)]⟩))
              have H63 := Lib.hid (H6.out.below HB3.out)
              have HBT := Lib.hid (below_tail HB.out HB3.out)
              have HRC3 : Hid (RcAt W3 ⟨some ⟨g1, 0, none⟩, rowCs cols left, cols, false⟩) := Lib.hid (.of_own HO3.out (by rw [rowCs_len HC.out.1]; have := HC.out.2; omega) (fine_row HFL.out) false)
              go_upto_region 12 with fail
              refine wp_region_lit ?_
              refine wpList_valG (.slice A6 p c6) (by rfl) (by rfl) ?_
              simp only [Act.put, List.setIfInBounds_toArray, List.set_cons_zero, List.set_cons_succ]
              refine wpList_valG (.slice (some ⟨g1, 0, none⟩) cols cols) (by rfl) (by rfl) ?_
              simp only [Act.put, List.setIfInBounds_toArray, List.set_cons_zero, List.set_cons_succ]
              refine wpList_valG (.slice A6 p c6) (by rfl) (by rfl) ?_
              simp only [Act.put, List.setIfInBounds_toArray, List.set_cons_zero, List.set_cons_succ]
              refine wpList_valG (.int .i64 (p : Int)) (by rfl) (by go_simp) ?_
              simp only [Act.put, List.setIfInBounds_toArray, List.set_cons_zero, List.set_cons_succ]
              refine wpList_valG (.bool false) (by rfl) (by go_simp) ?_
              simp only [Act.put, List.setIfInBounds_toArray, List.set_cons_zero, List.set_cons_succ]
              refine wpList_valG (.agg #[.slice (some ⟨g1, 0, none⟩) cols cols, .bool false]) (by rfl) (by go_simp) ?_
              simp only [Act.put, List.setIfInBounds_toArray, List.set_cons_zero, List.set_cons_succ]
              have hbx := below_allocs (Below.refl W3.heap.size W3) (.cells #[.slice (some ⟨g1, 0, none⟩) cols cols, .bool false] 50)
              refine wpList_actG (.slice (some ⟨W3.heap.size, 0, none⟩) 1 1) (W3.alloc (.cells #[.slice (some ⟨g1, 0, none⟩) cols cols, .bool false] 50)) (by rfl) (by go_simp) ?_
              simp only [Act.put, List.setIfInBounds_toArray, List.set_cons_zero, List.set_cons_succ]
              have HBX := Lib.hid (below_tail HBT.out hbx)
              have HRX := Lib.hid (H63.out.below hbx)
              have HRC4 := Lib.hid (HRC3.out.below hbx)
              have HL4 := Lib.hid (HL3.out.below hbx)
              refine wpList_append_g (o := ⟨some 55, _, _, _, _, _⟩) rfl (.tmp 48) (.tmp 54) 42 rfl w.heap.size 50 j1 _ 2 32 Tryz.underlying42 hj1 gy0 gy1 gy2 rfl (by decide) (.slice A6 p c6) done.length (flat encRh done) rfl HRX.out.1 ⟨W3.heap.size, 0, none⟩ 1 1 (encRh ⟨some ⟨g1, 0, none⟩, rowCs cols left, cols, false⟩) rfl rfl ?_ (encRh_one _) (by simp only [maxLen]; have := HP.out; omega) (by have := HP.out; omega) HBX.out.size ?_
              · intro j u hj
                rw [add_lit', Nat.zero_add]
                exact (at_ (hp_new rfl) j u (by simpa [encRh, rowCs_len HC.out.1] using hj)).1
              · intro v' w7 ho hg hv'
                have HRO := Lib.hid (HRX.out.push (r := ⟨some ⟨g1, 0, none⟩, rowCs cols left, cols, false⟩) ho hg HRC4.out (by rw [rowCs_len HC.out.1]; have := HC.out.1; omega))
                have hmo : Mod (Value.slice A6 p c6).ownBlock.toList (W3.alloc (.cells #[.slice (some ⟨g1, 0, none⟩) cols cols, .bool false] 50)) w7 := Mod.of_grown hg (fun b hb => by simp [hb])
                have hnc : NoCel (W3.alloc (.cells #[.slice (some ⟨g1, 0, none⟩) cols cols, .bool false] 50)) (Value.slice A6 p c6).ownBlock.toList := fun b hb cs f he => by
                  obtain ⟨cur, hc⟩ := own_block HRX.out.1 (Option.mem_toList.1 hb)
                  exact block_ne hc he (by decide) rfl
                have HL7 := Lib.hid (HL4.out.mod hmo hnc)
                have HB7 := Lib.hid (HBX.out.grown hg HBX.out.size (fun x hx => (HRX.out.1.lt x hx).1))
                have hln : lnV v' = p + 1 := by
                  rcases ho.2 with ⟨e, h0⟩ | ⟨g', c', cur, e, _⟩
                  · have := HP.out; omega
                  · rw [e]; show done.length + 1 = _; rw [HP.out]
                have HLN := Lib.hid hln
                simp only [Act.put, List.setIfInBounds_toArray, List.set_cons_zero, List.set_cons_succ]
                clear ho hg hv' hmo hnc hln hbx
                go_wp2
                go_roundw
                case rel =>
                  refine ⟨done ++ [⟨some ⟨g1, 0, none⟩, rowCs cols left, cols, false⟩], left.drop n, ⟨(some ⟨b, off2, none⟩), c5 - n, by rw [List.length_drop, HQ.out, HD.out], by rw [List.length_drop, HQ.out]; omega, HL7.out, fun h => absurd h (by simp)⟩, HRO.out, ?_, HB7.out⟩
                  rw [HRA.out, List.map_append, List.append_assoc]
                  congr 1
                  have hdec : decide (done ≠ []) = false := by have := HP.out; have := HP0.out; rw [decide_eq_false_iff_not]; intro h; apply h; exact List.length_eq_zero_iff.1 (by omega)
                  rw [hdec]
                  have hne : ¬ (done ++ [(⟨some ⟨g1, 0, none⟩, rowCs cols left, cols, false⟩ : Rh)] = []) := by simp
                  have hdec2 : decide (done ++ [(⟨some ⟨g1, 0, none⟩, rowCs cols left, cols, false⟩ : Rh)] ≠ []) = true := by simp
                  rw [hdec2, List.length_drop, HQ.out]
                  simp only [hne, false_or]
                  by_cases h : n < q
                  · rw [if_pos h, if_pos (show 0 < q - n by omega)]; rfl
                  · rw [if_neg h, if_neg (show ¬ 0 < q - n by omega)]; rfl
                case measure => show 2 * d + (if lnV v' = 0 then 1 else 0) < 2 * q + (if p = 0 then 1 else 0); have h1 := HLN.out; have h2 := HP0.out; have h4 := HD.out; rw [h1, if_neg (show ¬ p + 1 = 0 by omega)]; split <;> omega
          · have heq1 : ((n : Int) == (k1 : Int)) = false := beq_eq_false_iff_ne.2 (by omega)
            have hkz : ¬ (n : Int) = (k1 : Int) := by omega
            go_upto_region 12 with fail
            clear hcp
            have HO3 : Hid (CrO w2 w.heap.size g1 cols (rowCs cols left)) := Lib.hid (by rw [← rowCs_plain HNN.out (by rw [HQ.out]; omega)]; exact HO2.out)
            have HB3 := Lib.hid HB2.out
            obtain ⟨W3, hW3⟩ : ∃ W3, W3 = w2 := ⟨_, rfl⟩
            subst hW3
            have HL3 : Hid (RcAt W3 ⟨(some ⟨b, off2, none⟩), left.drop n, c5 - n, false⟩) := Lib.hid ((HR5'.out.below HB3.out).lasts (fun hlt => ⟨b, off, rfl, by rw [HADR.out (by rw [← HQ.out]; exact hlt)]⟩))
            have H63 := Lib.hid (H6.out.below HB3.out)
            have HBT := Lib.hid (below_tail HB.out HB3.out)
            have HRC3 : Hid (RcAt W3 ⟨some ⟨g1, 0, none⟩, rowCs cols left, cols, false⟩) := Lib.hid (.of_own HO3.out (by rw [rowCs_len HC.out.1]; have := HC.out.2; omega) (fine_row HFL.out) false)
            go_upto_region 12 with fail
            refine wp_region_lit ?_
            refine wpList_valG (.slice A6 p c6) (by rfl) (by rfl) ?_
            simp only [Act.put, List.setIfInBounds_toArray, List.set_cons_zero, List.set_cons_succ]
            refine wpList_valG (.slice (some ⟨g1, 0, none⟩) cols cols) (by rfl) (by rfl) ?_
            simp only [Act.put, List.setIfInBounds_toArray, List.set_cons_zero, List.set_cons_succ]
            refine wpList_valG (.slice A6 p c6) (by rfl) (by rfl) ?_
            simp only [Act.put, List.setIfInBounds_toArray, List.set_cons_zero, List.set_cons_succ]
            refine wpList_valG (.int .i64 (p : Int)) (by rfl) (by go_simp) ?_
            simp only [Act.put, List.setIfInBounds_toArray, List.set_cons_zero, List.set_cons_succ]
            refine wpList_valG (.bool false) (by rfl) (by go_simp) ?_
            simp only [Act.put, List.setIfInBounds_toArray, List.set_cons_zero, List.set_cons_succ]
            refine wpList_valG (.agg #[.slice (some ⟨g1, 0, none⟩) cols cols, .bool false]) (by rfl) (by go_simp) ?_
            simp only [Act.put, List.setIfInBounds_toArray, List.set_cons_zero, List.set_cons_succ]
            have hbx := below_allocs (Below.refl W3.heap.size W3) (.cells #[.slice (some ⟨g1, 0, none⟩) cols cols, .bool false] 50)
            refine wpList_actG (.slice (some ⟨W3.heap.size, 0, none⟩) 1 1) (W3.alloc (.cells #[.slice (some ⟨g1, 0, none⟩) cols cols, .bool false] 50)) (by rfl) (by go_simp) ?_
            simp only [Act.put, List.setIfInBounds_toArray, List.set_cons_zero, List.set_cons_succ]
            have HBX := Lib.hid (below_tail HBT.out hbx)
            have HRX := Lib.hid (H63.out.below hbx)
            have HRC4 := Lib.hid (HRC3.out.below hbx)
            have HL4 := Lib.hid (HL3.out.below hbx)
            refine wpList_append_g (o := ⟨some 55, _, _, _, _, _⟩) rfl (.tmp 48) (.tmp 54) 42 rfl w.heap.size 50 j1 _ 2 32 Tryz.underlying42 hj1 gy0 gy1 gy2 rfl (by decide) (.slice A6 p c6) done.length (flat encRh done) rfl HRX.out.1 ⟨W3.heap.size, 0, none⟩ 1 1 (encRh ⟨some ⟨g1, 0, none⟩, rowCs cols left, cols, false⟩) rfl rfl ?_ (encRh_one _) (by simp only [maxLen]; have := HP.out; omega) (by have := HP.out; omega) HBX.out.size ?_
            · intro j u hj
              rw [add_lit', Nat.zero_add]
              exact (at_ (hp_new rfl) j u (by simpa [encRh, rowCs_len HC.out.1] using hj)).1
            · intro v' w7 ho hg hv'
              have HRO := Lib.hid (HRX.out.push (r := ⟨some ⟨g1, 0, none⟩, rowCs cols left, cols, false⟩) ho hg HRC4.out (by rw [rowCs_len HC.out.1]; have := HC.out.1; omega))
              have hmo : Mod (Value.slice A6 p c6).ownBlock.toList (W3.alloc (.cells #[.slice (some ⟨g1, 0, none⟩) cols cols, .bool false] 50)) w7 := Mod.of_grown hg (fun b hb => by simp [hb])
              have hnc : NoCel (W3.alloc (.cells #[.slice (some ⟨g1, 0, none⟩) cols cols, .bool false] 50)) (Value.slice A6 p c6).ownBlock.toList := fun b hb cs f he => by
                obtain ⟨cur, hc⟩ := own_block HRX.out.1 (Option.mem_toList.1 hb)
                exact block_ne hc he (by decide) rfl
              have HL7 := Lib.hid (HL4.out.mod hmo hnc)
              have HB7 := Lib.hid (HBX.out.grown hg HBX.out.size (fun x hx => (HRX.out.1.lt x hx).1))
              have hln : lnV v' = p + 1 := by
                rcases ho.2 with ⟨e, h0⟩ | ⟨g', c', cur, e, _⟩
                · have := HP.out; omega
                · rw [e]; show done.length + 1 = _; rw [HP.out]
              have HLN := Lib.hid hln
              simp only [Act.put, List.setIfInBounds_toArray, List.set_cons_zero, List.set_cons_succ]
              clear ho hg hv' hmo hnc hln hbx
              go_wp2
              go_roundw
              case rel =>
                refine ⟨done ++ [⟨some ⟨g1, 0, none⟩, rowCs cols left, cols, false⟩], left.drop n, ⟨(some ⟨b, off2, none⟩), c5 - n, by rw [List.length_drop, HQ.out, HD.out], by rw [List.length_drop, HQ.out]; omega, HL7.out, fun h => absurd h (by simp)⟩, HRO.out, ?_, HB7.out⟩
                rw [HRA.out, List.map_append, List.append_assoc]
                congr 1
                have hdec : decide (done ≠ []) = false := by have := HP.out; have := HP0.out; rw [decide_eq_false_iff_not]; intro h; apply h; exact List.length_eq_zero_iff.1 (by omega)
                rw [hdec]
                have hne : ¬ (done ++ [(⟨some ⟨g1, 0, none⟩, rowCs cols left, cols, false⟩ : Rh)] = []) := by simp
                have hdec2 : decide (done ++ [(⟨some ⟨g1, 0, none⟩, rowCs cols left, cols, false⟩ : Rh)] ≠ []) = true := by simp
                rw [hdec2, List.length_drop, HQ.out]
                simp only [hne, false_or]
                by_cases h : n < q
                · rw [if_pos h, if_pos (show 0 < q - n by omega)]; rfl
                · rw [if_neg h, if_neg (show ¬ 0 < q - n by omega)]; rfl
              case measure => show 2 * d + (if lnV v' = 0 then 1 else 0) < 2 * q + (if p = 0 then 1 else 0); have h1 := HLN.out; have h2 := HP0.out; have h4 := HD.out; rw [h1, if_neg (show ¬ p + 1 = 0 by omega)]; split <;> omega
        · have hp0b : ((p : Int) == 0) = false := beq_eq_false_iff_ne.2 (by omega)
          have hpn : ¬ (p : Int) = 0 := by omega
          have hpN : 0 < p := by omega
          have HP0 := Lib.hid hp0
          clear hp hp0
          go_upto_region 8 with (first
            | (go_at_call 132; (with_reducible refine HTAKE.out.mono ?_); rintro e w9 ⟨rfl, rfl⟩)
            | (refine wpList_make_full _ rfl (.tmp 25) (.tmp 25) _ rfl w.heap.size 109 j0 _ 8 Tryz.underlying48 hj gz0 gz1 .i64 .i64 _ _ cols rfl rfl ?_ ?_ ?_ ?_ ?_ ?_))
          all_goals first
            | rfl
            | omega
            | (simp only [maxLen]; omega)
            | (rw [gz2]; omega)
            | (simp; done)
            | exact HB.out.size
            | skip
          intro w1 hown hg
          have HG := Lib.hid hg
          have e := made_flat zC cols
          have HO1 : Hid (CrO w1 w.heap.size wr.heap.size cols (List.replicate cols zC)) := Lib.hid (by unfold CrO; rw [List.length_replicate, ← e]; exact hown)
          have HB1 := Lib.hid (show Below wr.heap.size wr w1 from (Below.refl _ _).grown HG.out (Nat.le_refl _) (fun k hk => by cases hk))
          obtain ⟨w2, hcp, hO2, hM2⟩ := copy_into (n := n) (c := c5) HO1.out (HG5.out.below HB1.out) (by rw [HQ.out]; omega) (by rw [List.length_replicate]; omega)
          rw [List.length_replicate] at hcp
          have HO2 := Lib.hid hO2
          have HB2 := Lib.hid (HB1.out.trans (hM2.below (B := wr.heap.size) (fun x hx => by rw [List.mem_singleton.1 hx]; exact Nat.le_refl _) HB1.out.size))
          clear hown hg e hO2 hM2
          obtain ⟨g1, hg1⟩ : ∃ g1, wr.heap.size = g1 := ⟨_, rfl⟩
          rw [hg1] at hcp HO2 ⊢
          have HG1 := Lib.hid hg1
          clear hg1
          obtain ⟨off2, hoff, hoff2⟩ : ∃ off2, (if c5 = n then (some ⟨b, off, none⟩ : Option Addr) else some ⟨b, off + n * 8, none⟩) = some ⟨b, off2, none⟩ ∧ (n < c5 → off2 = off + n * 8) := by
            by_cases h : c5 = n
            · exact ⟨off, if_pos h, fun h2 => by omega⟩
            · exact ⟨off + n * 8, if_neg h, fun _ => rfl⟩
          have HADR : Hid (n < q → off2 = off + n * 8) := Lib.hid (fun h => hoff2 (by omega))
          obtain ⟨d, hd⟩ : ∃ d, q - n = d := ⟨_, rfl⟩
          have HD := Lib.hid hd
          clear hoff2
          by_cases hnk : n = k1
          · have heq1 : ((n : Int) == (k1 : Int)) = true := by simp [hnk]
            have HNK := Lib.hid hnk
            clear hnk
            by_cases hd0 : 0 < d
            · have hdI : 0 < (d : Int) := by omega
              have hncI : (n : Int) < (cols : Int) := by have := HNK.out; omega
              obtain ⟨y0, y0f⟩ := (HO2.out.pad (n := n) (by have := HNK.out; omega) (by rw [HQ.out]; omega)).1
              have HO3 : Hid (CrO (w2.setCell ⟨g1, n * 8 + 2, none⟩ (.int .i64 3)) w.heap.size g1 cols (rowCs cols left)) := Lib.hid (by rw [← rowCs_padded HNN.out ⟨by have := HNK.out; omega, by rw [HQ.out]; omega⟩]; exact (HO2.out.pad (n := n) (by have := HNK.out; omega) (by rw [HQ.out]; omega)).2)
              have HB3 := Lib.hid (below_set HB2.out (show wr.heap.size ≤ g1 from Nat.le_of_eq HG1.out) (o := n * 8 + 2) (.int .i64 3))
              go_upto_region 12 with fail
              clear hcp y0 y0f
              generalize World.setCell _ _ _ = W3 at HO3 HB3 ⊢
              have HL3 : Hid (RcAt W3 ⟨(some ⟨b, off + n * 8, none⟩), left.drop n, c5 - n, false⟩) := Lib.hid ((HR5'.out.below HB3.out).lasts (fun hlt => ⟨b, off, rfl, rfl⟩))
              have H63 := Lib.hid (H6.out.below HB3.out)
              have HBT := Lib.hid (below_tail HB.out HB3.out)
              have HRC3 : Hid (RcAt W3 ⟨some ⟨g1, 0, none⟩, rowCs cols left, cols, true⟩) := Lib.hid (.of_own HO3.out (by rw [rowCs_len HC.out.1]; have := HC.out.2; omega) (fine_row HFL.out) true)
              go_upto_region 12 with fail
              refine wp_region_lit ?_
              refine wpList_valG (.slice A6 p c6) (by rfl) (by rfl) ?_
              simp only [Act.put, List.setIfInBounds_toArray, List.set_cons_zero, List.set_cons_succ]
              refine wpList_valG (.slice (some ⟨g1, 0, none⟩) cols cols) (by rfl) (by rfl) ?_
              simp only [Act.put, List.setIfInBounds_toArray, List.set_cons_zero, List.set_cons_succ]
              refine wpList_valG (.slice A6 p c6) (by rfl) (by rfl) ?_
              simp only [Act.put, List.setIfInBounds_toArray, List.set_cons_zero, List.set_cons_succ]
              refine wpList_valG (.int .i64 (p : Int)) (by rfl) (by go_simp) ?_
              simp only [Act.put, List.setIfInBounds_toArray, List.set_cons_zero, List.set_cons_succ]
              refine wpList_valG (.bool true) (by rfl) (by go_simp) ?_
              simp only [Act.put, List.setIfInBounds_toArray, List.set_cons_zero, List.set_cons_succ]
              refine wpList_valG (.agg #[.slice (some ⟨g1, 0, none⟩) cols cols, .bool true]) (by rfl) (by go_simp) ?_
              simp only [Act.put, List.setIfInBounds_toArray, List.set_cons_zero, List.set_cons_succ]
              have hbx := below_allocs (Below.refl W3.heap.size W3) (.cells #[.slice (some ⟨g1, 0, none⟩) cols cols, .bool true] 50)
              refine wpList_actG (.slice (some ⟨W3.heap.size, 0, none⟩) 1 1) (W3.alloc (.cells #[.slice (some ⟨g1, 0, none⟩) cols cols, .bool true] 50)) (by rfl) (by go_simp) ?_
              simp only [Act.put, List.setIfInBounds_toArray, List.set_cons_zero, List.set_cons_succ]
              have HBX := Lib.hid (below_tail HBT.out hbx)
              have HRX := Lib.hid (H63.out.below hbx)
              have HRC4 := Lib.hid (HRC3.out.below hbx)
              have HL4 := Lib.hid (HL3.out.below hbx)
              refine wpList_append_g (o := ⟨some 55, _, _, _, _, _⟩) rfl (.tmp 48) (.tmp 54) 42 rfl w.heap.size 50 j1 _ 2 32 Tryz.underlying42 hj1 gy0 gy1 gy2 rfl (by decide) (.slice A6 p c6) done.length (flat encRh done) rfl HRX.out.1 ⟨W3.heap.size, 0, none⟩ 1 1 (encRh ⟨some ⟨g1, 0, none⟩, rowCs cols left, cols, true⟩) rfl rfl ?_ (encRh_one _) (by simp only [maxLen]; have := HP.out; omega) (by have := HP.out; omega) HBX.out.size ?_
              · intro j u hj
                rw [add_lit', Nat.zero_add]
                exact (at_ (hp_new rfl) j u (by simpa [encRh, rowCs_len HC.out.1] using hj)).1
              · intro v' w7 ho hg hv'
                have HRO := Lib.hid (HRX.out.push (r := ⟨some ⟨g1, 0, none⟩, rowCs cols left, cols, true⟩) ho hg HRC4.out (by rw [rowCs_len HC.out.1]; have := HC.out.1; omega))
                have hmo : Mod (Value.slice A6 p c6).ownBlock.toList (W3.alloc (.cells #[.slice (some ⟨g1, 0, none⟩) cols cols, .bool true] 50)) w7 := Mod.of_grown hg (fun b hb => by simp [hb])
                have hnc : NoCel (W3.alloc (.cells #[.slice (some ⟨g1, 0, none⟩) cols cols, .bool true] 50)) (Value.slice A6 p c6).ownBlock.toList := fun b hb cs f he => by
                  obtain ⟨cur, hc⟩ := own_block HRX.out.1 (Option.mem_toList.1 hb)
                  exact block_ne hc he (by decide) rfl
                have HL7 := Lib.hid (HL4.out.mod hmo hnc)
                have HB7 := Lib.hid (HBX.out.grown hg HBX.out.size (fun x hx => (HRX.out.1.lt x hx).1))
                have hln : lnV v' = p + 1 := by
                  rcases ho.2 with ⟨e, h0⟩ | ⟨g', c', cur, e, _⟩
                  · have := HP.out; omega
                  · rw [e]; show done.length + 1 = _; rw [HP.out]
                have HLN := Lib.hid hln
                simp only [Act.put, List.setIfInBounds_toArray, List.set_cons_zero, List.set_cons_succ]
                clear ho hg hv' hmo hnc hln hbx
                go_wp2
                go_roundw
                case rel =>
                  refine ⟨done ++ [⟨some ⟨g1, 0, none⟩, rowCs cols left, cols, true⟩], left.drop n, ⟨(some ⟨b, off + n * 8, none⟩), c5 - n, by rw [List.length_drop, HQ.out, HD.out], by rw [List.length_drop, HQ.out]; omega, HL7.out, fun h => absurd h (by simp)⟩, HRO.out, ?_, HB7.out⟩
                  rw [HRA.out, List.map_append, List.append_assoc]
                  congr 1
                  have hdec : decide (done ≠ []) = true := by have h1 := HP.out; have h2 := HP0.out; rw [decide_eq_true_eq]; intro h; rw [h] at h1; exact h2 h1.symm
                  rw [hdec]
                  have hne : ¬ (done ++ [(⟨some ⟨g1, 0, none⟩, rowCs cols left, cols, true⟩ : Rh)] = []) := by simp
                  have hdec2 : decide (done ++ [(⟨some ⟨g1, 0, none⟩, rowCs cols left, cols, true⟩ : Rh)] ≠ []) = true := by simp
                  rw [hdec2, List.length_drop, HQ.out]
                  simp only [hne, false_or]
                  by_cases h : n < q
                  · rw [if_pos h, if_pos (show 0 < q - n by omega)]; rfl
                  · rw [if_neg h, if_neg (show ¬ 0 < q - n by omega)]; rfl
                case measure => show 2 * d + (if lnV v' = 0 then 1 else 0) < 2 * q + (if p = 0 then 1 else 0); have h1 := HLN.out; have h2 := HP0.out; have h4 := HD.out; rw [h1, if_neg (show ¬ p + 1 = 0 by omega)]; split <;> omega
            · have hdI : ¬ 0 < (d : Int) := by omega
              go_upto_region 12 with fail
              clear hcp
              have HO3 : Hid (CrO w2 w.heap.size g1 cols (rowCs cols left)) := Lib.hid (by rw [← rowCs_plain HNN.out (by rw [HQ.out]; omega)]; exact HO2.out)
              have HB3 := Lib.hid HB2.out
              obtain ⟨W3, hW3⟩ : ∃ W3, W3 = w2 := ⟨_, rfl⟩
              subst hW3
              have HL3 : Hid (RcAt W3 ⟨(some ⟨b, off2, none⟩), left.drop n, c5 - n, false⟩) := Lib.hid ((HR5'.out.below HB3.out).lasts (fun hlt => ⟨b, off, rfl, by rw [HADR.out (by rw [← HQ.out]; exact hlt)]⟩))
              have H63 := Lib.hid (H6.out.below HB3.out)
              have HBT := Lib.hid (below_tail HB.out HB3.out)
              have HRC3 : Hid (RcAt W3 ⟨some ⟨g1, 0, none⟩, rowCs cols left, cols, true⟩) := Lib.hid (.of_own HO3.out (by rw [rowCs_len HC.out.1]; have := HC.out.2; omega) (fine_row HFL.out) true)
              go_upto_region 12 with fail
              refine wp_region_lit ?_
              refine wpList_valG (.slice A6 p c6) (by rfl) (by rfl) ?_
              simp only [Act.put, List.setIfInBounds_toArray, List.set_cons_zero, List.set_cons_succ]
              refine wpList_valG (.slice (some ⟨g1, 0, none⟩) cols cols) (by rfl) (by rfl) ?_
              simp only [Act.put, List.setIfInBounds_toArray, List.set_cons_zero, List.set_cons_succ]
              refine wpList_valG (.slice A6 p c6) (by rfl) (by rfl) ?_
              simp only [Act.put, List.setIfInBounds_toArray, List.set_cons_zero, List.set_cons_succ]
              refine wpList_valG (.int .i64 (p : Int)) (by rfl) (by go_simp) ?_
              simp only [Act.put, List.setIfInBounds_toArray, List.set_cons_zero, List.set_cons_succ]
              refine wpList_valG (.bool true) (by rfl) (by go_simp) ?_
              simp only [Act.put, List.setIfInBounds_toArray, List.set_cons_zero, List.set_cons_succ]
              refine wpList_valG (.agg #[.slice (some ⟨g1, 0, none⟩) cols cols, .bool true]) (by rfl) (by go_simp) ?_
              simp only [Act.put, List.setIfInBounds_toArray, List.set_cons_zero, List.set_cons_succ]
              have hbx := below_allocs (Below.refl W3.heap.size W3) (.cells #[.slice (some ⟨g1, 0, none⟩) cols cols, .bool true] 50)
              refine wpList_actG (.slice (some ⟨W3.heap.size, 0, none⟩) 1 1) (W3.alloc (.cells #[.slice (some ⟨g1, 0, none⟩) cols cols, .bool true] 50)) (by rfl) (by go_simp) ?_
              simp only [Act.put, List.setIfInBounds_toArray, List.set_cons_zero, List.set_cons_succ]
              have HBX := Lib.hid (below_tail HBT.out hbx)
              have HRX := Lib.hid (H63.out.below hbx)
              have HRC4 := Lib.hid (HRC3.out.below hbx)
              have HL4 := Lib.hid (HL3.out.below hbx)
              refine wpList_append_g (o := ⟨some 55, _, _, _, _, _⟩) rfl (.tmp 48) (.tmp 54) 42 rfl w.heap.size 50 j1 _ 2 32 Tryz.underlying42 hj1 gy0 gy1 gy2 rfl (by decide) (.slice A6 p c6) done.length (flat encRh done) rfl HRX.out.1 ⟨W3.heap.size, 0, none⟩ 1 1 (encRh ⟨some ⟨g1, 0, none⟩, rowCs cols left, cols, true⟩) rfl rfl ?_ (encRh_one _) (by simp only [maxLen]; have := HP.out; omega) (by have := HP.out; omega) HBX.out.size ?_
              · intro j u hj
                rw [add_lit', Nat.zero_add]
                exact (at_ (hp_new rfl) j u (by simpa [encRh, rowCs_len HC.out.1] using hj)).1
              · intro v' w7 ho hg hv'
                have HRO := Lib.hid (HRX.out.push (r := ⟨some ⟨g1, 0, none⟩, rowCs cols left, cols, true⟩) ho hg HRC4.out (by rw [rowCs_len HC.out.1]; have := HC.out.1; omega))
                have hmo : Mod (Value.slice A6 p c6).ownBlock.toList (W3.alloc (.cells #[.slice (some ⟨g1, 0, none⟩) cols cols, .bool true] 50)) w7 := Mod.of_grown hg (fun b hb => by simp [hb])
                have hnc : NoCel (W3.alloc (.cells #[.slice (some ⟨g1, 0, none⟩) cols cols, .bool true] 50)) (Value.slice A6 p c6).ownBlock.toList := fun b hb cs f he => by
                  obtain ⟨cur, hc⟩ := own_block HRX.out.1 (Option.mem_toList.1 hb)
                  exact block_ne hc he (by decide) rfl
                have HL7 := Lib.hid (HL4.out.mod hmo hnc)
                have HB7 := Lib.hid (HBX.out.grown hg HBX.out.size (fun x hx => (HRX.out.1.lt x hx).1))
                have hln : lnV v' = p + 1 := by
                  rcases ho.2 with ⟨e, h0⟩ | ⟨g', c', cur, e, _⟩
                  · have := HP.out; omega
                  · rw [e]; show done.length + 1 = _; rw [HP.out]
                have HLN := Lib.hid hln
                simp only [Act.put, List.setIfInBounds_toArray, List.set_cons_zero, List.set_cons_succ]
                clear ho hg hv' hmo hnc hln hbx
                go_wp2
                go_roundw
                case rel =>
                  refine ⟨done ++ [⟨some ⟨g1, 0, none⟩, rowCs cols left, cols, true⟩], left.drop n, ⟨(some ⟨b, off2, none⟩), c5 - n, by rw [List.length_drop, HQ.out, HD.out], by rw [List.length_drop, HQ.out]; omega, HL7.out, fun h => absurd h (by simp)⟩, HRO.out, ?_, HB7.out⟩
                  rw [HRA.out, List.map_append, List.append_assoc]
                  congr 1
                  have hdec : decide (done ≠ []) = true := by have h1 := HP.out; have h2 := HP0.out; rw [decide_eq_true_eq]; intro h; rw [h] at h1; exact h2 h1.symm
                  rw [hdec]
                  have hne : ¬ (done ++ [(⟨some ⟨g1, 0, none⟩, rowCs cols left, cols, true⟩ : Rh)] = []) := by simp
                  have hdec2 : decide (done ++ [(⟨some ⟨g1, 0, none⟩, rowCs cols left, cols, true⟩ : Rh)] ≠ []) = true := by simp
                  rw [hdec2, List.length_drop, HQ.out]
                  simp only [hne, false_or]
                  by_cases h : n < q
                  · rw [if_pos h, if_pos (show 0 < q - n by omega)]; rfl
                  · rw [if_neg h, if_neg (show ¬ 0 < q - n by omega)]; rfl
                case measure => show 2 * d + (if lnV v' = 0 then 1 else 0) < 2 * q + (if p = 0 then 1 else 0); have h1 := HLN.out; have h2 := HP0.out; have h4 := HD.out; rw [h1, if_neg (show ¬ p + 1 = 0 by omega)]; split <;> omega
          · have heq1 : ((n : Int) == (k1 : Int)) = false := beq_eq_false_iff_ne.2 (by omega)
            have hkz : ¬ (n : Int) = (k1 : Int) := by omega
            go_upto_region 12 with fail
            clear hcp
            have HO3 : Hid (CrO w2 w.heap.size g1 cols (rowCs cols left)) := Lib.hid (by rw [← rowCs_plain HNN.out (by rw [HQ.out]; omega)]; exact HO2.out)
            have HB3 := Lib.hid HB2.out
            obtain ⟨W3, hW3⟩ : ∃ W3, W3 = w2 := ⟨_, rfl⟩
            subst hW3
            have HL3 : Hid (RcAt W3 ⟨(some ⟨b, off2, none⟩), left.drop n, c5 - n, false⟩) := Lib.hid ((HR5'.out.below HB3.out).lasts (fun hlt => ⟨b, off, rfl, by rw [HADR.out (by rw [← HQ.out]; exact hlt)]⟩))
            have H63 := Lib.hid (H6.out.below HB3.out)
            have HBT := Lib.hid (below_tail HB.out HB3.out)
            have HRC3 : Hid (RcAt W3 ⟨some ⟨g1, 0, none⟩, rowCs cols left, cols, true⟩) := Lib.hid (.of_own HO3.out (by rw [rowCs_len HC.out.1]; have := HC.out.2; omega) (fine_row HFL.out) true)
            go_upto_region 12 with fail
            refine wp_region_lit ?_
            refine wpList_valG (.slice A6 p c6) (by rfl) (by rfl) ?_
            simp only [Act.put, List.setIfInBounds_toArray, List.set_cons_zero, List.set_cons_succ]
            refine wpList_valG (.slice (some ⟨g1, 0, none⟩) cols cols) (by rfl) (by rfl) ?_
            simp only [Act.put, List.setIfInBounds_toArray, List.set_cons_zero, List.set_cons_succ]
            refine wpList_valG (.slice A6 p c6) (by rfl) (by rfl) ?_
            simp only [Act.put, List.setIfInBounds_toArray, List.set_cons_zero, List.set_cons_succ]
            refine wpList_valG (.int .i64 (p : Int)) (by rfl) (by go_simp) ?_
            simp only [Act.put, List.setIfInBounds_toArray, List.set_cons_zero, List.set_cons_succ]
            refine wpList_valG (.bool true) (by rfl) (by go_simp) ?_
            simp only [Act.put, List.setIfInBounds_toArray, List.set_cons_zero, List.set_cons_succ]
            refine wpList_valG (.agg #[.slice (some ⟨g1, 0, none⟩) cols cols, .bool true]) (by rfl) (by go_simp) ?_
            simp only [Act.put, List.setIfInBounds_toArray, List.set_cons_zero, List.set_cons_succ]
            have hbx := below_allocs (Below.refl W3.heap.size W3) (.cells #[.slice (some ⟨g1, 0, none⟩) cols cols, .bool true] 50)
            refine wpList_actG (.slice (some ⟨W3.heap.size, 0, none⟩) 1 1) (W3.alloc (.cells #[.slice (some ⟨g1, 0, none⟩) cols cols, .bool true] 50)) (by rfl) (by go_simp) ?_
            simp only [Act.put, List.setIfInBounds_toArray, List.set_cons_zero, List.set_cons_succ]
            have HBX := Lib.hid (below_tail HBT.out hbx)
            have HRX := Lib.hid (H63.out.below hbx)
            have HRC4 := Lib.hid (HRC3.out.below hbx)
            have HL4 := Lib.hid (HL3.out.below hbx)
            refine wpList_append_g (o := ⟨some 55, _, _, _, _, _⟩) rfl (.tmp 48) (.tmp 54) 42 rfl w.heap.size 50 j1 _ 2 32 Tryz.underlying42 hj1 gy0 gy1 gy2 rfl (by decide) (.slice A6 p c6) done.length (flat encRh done) rfl HRX.out.1 ⟨W3.heap.size, 0, none⟩ 1 1 (encRh ⟨some ⟨g1, 0, none⟩, rowCs cols left, cols, true⟩) rfl rfl ?_ (encRh_one _) (by simp only [maxLen]; have := HP.out; omega) (by have := HP.out; omega) HBX.out.size ?_
            · intro j u hj
              rw [add_lit', Nat.zero_add]
              exact (at_ (hp_new rfl) j u (by simpa [encRh, rowCs_len HC.out.1] using hj)).1
            · intro v' w7 ho hg hv'
              have HRO := Lib.hid (HRX.out.push (r := ⟨some ⟨g1, 0, none⟩, rowCs cols left, cols, true⟩) ho hg HRC4.out (by rw [rowCs_len HC.out.1]; have := HC.out.1; omega))
              have hmo : Mod (Value.slice A6 p c6).ownBlock.toList (W3.alloc (.cells #[.slice (some ⟨g1, 0, none⟩) cols cols, .bool true] 50)) w7 := Mod.of_grown hg (fun b hb => by simp [hb])
              have hnc : NoCel (W3.alloc (.cells #[.slice (some ⟨g1, 0, none⟩) cols cols, .bool true] 50)) (Value.slice A6 p c6).ownBlock.toList := fun b hb cs f he => by
                obtain ⟨cur, hc⟩ := own_block HRX.out.1 (Option.mem_toList.1 hb)
                exact block_ne hc he (by decide) rfl
              have HL7 := Lib.hid (HL4.out.mod hmo hnc)
              have HB7 := Lib.hid (HBX.out.grown hg HBX.out.size (fun x hx => (HRX.out.1.lt x hx).1))
              have hln : lnV v' = p + 1 := by
                rcases ho.2 with ⟨e, h0⟩ | ⟨g', c', cur, e, _⟩
                · have := HP.out; omega
                · rw [e]; show done.length + 1 = _; rw [HP.out]
              have HLN := Lib.hid hln
              simp only [Act.put, List.setIfInBounds_toArray, List.set_cons_zero, List.set_cons_succ]
              clear ho hg hv' hmo hnc hln hbx
              go_wp2
              go_roundw
              case rel =>
                refine ⟨done ++ [⟨some ⟨g1, 0, none⟩, rowCs cols left, cols, true⟩], left.drop n, ⟨(some ⟨b, off2, none⟩), c5 - n, by rw [List.length_drop, HQ.out, HD.out], by rw [List.length_drop, HQ.out]; omega, HL7.out, fun h => absurd h (by simp)⟩, HRO.out, ?_, HB7.out⟩
                rw [HRA.out, List.map_append, List.append_assoc]
                congr 1
                have hdec : decide (done ≠ []) = true := by have h1 := HP.out; have h2 := HP0.out; rw [decide_eq_true_eq]; intro h; rw [h] at h1; exact h2 h1.symm
                rw [hdec]
                have hne : ¬ (done ++ [(⟨some ⟨g1, 0, none⟩, rowCs cols left, cols, true⟩ : Rh)] = []) := by simp
                have hdec2 : decide (done ++ [(⟨some ⟨g1, 0, none⟩, rowCs cols left, cols, true⟩ : Rh)] ≠ []) = true := by simp
                rw [hdec2, List.length_drop, HQ.out]
                simp only [hne, false_or]
                by_cases h : n < q
                · rw [if_pos h, if_pos (show 0 < q - n by omega)]; rfl
                · rw [if_neg h, if_neg (show ¬ 0 < q - n by omega)]; rfl
              case measure => show 2 * d + (if lnV v' = 0 then 1 else 0) < 2 * q + (if p = 0 then 1 else 0); have h1 := HLN.out; have h2 := HP0.out; have h4 := HD.out; rw [h1, if_neg (show ¬ p + 1 = 0 by omega)]; split <;> omega
end Go.Proofs.YtffdblmdelgkaaaGreat

namespace Go.Proofs.YtffdblmdelgkaaaGreat
open Go.RowKit
theorem groupsL_ext (r : Ro) (hr : r.cont = true) : ∀ pre : List Ro, pre ≠ [] → ∃ G g, groupsL pre = G ++ [g] ∧ groupsL (pre ++ [r]) = G ++ [g ++ [r]]
  | [], h => absurd rfl h
  | [x], _ => ⟨[], [x], by simp [groupsL], by simp [groupsL, hr]⟩
  | x :: y :: l, _ => by
    obtain ⟨G, g, h1, h2⟩ := groupsL_ext r hr (y :: l) (by simp)
    rw [groupsL, h1, List.cons_append, groupsL, h2]
    cases G with
    | nil =>
      by_cases hy : y.cont = true
      · exact ⟨[], x :: g, by simp [hy], by simp [hy]⟩
      · exact ⟨[[x]], g, by simp [hy], by simp [hy]⟩
    | cons h G =>
      by_cases hy : y.cont = true
      · exact ⟨(x :: h) :: G, g, by simp [hy], by simp [hy]⟩
      · exact ⟨[x] :: h :: G, g, by simp [hy], by simp [hy]⟩
def linesI (L : List Ro) (i : Nat) : List (Nat × Nat) := ivs 0 (groupsL (L.take i))
theorem groups_len (l : List Ro) : (groupsL l).flatten.length = l.length := by rw [groupsL_flat]
theorem linesI_push {L : List Ro} {i : Nat} {r : Ro} (h : L[i]? = some r) (hc : r.cont = false ∨ i = 0) : linesI L (i + 1) = linesI L i ++ [(i, i + 1)] := by
  have hi := (List.getElem?_eq_some_iff.1 h).1
  unfold linesI
  rw [List.take_add_one, h]
  have e : groupsL (L.take i ++ [r]) = groupsL (L.take i) ++ [[r]] := by
    rcases hc with hc | hc
    · have := groupsL_cut (L.take i) [r] (fun x hx => by simp at hx; rw [← hx]; exact hc)
      rw [this]; rfl
    · rw [hc]; rfl
  show ivs 0 (groupsL (L.take i ++ [r])) = _
  rw [e, ivs_append, groups_len, List.length_take, Nat.min_eq_left (by omega)]
  simp [ivs]
theorem linesI_ext {L : List Ro} {i : Nat} {r : Ro} (h : L[i]? = some r) (hc : r.cont = true) (h0 : 0 < i) : ∃ V a, linesI L i = V ++ [(a, i)] ∧ linesI L (i + 1) = V ++ [(a, i + 1)] := by
  have hi := (List.getElem?_eq_some_iff.1 h).1
  unfold linesI
  obtain ⟨G, g, h1, h2⟩ := groupsL_ext r hc (L.take i) (by intro e; have := congrArg List.length e; rw [List.length_take, List.length_nil] at this; omega)
  have hl := groups_len (L.take i)
  rw [h1, List.flatten_append, List.length_append, List.length_take, Nat.min_eq_left (by omega)] at hl
  rw [List.take_add_one, h]
  refine ⟨ivs 0 G, 0 + G.flatten.length, ?_, ?_⟩
  · rw [h1, ivs_append, ivs, ivs]
    simp at hl ⊢; omega
  · show ivs 0 (groupsL (L.take i ++ [r])) = _
    rw [h2, ivs_append, ivs, ivs]
    simp at hl ⊢; omega
theorem ivs_len : ∀ (a : Nat) (G : List (List Ro)), (ivs a G).length = G.length
  | _, [] => rfl
  | a, g :: G => by rw [ivs, List.length_cons, ivs_len, List.length_cons]
theorem groupsL_len_le : ∀ l : List Ro, (groupsL l).length ≤ l.length
  | [] => Nat.le_refl _
  | r :: l => by
    have := groupsL_len_le l
    rw [groupsL]
    split
    · simp
    · next g gs h =>
      rw [h] at this
      split <;> simp at * <;> omega
theorem linesI_len (L : List Ro) (i : Nat) : (linesI L i).length ≤ i := by
  unfold linesI
  rw [ivs_len]
  have := groupsL_len_le (L.take i)
  rw [List.length_take] at this
  omega
theorem linesI_pos {L : List Ro} {i : Nat} (h0 : 0 < i) (hi : i ≤ L.length) : 0 < (linesI L i).length := by
  unfold linesI
  rw [ivs_len, List.length_pos_iff]
  intro e
  have := (groupsL_nil_iff _).1 e
  have := congrArg List.length this
  rw [List.length_take, List.length_nil] at this; omega
def encIv (p : Nat × Nat) : List Value := [.int .i64 p.1, .int .i64 p.2]
theorem encIv_len : ∀ p, (encIv p).length = 2 := fun _ => rfl
theorem encIv_one : ∀ p, ∀ v ∈ encIv p, v.oneCell' = true := fun p v hv => by
  simp only [encIv, List.mem_cons, List.not_mem_nil, or_false] at hv
  rcases hv with rfl | rfl <;> rfl
theorem info_ivz : (Tryz.prog.info? 119).map (fun i => (i.zero, i.size, i.bytes)) = some (some (.agg #[.int .i64 0, .int .i64 0]), 2, 16) := by kernel_rfl
def IvPost (V : List (Nat × Nat)) (w : World) (e : Ending) (w' : World) : Prop := ∃ v, e = .returned v ∧ w'.ownsRow w.heap.size 119 2 v V.length (flat encIv V) ∧ Below w.heap.size w w'
set_option maxRecDepth 100000 in
set_option maxHeartbeats 6400000 in
theorem flines_any (A : Option Addr) (L : List Rh) (ca : Nat) (w : World) (hl : GrAt encRh 2 w A L) (hz : L.length ≤ 1000000) :
    Calls Tryz.prog 98 #[.slice A L.length ca] w (IvPost (ivs 0 (groupsL (L.map roOf))) w) := by
  obtain ⟨j0, hj, gz0, gz1, gz2⟩ := info_parts info_ivz
  have HL := Lib.hid hl
  obtain ⟨M, hM⟩ : ∃ M, L.map roOf = M := ⟨_, rfl⟩
  have HMM := Lib.hid hM
  rw [hM]
  obtain ⟨m, hm⟩ : ∃ m, L.length = m := ⟨_, rfl⟩
  have HLM := Lib.hid hm
  have HML : Hid (M.length = m) := Lib.hid (by rw [← hM, List.length_map, hm])
  rw [hm] at hz ⊢
  clear hl hm hM
  go_enter Tryz.func98, Tryz.ntmps98
  go_wp2_with fail
  go_loopw [3, 9] (fun s3 s9 wr => ∃ i : Nat, s9 = .int .i64 i ∧ i ≤ m ∧ wr.ownsRow w.heap.size 119 2 s3 (linesI M i).length (flat encIv (linesI M i)) ∧ Below w.heap.size w wr) (fun _ s9 _ => m - (intOf s9).toNat)
  case atStart => exact ⟨0, rfl, Nat.zero_le _, World.ownsRow_nil _ _ _ _, Below.refl _ _⟩
  case round =>
    obtain ⟨i, rfl, hi, hO, hB⟩ := hrel
    have HO := Lib.hid hO
    have HB := Lib.hid hB
    obtain ⟨A3, c3, hv3⟩ := row_form hO
    subst hv3
    by_cases hlt : i < m
    rotate_left
    · have hge : ¬ (i : Int) < (m : Int) := by omega
      have hie : linesI M i = ivs 0 (groupsL M) := by unfold linesI; rw [List.take_of_length_le (by rw [HML.out]; omega)]
      have HIE := Lib.hid hie
      clear hO hB hie
      go_wp2
      go_ret
      exact ⟨_, rfl, by rw [← HIE.out]; exact HO.out, HB.out⟩
    · have hltI : (i : Int) < (m : Int) := by omega
      have hil : i < L.length := by rw [HLM.out]; exact hlt
      obtain ⟨b, off, r, rfl, hx, hcell⟩ := (HL.out.below hB).at_ hil
      have hxm : M[i]? = some (roOf r) := by rw [← HMM.out, List.getElem?_map, hx]; rfl
      have c0 := hcell 0 _ rfl
      have c1 := hcell 1 _ rfl
      simp only [Nat.add_zero] at c0
      obtain ⟨k, hk⟩ : ∃ k, (linesI M i).length = k := ⟨_, rfl⟩
      have HK := Lib.hid hk
      have hki : k ≤ i := by rw [← hk]; exact linesI_len M i
      rw [hk] at hO HO ⊢
      obtain ⟨W, hW⟩ : ∃ W, wr.alloc (.cells #[.slice r.A r.cs.length r.cap, .bool r.cont] 50) = W := ⟨_, rfl⟩
      have hbW : Below wr.heap.size wr W := by rw [← hW]; exact below_allocs (Below.refl _ _) _
      have HBW := Lib.hid (below_tail hB hbW)
      have HOW := Lib.hid (owns_mod hO (Mod.of_below (X := []) hbW) (fun _ _ h => by cases h))
      have HNW := Lib.hid (show W.heap[wr.heap.size]? = some (.cells #[.slice r.A r.cs.length r.cap, .bool r.cont] 50 (0, 0)) from by rw [← hW]; exact hp_new rfl)
      have HWW := Lib.hid hW
      have hwi : IntKind.i64.wrap ((i : Int) + 1) = (i : Int) + 1 := IntWalk.i64_in _ (by omega)
      have HXM := Lib.hid hxm
      by_cases hcc : r.cont = true ∧ 0 < i
      · obtain ⟨V, a, hV1, hV2⟩ := linesI_ext hxm (show (roOf r).cont = true from hcc.1) hcc.2
        have hk1 : k = V.length + 1 := by rw [← hk, hV1]; simp
        obtain ⟨z, hz1⟩ : ∃ z, z = V.length := ⟨_, rfl⟩
        have hkz : (k : Int) - 1 = (z : Int) := by omega
        have hwz : IntKind.i64.wrap (z : Int) = (z : Int) := IntWalk.i64_in _ (by omega)
        have hzk : (z : Int) < (k : Int) := by omega
        have hk0 : 0 < (k : Int) := by omega
        have hcont : r.cont = true := hcc.1
        obtain ⟨g, hA3⟩ : ∃ g, A3 = some ⟨g, 0, none⟩ := by
          obtain ⟨g, cap, hv⟩ := Go.Joins.ownsRow_form hO (by omega)
          simp only [Value.slice.injEq] at hv
          exact ⟨g, hv.1⟩
        subst hA3
        have hXi : (flat encIv (linesI M i))[z * 2 + 1]? = some (.int .i64 i) := by
          rw [flat_at2 encIv_len (linesI M i) z (a, i) 1 (by rw [hV1, hz1]; simp) (by decide)]; rfl
        have hHO := owns_hold HOW.out hXi
        obtain ⟨y1, y1f⟩ := hHO
        have HO7 : Hid ((W.setCell ⟨g, z * 2 + 1, none⟩ (.int .i64 ((i : Int) + 1))).ownsRow w.heap.size 119 2 (.slice (some ⟨g, 0, none⟩) k c3) (linesI M (i + 1)).length (flat encIv (linesI M (i + 1)))) := Lib.hid (by
          have h1 := owns_set1 HOW.out (z * 2 + 1) (.int .i64 ((i : Int) + 1))
          rw [flat_set1 encIv_len (linesI M i) z (a, i) (a, i + 1) 1 _ (by rw [hV1, hz1]; simp) (by decide) (by simp [encIv])] at h1
          have e : (linesI M i).set z (a, i + 1) = linesI M (i + 1) := by
            rw [hV1, hV2, hz1, List.set_append_right _ _ (Nat.le_refl _), Nat.sub_self, List.set_cons_zero]
          rw [e] at h1
          rw [show (linesI M (i + 1)).length = k by rw [hV2, hk1]; simp]
          exact h1)
        have hgb := (HOW.out.lt g rfl).1
        have HB7 := Lib.hid (below_set HBW.out hgb (o := z * 2 + 1) (.int .i64 ((i : Int) + 1)))
        have hgne : g ≠ wr.heap.size := by have := (hO.lt g rfl).2; omega
        have hz2 : z * 2 + 1 = z * 2 + 1 := rfl
        clear hO hB hx hxm hcell hil hk hbW hW hV1 hV2 hk1 hz1 hcc hXi
        rw [hcont] at HWW HNW
        go_upto_region 6 with fail
        rw [HWW.out]
        have n0 := (at_ HNW.out 0 _ rfl).1
        have n1 := (at_ HNW.out 1 _ rfl).1
        clear c0 c1
        go_wp2
        go_roundw
        case rel => exact ⟨i + 1, by go_num, by omega, HO7.out, HB7.out⟩
        case measure => simp [intOf]; omega
      · by_cases h0 : i = 0
        · have hcd : r.cont = false ∨ i = 0 := .inr h0
          have hk0 : ¬ 0 < (k : Int) := by omega
          have hkn : ¬ 0 < k := by omega
          clear h0
          have hLP := linesI_push hxm hcd
          have HLP := Lib.hid hLP
          clear hO hB hx hxm hcell hil hk hbW hW hcc hLP hcd
          go_upto_region 6 with fail
          rw [HWW.out]
          have n0 := (at_ HNW.out 0 _ rfl).1
          have n1 := (at_ HNW.out 1 _ rfl).1
          clear c0 c1
          go_upto_region 8 with fail
          clear n0 n1
          refine wp_region_lit ?_
          refine wpList_valG (.slice A3 k c3) (by rfl) (by rfl) ?_
          simp only [Act.put, List.setIfInBounds_toArray, List.set_cons_zero, List.set_cons_succ]
          refine wpList_valG (.int .i64 (i : Int)) (by rfl) (by rfl) ?_
          simp only [Act.put, List.setIfInBounds_toArray, List.set_cons_zero, List.set_cons_succ]
          refine wpList_valG (.int .i64 (i : Int)) (by rfl) (by rfl) ?_
          simp only [Act.put, List.setIfInBounds_toArray, List.set_cons_zero, List.set_cons_succ]
          refine wpList_valG (.int .i64 ((i : Int) + 1)) (by rfl) (by go_simp) ?_
          simp only [Act.put, List.setIfInBounds_toArray, List.set_cons_zero, List.set_cons_succ]
          refine wpList_valG (.agg #[.int .i64 (i : Int), .int .i64 ((i : Int) + 1)]) (by rfl) (by go_simp) ?_
          simp only [Act.put, List.setIfInBounds_toArray, List.set_cons_zero, List.set_cons_succ]
          have hbx := below_allocs (Below.refl W.heap.size W) (.cells #[.int .i64 (i : Int), .int .i64 ((i : Int) + 1)] 119)
          have HBX := Lib.hid (below_tail HBW.out hbx)
          have HOX := Lib.hid (owns_mod HOW.out (Mod.of_below (X := []) hbx) (fun _ _ h => by cases h))
          refine wpList_actG (.slice (some ⟨W.heap.size, 0, none⟩) 1 1) (W.alloc (.cells #[.int .i64 (i : Int), .int .i64 ((i : Int) + 1)] 119)) (by rfl) (by go_simp) ?_
          simp only [Act.put, List.setIfInBounds_toArray, List.set_cons_zero, List.set_cons_succ]
          refine wpList_append_g (o := ⟨some 35, _, _, _, _, _⟩) rfl (.tmp 29) (.tmp 34) 117 rfl w.heap.size 119 j0 _ 2 16 Tryz.underlying117 hj gz0 gz1 gz2 rfl (by decide) (.slice A3 k c3) k (flat encIv (linesI M i)) rfl HOX.out ⟨W.heap.size, 0, none⟩ 1 1 (encIv (i, i + 1)) rfl rfl (fun j u hj => by rw [add_lit', Nat.zero_add]; exact (at_ (hp_new rfl) j u (by simpa [encIv] using hj)).1) (encIv_one _) (by simp only [maxLen]; omega) (by omega) HBX.out.size ?_
          intro v' w7 ho hg hv'
          have HB7 := Lib.hid (HBX.out.grown hg HBX.out.size (fun x hx => (HOX.out.lt x hx).1))
          have HO7 : Hid (w7.ownsRow w.heap.size 119 2 v' (linesI M (i + 1)).length (flat encIv (linesI M (i + 1)))) := Lib.hid (by
            rw [HLP.out, List.length_append, flat_append, HK.out]
            exact ho)
          simp only [Act.put, List.setIfInBounds_toArray, List.set_cons_zero, List.set_cons_succ]
          clear ho hg hv' hbx
          go_wp2
          go_roundw
          case rel => exact ⟨i + 1, by go_num, by omega, HO7.out, HB7.out⟩
          case measure => simp [intOf]; omega
        · have hcf : r.cont = false := by
            cases hq : r.cont with
            | false => rfl
            | true => exact absurd ⟨hq, by omega⟩ hcc
          have hcd : r.cont = false ∨ i = 0 := .inl hcf
          have hkp := linesI_pos (L := M) (i := i) (by omega) (by rw [HML.out]; omega)
          rw [hk] at hkp
          have hk0 : 0 < (k : Int) := by omega
          rw [hcf] at HWW HNW
          clear h0
          have hLP := linesI_push hxm hcd
          have HLP := Lib.hid hLP
          clear hO hB hx hxm hcell hil hk hbW hW hcc hLP hcd
          go_upto_region 6 with fail
          rw [HWW.out]
          have n0 := (at_ HNW.out 0 _ rfl).1
          have n1 := (at_ HNW.out 1 _ rfl).1
          clear c0 c1
          go_upto_region 8 with fail
          clear n0 n1
          refine wp_region_lit ?_
          refine wpList_valG (.slice A3 k c3) (by rfl) (by rfl) ?_
          simp only [Act.put, List.setIfInBounds_toArray, List.set_cons_zero, List.set_cons_succ]
          refine wpList_valG (.int .i64 (i : Int)) (by rfl) (by rfl) ?_
          simp only [Act.put, List.setIfInBounds_toArray, List.set_cons_zero, List.set_cons_succ]
          refine wpList_valG (.int .i64 (i : Int)) (by rfl) (by rfl) ?_
          simp only [Act.put, List.setIfInBounds_toArray, List.set_cons_zero, List.set_cons_succ]
          refine wpList_valG (.int .i64 ((i : Int) + 1)) (by rfl) (by go_simp) ?_
          simp only [Act.put, List.setIfInBounds_toArray, List.set_cons_zero, List.set_cons_succ]
          refine wpList_valG (.agg #[.int .i64 (i : Int), .int .i64 ((i : Int) + 1)]) (by rfl) (by go_simp) ?_
          simp only [Act.put, List.setIfInBounds_toArray, List.set_cons_zero, List.set_cons_succ]
          have hbx := below_allocs (Below.refl W.heap.size W) (.cells #[.int .i64 (i : Int), .int .i64 ((i : Int) + 1)] 119)
          have HBX := Lib.hid (below_tail HBW.out hbx)
          have HOX := Lib.hid (owns_mod HOW.out (Mod.of_below (X := []) hbx) (fun _ _ h => by cases h))
          refine wpList_actG (.slice (some ⟨W.heap.size, 0, none⟩) 1 1) (W.alloc (.cells #[.int .i64 (i : Int), .int .i64 ((i : Int) + 1)] 119)) (by rfl) (by go_simp) ?_
          simp only [Act.put, List.setIfInBounds_toArray, List.set_cons_zero, List.set_cons_succ]
          refine wpList_append_g (o := ⟨some 35, _, _, _, _, _⟩) rfl (.tmp 29) (.tmp 34) 117 rfl w.heap.size 119 j0 _ 2 16 Tryz.underlying117 hj gz0 gz1 gz2 rfl (by decide) (.slice A3 k c3) k (flat encIv (linesI M i)) rfl HOX.out ⟨W.heap.size, 0, none⟩ 1 1 (encIv (i, i + 1)) rfl rfl (fun j u hj => by rw [add_lit', Nat.zero_add]; exact (at_ (hp_new rfl) j u (by simpa [encIv] using hj)).1) (encIv_one _) (by simp only [maxLen]; omega) (by omega) HBX.out.size ?_
          intro v' w7 ho hg hv'
          have HB7 := Lib.hid (HBX.out.grown hg HBX.out.size (fun x hx => (HOX.out.lt x hx).1))
          have HO7 : Hid (w7.ownsRow w.heap.size 119 2 v' (linesI M (i + 1)).length (flat encIv (linesI M (i + 1)))) := Lib.hid (by
            rw [HLP.out, List.length_append, flat_append, HK.out]
            exact ho)
          simp only [Act.put, List.setIfInBounds_toArray, List.set_cons_zero, List.set_cons_succ]
          clear ho hg hv' hbx
          go_wp2
          go_roundw
          case rel => exact ⟨i + 1, by go_num, by omega, HO7.out, HB7.out⟩
          case measure => simp [intOf]; omega
end Go.Proofs.YtffdblmdelgkaaaGreat

namespace Go.Proofs.YtffdblmdelgkaaaGreat
open Go.RowKit
def begN (G : List (List Ro)) (j : Nat) : Nat := ((G.take j).flatten).length
def outN (cols : Nat) (G : List (List Ro)) (j : Nat) : Nat := ((G.take j).flatMap (madeG cols)).length
theorem begN_zero (G : List (List Ro)) : begN G 0 = 0 := rfl
theorem begN_cons (h : List Ro) (G : List (List Ro)) (j : Nat) : begN (h :: G) (j + 1) = h.length + begN G j := by simp [begN]
theorem outN_cons (cols : Nat) (h : List Ro) (G : List (List Ro)) (j : Nat) : outN cols (h :: G) (j + 1) = (madeG cols h).length + outN cols G j := by simp [outN]
theorem begN_succ {G : List (List Ro)} {j : Nat} {g : List Ro} (h : G[j]? = some g) : begN G (j + 1) = begN G j + g.length := by
  unfold begN
  rw [List.take_add_one, h]
  simp
theorem outN_succ {cols : Nat} {G : List (List Ro)} {j : Nat} {g : List Ro} (h : G[j]? = some g) : (G.take (j + 1)).flatMap (madeG cols) = (G.take j).flatMap (madeG cols) ++ madeG cols g := by
  rw [List.take_add_one, h, List.flatMap_append]
  simp
theorem begN_full (G : List (List Ro)) : begN G G.length = G.flatten.length := by unfold begN; rw [List.take_length]
theorem begN_le (G : List (List Ro)) (j : Nat) : begN G j ≤ G.flatten.length := by
  unfold begN
  conv => rhs; rw [← List.take_append_drop j G]
  rw [List.flatten_append, List.length_append]
  omega
theorem group_at : ∀ {G : List (List Ro)} {j : Nat} {g : List Ro}, G[j]? = some g → (G.flatten.drop (begN G j)).take g.length = g
  | [], j, g, h => by simp at h
  | x :: G, 0, g, h => by
    simp at h; subst h
    rw [begN_zero, List.drop_zero, List.flatten_cons, List.take_left]
  | x :: G, j + 1, g, h => by
    have h' : G[j]? = some g := by simpa using h
    rw [begN_cons, List.flatten_cons, ← List.drop_drop, List.drop_left]
    exact group_at h'
theorem ivs_at : ∀ {G : List (List Ro)} {j : Nat} {g : List Ro} (a : Nat), G[j]? = some g → (ivs a G)[j]? = some (a + begN G j, a + begN G j + g.length)
  | [], j, g, a, h => by simp at h
  | x :: G, 0, g, a, h => by
    simp at h; subst h
    rw [begN_zero]; rfl
  | x :: G, j + 1, g, a, h => by
    have h' : G[j]? = some g := by simpa using h
    rw [ivs, List.getElem?_cons_succ, ivs_at (a + x.length) h', begN_cons]
    simp [Nat.add_assoc]
theorem placeG_at (cols : Nat) (x : Int) : ∀ {G : List (List Ro)} {j : Nat} {g : List Ro} (y out : Nat), G[j]? = some g → begN G j ≤ y → y < begN G j + g.length → placeG cols x G y out = (out + outN cols G j + (plP (madeG cols g) (offP g ((y - begN G j : Nat) : Int) x)).1, (plP (madeG cols g) (offP g ((y - begN G j : Nat) : Int) x)).2)
  | [], j, g, y, out, h, _, _ => by simp at h
  | z :: G, 0, g, y, out, h, h1, h2 => by
    simp at h; subst h
    rw [begN_zero] at h1 h2 ⊢
    rw [placeG, if_pos (by omega), Nat.sub_zero]
    rfl
  | z :: G, j + 1, g, y, out, h, h1, h2 => by
    have h' : G[j]? = some g := by simpa using h
    rw [begN_cons] at h1 h2 ⊢
    rw [placeG, if_neg (by omega), placeG_at cols x (y - z.length) _ h' (by omega) (by omega), outN_cons, show y - z.length - begN G j = y - (z.length + begN G j) by omega]
    simp [Nat.add_assoc]
theorem placeG_end (cols : Nat) (x : Int) : ∀ (G : List (List Ro)) (y out : Nat), G.flatten.length ≤ y → placeG cols x G y out = (out + outN cols G G.length, 0)
  | [], y, out, _ => by simp [placeG, outN]
  | z :: G, y, out, h => by
    rw [List.flatten_cons, List.length_append] at h
    rw [placeG, if_neg (by omega), placeG_end cols x G _ _ (by omega), List.length_cons, outN_cons]
    simp [Nat.add_assoc]
theorem madeG_len {cols : Nat} (hc : 2 ≤ cols) (g : List Ro) : (madeG cols g).length ≤ cntL g + 1 := by
  unfold madeG splitL
  have h1 := splitG_len hc ((flowL g).length + 1) false (plainL (flowL g))
  rw [plainL_len] at h1
  have h2 : (flowL g).length ≤ cntL g := by
    unfold flowL
    rw [List.length_take, mendL_len, flatR_len]
    omega
  omega
theorem madeG_pos (cols : Nat) (g : List Ro) : 0 < (madeG cols g).length := by
  unfold madeG splitL
  rw [splitG]; simp
theorem outN_le {cols : Nat} (hc : 2 ≤ cols) : ∀ G : List (List Ro), (G.flatMap (madeG cols)).length ≤ cntL G.flatten + G.length
  | [] => by simp
  | g :: G => by
    have h1 := outN_le hc G
    have h2 := madeG_len hc g
    rw [List.flatMap_cons, List.length_append, List.flatten_cons, cntL_append, List.length_cons]
    omega
theorem cnt_group {G : List (List Ro)} {g : List Ro} (h : g ∈ G) : cntL g ≤ cntL G.flatten := by
  obtain ⟨a, b, rfl⟩ := List.append_of_mem h
  simp only [List.flatten_append, List.flatten_cons, cntL_append]
  omega
/-- Where a place is, as numbers. -/
def rfP (cols : Nat) (M : List Ro) (p : P2) : P2 := (((reflowP cols M p).1 : Int), ((reflowP cols M p).2 : Int))
def plAt (cols : Nat) (M : List Ro) (a : Nat) (p : P2) : P2 := if max 0 p.1 < (a : Int) then rfP cols M p else p
theorem plAt_zero (cols : Nat) (M : List Ro) (p : P2) : plAt cols M 0 p = p := by unfold plAt; rw [if_neg (by omega)]
/-- Between two lines: what a line changes. -/
def plI (cols : Nat) (M : List Ro) (a b : Nat) (l : List P2) (i : Nat) : List P2 := (l.take i).map (plAt cols M b) ++ (l.drop i).map (plAt cols M a)
theorem plI_zero (cols : Nat) (M : List Ro) (a b : Nat) (l : List P2) : plI cols M a b l 0 = l.map (plAt cols M a) := by simp [plI]
theorem plI_full (cols : Nat) (M : List Ro) (a b : Nat) (l : List P2) : plI cols M a b l l.length = l.map (plAt cols M b) := by simp [plI]
theorem plI_len (cols : Nat) (M : List Ro) (a b : Nat) (l : List P2) (i : Nat) : (plI cols M a b l i).length = l.length := by unfold plI; simp; omega
theorem plI_succ {cols : Nat} {M : List Ro} {a b : Nat} {l : List P2} {i : Nat} {p : P2} (h : l[i]? = some p) : plI cols M a b l (i + 1) = (plI cols M a b l i).set i (plAt cols M b p) := by
  have hi := (List.getElem?_eq_some_iff.1 h).1
  unfold plI
  rw [List.set_append_right _ _ (by simp; omega), List.length_map, List.length_take, show i - min i l.length = 0 by omega, List.drop_eq_getElem_cons hi, List.map_cons, List.set_cons_zero, List.take_add_one, h]
  simp
theorem plI_at {cols : Nat} {M : List Ro} {a b : Nat} {l : List P2} {i : Nat} {p : P2} (h : l[i]? = some p) : (plI cols M a b l i)[i]? = some (plAt cols M a p) := by
  have hi := (List.getElem?_eq_some_iff.1 h).1
  unfold plI
  rw [List.getElem?_append_right (by simp; omega), List.length_map, List.length_take, show i - min i l.length = 0 by omega, List.getElem?_map, List.getElem?_drop, Nat.add_zero, h]
  rfl
theorem plI_same {cols : Nat} {M : List Ro} {a b : Nat} {l : List P2} {i : Nat} {p : P2} (h : l[i]? = some p) (hp : plAt cols M b p = plAt cols M a p) : plI cols M a b l (i + 1) = plI cols M a b l i := by
  rw [plI_succ h, hp]
  refine List.ext_getElem? fun j => ?_
  rw [List.getElem?_set]
  split
  · next e =>
    subst e
    rw [if_pos (by rw [plI_len]; exact (List.getElem?_eq_some_iff.1 h).1), plI_at h]
  · rfl
/-- Some of a list's are others already. -/
def mixI (f f' : P2 → P2) (l : List P2) (i : Nat) : List P2 := (l.take i).map f' ++ (l.drop i).map f
theorem mixI_zero (f f' : P2 → P2) (l : List P2) : mixI f f' l 0 = l.map f := by simp [mixI]
theorem mixI_full (f f' : P2 → P2) (l : List P2) : mixI f f' l l.length = l.map f' := by simp [mixI]
theorem mixI_len (f f' : P2 → P2) (l : List P2) (i : Nat) : (mixI f f' l i).length = l.length := by unfold mixI; simp; omega
theorem mixI_succ {f f' : P2 → P2} {l : List P2} {i : Nat} {p : P2} (h : l[i]? = some p) : mixI f f' l (i + 1) = (mixI f f' l i).set i (f' p) := by
  have hi := (List.getElem?_eq_some_iff.1 h).1
  unfold mixI
  rw [List.set_append_right _ _ (by simp; omega), List.length_map, List.length_take, show i - min i l.length = 0 by omega, List.drop_eq_getElem_cons hi, List.map_cons, List.set_cons_zero, List.take_add_one, h]
  simp
theorem mixI_at {f f' : P2 → P2} {l : List P2} {i : Nat} {p : P2} (h : l[i]? = some p) : (mixI f f' l i)[i]? = some (f p) := by
  have hi := (List.getElem?_eq_some_iff.1 h).1
  unfold mixI
  rw [List.getElem?_append_right (by simp; omega), List.length_map, List.length_take, show i - min i l.length = 0 by omega, List.getElem?_map, List.getElem?_drop, Nat.add_zero, h]
  rfl
theorem mixI_same {f f' : P2 → P2} {l : List P2} {i : Nat} {p : P2} (h : l[i]? = some p) (hp : f' p = f p) : mixI f f' l (i + 1) = mixI f f' l i := by
  rw [mixI_succ h, hp]
  refine List.ext_getElem? fun j => ?_
  rw [List.getElem?_set]
  split
  · next e =>
    subst e
    rw [if_pos (by rw [mixI_len]; exact (List.getElem?_eq_some_iff.1 h).1), mixI_at h]
  · rfl
/-- A line's places. -/
theorem rfP_at {cols : Nat} {M : List Ro} {j : Nat} {g : List Ro} {p : P2} {y : Nat} (h : (groupsL M)[j]? = some g) (hy : max 0 p.1 = (y : Int)) (h1 : begN (groupsL M) j ≤ y) (h2 : y < begN (groupsL M) j + g.length) :
    rfP cols M p = (((outN cols (groupsL M) j + (plP (madeG cols g) (offP g ((y - begN (groupsL M) j : Nat) : Int) (if p.1 < 0 then 0 else p.2))).1 : Nat) : Int), ((plP (madeG cols g) (offP g ((y - begN (groupsL M) j : Nat) : Int) (if p.1 < 0 then 0 else p.2))).2 : Int)) := by
  unfold rfP reflowP
  have hy2 : p.1.toNat = y := by omega
  rw [hy2, placeG_at cols _ y 0 h h1 h2, Nat.zero_add]
theorem rfP_end {cols : Nat} {M : List Ro} {p : P2} (h : (M.length : Int) ≤ p.1) : rfP cols M p = (((reflowL cols M).length : Int), 0) := by
  unfold rfP reflowP
  rw [placeG_end cols _ (groupsL M) _ _ (by rw [groups_len]; omega), Nat.zero_add]
  unfold outN reflowL
  rw [List.take_length]
  rfl
theorem groupsL_ne : ∀ (l : List Ro), ∀ g ∈ groupsL l, g ≠ []
  | [], g, h => by simp [groupsL] at h
  | r :: l, g, h => by
    have ih := groupsL_ne l
    rw [groupsL] at h
    split at h
    · simp at h; rw [h]; simp
    · next g' gs hl =>
      rw [hl] at ih
      split at h
      · rcases List.mem_cons.1 h with rfl | h
        · simp
        · exact ih g (by simp [h])
      · rcases List.mem_cons.1 h with rfl | h
        · simp
        · exact ih g h
theorem offP_le (rows : List Ro) (y x : Int) : offP rows y x ≤ cntL rows := by
  unfold offP
  split
  · omega
  split
  · omega
  · next h1 h2 =>
    have hk : y.toNat < rows.length := by omega
    have hr := List.getElem?_eq_getElem hk
    have h3 := cntL_take_succ hr
    have h4 := cntL_mono rows (show y.toNat + 1 ≤ rows.length by omega)
    rw [List.take_length] at h4
    rw [List.getD_eq_getElem?_getD, hr, Option.getD_some]
    omega
theorem plP_fst_le (rows : List Ro) (off : Nat) : (plP rows off).1 ≤ rows.length := by
  unfold plP
  split
  · simp
  split
  · exact firstGt_le rows off
  · simp
theorem RowsO.mod {base : Nat} {w w' : World} {v : Value} {L : List Rh} {X : List Nat} (h : RowsO base w v L) (hm : Mod X w w') (hX : NoCel w X) (hv : ∀ g, v.ownBlock = some g → g ∉ X) : RowsO base w' v L :=
  ⟨owns_mod h.1 hm hv, fun r hr => ⟨(h.2 r hr).1.mod hm hX, (h.2 r hr).2⟩⟩
theorem GrAt.sub {α : Type} {enc : α → List Value} {k : Nat} {w : World} {b off : Nat} {l : List α} (h : GrAt enc k w (some ⟨b, off, none⟩) l) (a n : Nat) : GrAt enc k w (some ⟨b, off + a * k, none⟩) ((l.drop a).take n) := fun h0 => by
  rw [List.length_take, List.length_drop] at h0
  obtain ⟨b2, off2, e, hc⟩ := h (by omega)
  simp only [Option.some.injEq, Addr.mk.injEq, and_true] at e
  obtain ⟨rfl, rfl⟩ := e
  refine ⟨b, _, rfl, fun i x hx j v hv => ?_⟩
  have := hc (a + i) x (by rw [List.getElem?_take] at hx; split at hx; rw [List.getElem?_drop] at hx; exact hx; cases hx) j v hv
  rw [show off + a * k + i * k + j = off + (a + i) * k + j by rw [Nat.add_mul]; omega]
  exact this
theorem RowsO.join {base base2 : Nat} {w w1 : World} {v v' v2 : Value} {D R : List Rh} (h : RowsO base w v D) (h2 : RowsO base2 w v2 R) (ho : w1.ownsRow base 50 2 v' (D.length + R.length) (flat encRh D ++ flat encRh R)) (hg : w.grownBy w1 v.ownBlock) : RowsO base w1 v' (D ++ R) := by
  have hm : Mod v.ownBlock.toList w w1 := Mod.of_grown hg (fun b hb => by simp [hb])
  have hn : NoCel w v.ownBlock.toList := fun b hb cs f he => by
    obtain ⟨cur, hc⟩ := own_block h.1 (Option.mem_toList.1 hb)
    exact block_ne hc he (by decide) rfl
  refine ⟨by rw [flat_append, List.length_append]; exact ho, fun x hx => ?_⟩
  rcases List.mem_append.1 hx with hx | hx
  · exact ⟨(h.2 x hx).1.mod hm hn, (h.2 x hx).2⟩
  · exact ⟨(h2.2 x hx).1.mod hm hn, (h2.2 x hx).2⟩
end Go.Proofs.YtffdblmdelgkaaaGreat
