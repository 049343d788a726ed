/- Joined by a tool of this claim out of smaller texts. Conditions: as stated. -/
import Derived.Test.YtffdblmdelgkaaaGreatKk13
import Derived.RegionTactic
import Derived.Laws.AppendOwn
namespace Go.Proofs.YtffdblmdelgkaaaGreat
open Go.RowKit Go.Shelf Go.Sort
def encN (n : Nat) : List Value := [.int .i64 n]
theorem encN_len : ∀ n, (encN n).length = 1 := fun _ => rfl
theorem flat_encN (X : List Nat) : flat encN X = X.map (fun n : Nat => Value.int .i64 (n : Int)) := by
  induction X with
  | nil => rfl
  | cons x X ih => rw [show flat encN (x :: X) = encN x ++ flat encN X from rfl, ih]; rfl
theorem info_intz : (Tryz.prog.info? 3).map (fun i => (i.zero, i.size, i.bytes)) = some (some (.int .i64 0), 1, 8) := by kernel_rfl
def SumPost (L : List Ro) (w : World) (e : Ending) (w' : World) : Prop := ∃ g cap, e = .returned (.slice (some ⟨g, 0, none⟩) L.length cap) ∧ w'.ownsRow w.heap.size 3 1 (.slice (some ⟨g, 0, none⟩) L.length cap) L.length (flat encN (sumsL L)) ∧ Below w.heap.size w w'
theorem roSize_le (r : Rh) : roSize (roOf r) ≤ r.cs.length := List.length_filter_le _ _
theorem cnt_le {L : List Rh} {N : Nat} (h : ∀ r ∈ L, r.cs.length ≤ N) : ∀ k, cntL ((L.map roOf).take k) ≤ k * N := by
  induction L with
  | nil => intro k; simp [cntL]
  | cons r L ih =>
    intro k
    cases k with
    | zero => simp [cntL]
    | succ k =>
      have h1 := ih (fun x hx => h x (by simp [hx])) k
      have h2 := roSize_le r
      have h3 := h r (by simp)
      simp only [List.map_cons, List.take_succ_cons, cntL, List.map_cons, List.sum_cons, Nat.succ_mul] at h1 ⊢
      omega
set_option maxRecDepth 100000 in
set_option maxHeartbeats 3200000 in
theorem fsums_any (A : Option Addr) (L : List Rh) (ca : Nat) (w : World) (hl : GrAt encRh 2 w A L) (hr : ∀ r ∈ L, RcAt w r) (h0 : 0 < L.length) (hz : L.length ≤ 1000000) :
    Calls Tryz.prog 101 #[.slice A L.length ca] w (SumPost (L.map roOf) w) := by
  obtain ⟨j0, hj, gz0, gz1, gz2⟩ := info_parts info_intz
  have HL := Lib.hid hl
  have HR := Lib.hid hr
  have HSZ := Lib.hid (fun (r : Rh) (w' : World) (h : RcAt w' r) => fsize_any r w' h.2.2.1 (by have := h.1; omega))
  have HCN := Lib.hid (cnt_le (L := L) (N := 10000) (fun r h => (hr r h).1))
  obtain ⟨m, hm⟩ : ∃ m, L.length = m := ⟨_, rfl⟩
  have HM := Lib.hid hm
  rw [hm] at h0 hz ⊢
  clear hl hr hm
  go_enter Tryz.func101, Tryz.ntmps101
  go_wp2_with (refine wpList_make_full _ rfl (.tmp 8) (.tmp 8) _ rfl w.heap.size 3 j0 _ 1 Tryz.underlying122 hj gz0 gz1 .i64 .i64 _ _ m rfl rfl ?_ ?_ ?_ ?_ ?_ ?_)
  all_goals first
    | rfl
    | omega
    | (simp only [maxLen]; omega)
    | (rw [gz2]; omega)
    | (simp; done)
    | skip
  intro w1 hown hg
  have HG := Lib.hid hg
  have e := made_flatG encN_len (by decide) 0 m
  rw [Nat.mul_one] at e
  have HO0 : Hid (w1.ownsRow w.heap.size 3 1 (.slice (some ⟨w.heap.size, 0, none⟩) m m) m (flat encN (List.replicate m 0))) := Lib.hid (by rw [← e]; exact hown)
  clear hown hg e
  have HB2 := Lib.hid (show Below w.heap.size w w1 from (Below.refl _ _).grown HG.out (Nat.le_refl _) (fun k hk => by cases hk))
  have hg2 := (HO0.out.lt w.heap.size rfl).2
  generalize hg1e : w.heap.size = g1 at HO0 hg2 HB2 ⊢
  have HG1 := Lib.hid hg1e
  clear hg1e
  go_wp2_with fail
  go_loopw [4, 12] (fun s4 s12 wr => ∃ i : Nat, s12 = .int .i64 i ∧ i ≤ m ∧ s4 = .int .i64 (cntL ((L.map roOf).take i)) ∧ wr.ownsRow g1 3 1 (.slice (some ⟨g1, 0, none⟩) m m) m (flat encN ((sumsL (L.map roOf)).take i ++ List.replicate (m - i) 0)) ∧ Mod [g1] w1 wr) (fun _ s12 _ => m - (intOf s12).toNat)
  case atStart => exact ⟨0, rfl, Nat.zero_le _, rfl, by simpa using HO0.out, Mod.refl _ _⟩
  case round =>
    obtain ⟨i, rfl, hi, rfl, hO, hM⟩ := hrel
    have HOi := Lib.hid hO
    have hMB : Below g1 w1 wr := hM.below (fun x hx => by rw [List.mem_singleton.1 hx]; exact Nat.le_refl _) (Nat.le_of_lt hg2)
    have HMB := Lib.hid (HB2.out.trans hMB)
    have HMi := Lib.hid hM
    clear hO hM hMB
    by_cases hlt : i < m
    rotate_left
    · have hge : ¬ (i : Int) < (m : Int) := by omega
      have hie : i = m := by omega
      have HIE := Lib.hid hie
      clear hie
      go_wp2
      go_ret
      have h1 := HOi.out
      rw [HIE.out, Nat.sub_self, List.replicate_zero, List.append_nil, List.take_of_length_le (by rw [sumsL_len, List.length_map, HM.out]; exact Nat.le_refl _)] at h1
      refine ⟨g1, m, by rw [List.length_map, HM.out]; rfl, by rw [List.length_map, HM.out, HG1.out]; exact h1, by rw [HG1.out]; exact HMB.out⟩
    · have hltI : (i : Int) < (m : Int) := by omega
      have hil : i < L.length := by rw [HM.out]; exact hlt
      obtain ⟨b, off, r, rfl, hx, hcell⟩ := (HL.out.below (by rw [HG1.out]; exact HMB.out)).at_ hil
      have HRC := Lib.hid ((HR.out r (List.mem_of_getElem? hx)).below (by rw [HG1.out]; exact HMB.out))
      have hxm : (L.map roOf)[i]? = some (roOf r) := by rw [List.getElem?_map, hx]; rfl
      have HCT := Lib.hid (cntL_take_succ hxm)
      have hcn := HCN.out (i + 1)
      rw [HCT.out] at hcn
      have c0 := hcell 0 _ rfl
      have c1 := hcell 1 _ rfl
      simp only [Nat.add_zero] at c0
      obtain ⟨q, hq⟩ : ∃ q, q = cntL ((L.map roOf).take i) := ⟨_, rfl⟩
      obtain ⟨q2, hq2⟩ : ∃ q2, q2 = q + roSize (roOf r) := ⟨_, rfl⟩
      rw [← hq, ← hq2] at hcn
      have HQ := Lib.hid hq
      have HQ2 := Lib.hid hq2
      rw [← hq]
      obtain ⟨sz, hsz⟩ : ∃ sz, sz = roSize (roOf r) := ⟨_, rfl⟩
      have hqs : (q : Int) + (sz : Int) = (q2 : Int) := by omega
      have hwq : IntKind.i64.wrap (q2 : Int) = (q2 : Int) := IntWalk.i64_in _ (by omega)
      have hwi : IntKind.i64.wrap ((i : Int) + 1) = (i : Int) + 1 := IntWalk.i64_in _ (by omega)
      have hba := below_allocs (Below.refl wr.heap.size wr) (.cells #[.slice r.A r.cs.length r.cap, .bool r.cont] 50)
      have HS := Lib.hid (HSZ.out r _ (HRC.out.below hba))
      have HBA := Lib.hid hba
      rw [← hsz] at HS
      have HSZE := Lib.hid hsz
      clear hx hxm hcell hil hq hq2 hcn hsz hba
      go_upto_region 7 with (go_at_call 134; (with_reducible refine HS.out.mono ?_); rintro e w6 ⟨rfl, hb⟩; have HB6 := Lib.hid (below_tail HBA.out hb); clear hb c0 c1)
      have HO6 := Lib.hid (owns_mod HOi.out (Mod.of_below (X := []) HB6.out) (fun _ _ h => by cases h))
      have hXi : (flat encN ((sumsL (L.map roOf)).take i ++ List.replicate (m - i) 0))[i]? = some (.int .i64 ((0 : Nat) : Int)) := by
        rw [flat_encN, List.getElem?_map, List.getElem?_append_right (by rw [List.length_take]; omega), List.getElem?_replicate, if_pos (by rw [List.length_take, sumsL_len, List.length_map, HM.out]; omega)]
        rfl
      obtain ⟨y0, y0f⟩ := owns_hold HO6.out hXi
      have HO7 : Hid ((w6.setCell ⟨g1, i, none⟩ (.int .i64 q2)).ownsRow g1 3 1 (.slice (some ⟨g1, 0, none⟩) m m) m (flat encN ((sumsL (L.map roOf)).take (i + 1) ++ List.replicate (m - (i + 1)) 0))) := Lib.hid (by
        have h1 := owns_set1 HO6.out i (.int .i64 q2)
        have hil : i < (sumsL (L.map roOf)).length := by rw [sumsL_len, List.length_map, HM.out]; exact hlt
        have hget : (sumsL (L.map roOf))[i] = q2 := by
          have h2 := sumsL_at (rows := L.map roOf) (k := i) (by rw [List.length_map, HM.out]; exact hlt)
          rw [List.getElem?_eq_getElem hil] at h2
          rw [Option.some.inj h2, HCT.out, HQ2.out, HQ.out]
        have h3 := take_set (z := 0) hil hlt
        rw [hget] at h3
        rw [← h3, flat_encN, List.map_set, ← flat_encN]
        exact h1)
      have HM7 := Lib.hid (((Mod.of_below (X := [g1]) HB6.out).setCell (a := ⟨g1, i, none⟩) (.inl (by simp)) (.int .i64 q2)))
      have HMi7 := Lib.hid (HMi.out.trans HM7.out (fun x hx => .inl hx))
      go_wp2
      go_roundw
      case rel => exact ⟨i + 1, by go_num, by omega, by rw [HCT.out, ← HQ.out, ← HSZE.out]; go_num, HO7.out, HMi7.out⟩
      case measure => simp [intOf]; omega
set_option maxRecDepth 100000 in
theorem fahead_any (A : Option Addr) (L : List Ro) (ca y : Nat) (w : World) (hl : GrAt encN 1 w A (sumsL L)) (hy : y ≤ L.length) (hz : L.length ≤ 1000000) :
    Calls Tryz.prog 137 #[.slice A L.length ca, .int .i64 y] w (fun e w' => e = .returned (.int .i64 (cntL (L.take y))) ∧ w = w') := by
  by_cases h0 : y = 0
  · subst h0
    have hI : ((0 : Nat) : Int) ≤ 0 := by omega
    clear hl
    go_enter Tryz.func137, Tryz.ntmps137
    go_wp2
    go_ret
    exact ⟨rfl, rfl⟩
  · obtain ⟨k, rfl⟩ : ∃ k, y = k + 1 := ⟨y - 1, by omega⟩
    have hkS : k < (sumsL L).length := by rw [sumsL_len]; omega
    obtain ⟨b, off, n, rfl, hn, hcell⟩ := hl.at_ hkS
    rw [sumsL_at (rows := L) (k := k) (by omega)] at hn
    obtain rfl := Option.some.inj hn
    have c0 := hcell 0 _ rfl
    obtain ⟨m, hm⟩ : ∃ m, m = k + 1 := ⟨_, rfl⟩
    have HM := Lib.hid hm
    rw [← hm] at hy c0 ⊢
    have hI : ¬ (m : Int) ≤ 0 := by omega
    have hs : (m : Int) - 1 = (k : Int) := by omega
    have hwk : IntKind.i64.wrap (k : Int) = (k : Int) := IntWalk.i64_in _ (by omega)
    have hkI : (k : Int) < (L.length : Int) := by omega
    simp only [Nat.add_zero, Nat.mul_one] at c0
    clear hl hcell hn hm h0 hkS
    go_enter Tryz.func137, Tryz.ntmps137
    go_wp2
    go_ret
    exact ⟨rfl, rfl⟩
set_option maxRecDepth 100000 in
set_option maxHeartbeats 3200000 in
theorem foffset_any (A : Option Addr) (L : List Ro) (ca : Nat) (y x : Int) (w : World) (hl : GrAt encN 1 w A (sumsL L)) (hz : L.length ≤ 1000000) (hbig : cntL L ≤ 1000000000000) (hx : -9223372036854775808 ≤ x ∧ x ≤ 9223372036854775807) :
    Calls Tryz.prog 103 #[.slice A L.length ca, .agg #[.int .i64 y, .int .i64 x]] w (fun e w' => e = .returned (.int .i64 (offP L y x)) ∧ Below w.heap.size w w') := by
  have HAB := Lib.hid (below_allocs (Below.refl w.heap.size w) (.cells #[.int .i64 y, .int .i64 x] 57))
  unfold offP
  by_cases h0 : y < 0 ∨ L = []
  · rw [if_pos h0]
    by_cases hy : y < 0
    · clear hl h0
      go_enter Tryz.func103, Tryz.ntmps103
      go_wp2
      go_ret
      exact ⟨rfl, HAB.out⟩
    · have hL : L.length = 0 := by rcases h0 with h | h; exact absurd h hy; rw [h]; rfl
      rw [hL]
      clear hl h0 hL
      go_enter Tryz.func103, Tryz.ntmps103
      go_wp2
      go_ret
      exact ⟨rfl, HAB.out⟩
  rw [if_neg h0]
  have hLl : 0 < L.length := by
    cases L with
    | nil => exact absurd (.inr rfl) h0
    | cons a l => simp
  have hy0 : ¬ y < 0 := fun h => h0 (.inl h)
  have hL0 : ¬ (L.length : Int) = 0 := by omega
  have hL0b : ((L.length : Int) == 0) = false := beq_eq_false_iff_ne.2 hL0
  by_cases hc : (L.length : Int) ≤ y
  · rw [if_pos hc]
    obtain ⟨k, hk⟩ : ∃ k, L.length = k + 1 := ⟨L.length - 1, by omega⟩
    have hkS : k < (sumsL L).length := by rw [sumsL_len]; omega
    obtain ⟨b, off, n, rfl, hn, hcell⟩ := hl.at_ hkS
    rw [sumsL_at (rows := L) (k := k) (by omega), ← hk, List.take_length] at hn
    obtain rfl := Option.some.inj hn
    have c0 := hcell 0 _ rfl
    simp only [Nat.add_zero, Nat.mul_one] at c0
    have c0' := holda HAB.out c0
    have hs : (L.length : Int) - 1 = (k : Int) := by omega
    have hwk : IntKind.i64.wrap (k : Int) = (k : Int) := IntWalk.i64_in _ (by omega)
    have hkI : (k : Int) < (L.length : Int) := by omega
    clear hl hcell hn h0 hk c0 hkS
    go_enter Tryz.func103, Tryz.ntmps103
    go_wp2
    go_ret
    exact ⟨rfl, HAB.out⟩
  · rw [if_neg hc]
    obtain ⟨k, rfl⟩ : ∃ k : Nat, y = k := ⟨y.toNat, by omega⟩
    have hkl : k < L.length := by omega
    have hkS : k < (sumsL L).length := by rw [sumsL_len]; omega
    obtain ⟨b, off, n, rfl, hn, hcell⟩ := hl.at_ hkS
    rw [sumsL_at hkl] at hn
    obtain rfl := Option.some.inj hn
    have hrow : L[k]? = some L[k] := List.getElem?_eq_getElem hkl
    have hct := cntL_take_succ hrow
    have hgd : L.getD k ⟨[], false⟩ = L[k] := by rw [List.getD_eq_getElem?_getD, hrow]; rfl
    rw [Int.toNat_natCast, hgd]
    have hm1 := cntL_mono L (show k + 1 ≤ L.length by omega)
    rw [List.take_length] at hm1
    have c0 := hcell 0 _ rfl
    simp only [Nat.add_zero, Nat.mul_one] at c0
    have HGR := Lib.hid (hl.below HAB.out)
    have c1 := holda HAB.out c0
    have HAH := Lib.hid (fahead_any _ L ca k _ HGR.out (by omega) hz)
    obtain ⟨p, hp⟩ : ∃ p, p = cntL (L.take k) := ⟨_, rfl⟩
    obtain ⟨z, hzz⟩ : ∃ z, z = roSize L[k] := ⟨_, rfl⟩
    rw [hct, ← hp, ← hzz] at c1
    rw [← hp] at HAH
    rw [← hp, ← hzz]
    rw [hct, ← hp, ← hzz] at hm1
    obtain ⟨s, hs⟩ : ∃ s, s = p + z := ⟨_, rfl⟩
    rw [← hs] at c1 hm1
    have hd : (s : Int) - (p : Int) = (z : Int) := by omega
    have hwz : IntKind.i64.wrap (z : Int) = (z : Int) := IntWalk.i64_in _ (by omega)
    have hyk : ¬ (L.length : Int) ≤ (k : Int) := hc
    have hkI : (k : Int) < (L.length : Int) := by omega
    obtain ⟨r, hr⟩ : ∃ r : Nat, r = p + min x.toNat z := ⟨_, rfl⟩
    have HR := Lib.hid hr
    have hrI : (p : Int) + (min (max 0 x) (z : Int)) = (r : Int) := by omega
    have hwr : IntKind.i64.wrap (r : Int) = (r : Int) := IntWalk.i64_in _ (by omega)
    have hy0' : ¬ (k : Int) < 0 := by omega
    rw [← hr]
    clear hl h0 hcell hkS hn hrow hct hgd hs hp hzz hm1 hr c0 hc
    go_enter Tryz.func103, Tryz.ntmps103
    go_upto_region 6 with (go_at_call 137; (with_reducible refine HAH.out.mono ?_); rintro e w6 ⟨rfl, rfl⟩)
    have z0 := (at_ (hp_new (W := w) (b := w.heap.size) (o := .cells #[.int .i64 (k : Int), .int .i64 x] 57) rfl) 0 _ rfl).1
    have z1 := (at_ (hp_new (W := w) (b := w.heap.size) (o := .cells #[.int .i64 (k : Int), .int .i64 x] 57) rfl) 1 _ rfl).1
    clear HGR HAH
    generalize World.alloc _ _ = W at HAB c1 z0 z1 ⊢
    refine wp_region_u 12 (fun w' => Below W.heap.size W w' ∧ w'.cell? ⟨w.heap.size, 0, none⟩ = some (.int .i64 (k : Int)) ∧ w'.cell? ⟨w.heap.size, 1, none⟩ = some (.int .i64 x) ∧ w'.cell? ⟨b, off + k, none⟩ = some (.int .i64 (s : Int))) (by kernel_rfl) (by kernel_rfl) ?_ ?_
    · exact ⟨(Below.refl _ _).drew, z0, z1, c1⟩
    simp only [List.take_succ_cons, List.take_zero, List.drop_succ_cons, List.drop_zero]
    repeat (first
      | (refine seqU_skip (by rfl) ?_; simp only [Act.put, List.setIfInBounds_toArray, List.set_cons_zero, List.set_cons_succ])
      | (refine seqU_val ?_ (by rfl) ?_ ?_; rotate_left; · (intro w' hS; obtain ⟨_, _, _, _⟩ := hS; go_simp; first | done | with_reducible rfl)
         simp only [Act.put, List.setIfInBounds_toArray, List.set_cons_zero, List.set_cons_succ]))
    refine seqU_nil (fun w' hS => ?_)
    have HB := Lib.hid (below_tail HAB.out hS.1)
    clear hS c1 z0 z1
    go_wp2
    go_ret
    exact ⟨rfl, HB.out⟩
set_option maxRecDepth 100000 in
set_option maxHeartbeats 1600000 in
theorem fplace1_any (bs bo : Nat) (A : Option Addr) (L : List Ro) (ca off i : Nat) (W : World) (hi : i < L.length) (_hz : L.length ≤ 1000000)
    (ha : W.cell? ⟨bs, 0, none⟩ = some (.slice A L.length ca)) (hx : W.cell? ⟨bo, 0, none⟩ = some (.int .i64 off)) (hc : GrAt encN 1 W A (sumsL L)) :
    Calls Tryz.prog 136 (#[.int .i64 i] ++ #[.pointer (some ⟨bs, 0, none⟩), .pointer (some ⟨bo, 0, none⟩)]) W fun e w' => e = .returned (.bool (decide (off < cntL (L.take (i + 1))))) ∧ ∃ q, w' = W.drewN q := by
  have hkS : i < (sumsL L).length := by rw [sumsL_len]; omega
  obtain ⟨b, o, n, rfl, hn, hcell⟩ := hc.at_ hkS
  rw [sumsL_at (rows := L) (k := i) (by omega)] at hn
  obtain rfl := Option.some.inj hn
  have c0 := hcell 0 _ rfl
  simp only [Nat.add_zero, Nat.mul_one] at c0
  have hiz : (i : Int) < (L.length : Int) := by omega
  clear hc hn hcell hkS
  go_enter Tryz.func136, Tryz.ntmps136
  go_wp2
  go_region
  all_goals go_wp2
  all_goals go_ret
  all_goals exact ⟨by first | rfl | simp, 1, rfl⟩
theorem firstGt_le (L : List Ro) (off : Nat) : firstGt L off ≤ L.length := by
  unfold firstGt
  have := List.countP_le_length (p := fun k => decide (cntL (L.take (k + 1)) ≤ off)) (l := List.range L.length)
  rwa [List.length_range] at this
theorem info_posz : (Tryz.prog.info? 57).map (·.size) = some 2 := by kernel_rfl
theorem ret_pos {fn : Func} {p : Tmp} (hr : fn.results = #[.cell p 57]) (tmps : Array Value) (w : World) (b : Nat) (u v : Value) (hp : tmps.getD p undef = .pointer (some ⟨b, 0, none⟩)) (h0 : w.cell? ⟨b, 0, none⟩ = some u) (h1 : w.cell? ⟨b, 1, none⟩ = some v) :
    (results fn tmps).run Tryz.prog w = .ok (.agg #[u, v]) w := by
  rw [results_cell1 hr, hp]
  have := run_loadVar_mid (P := Tryz.prog) w b 0 57 [u, v] _ (fun j x hj => by
    rw [Nat.zero_add]
    match j, hj with
    | 0, hj => simp at hj; subst hj; exact h0
    | 1, hj => simp at hj; subst hj; exact h1) Tryz.underlying57 rfl info_posz
  simp only [asAddr, Sem.run_pure, Result.andThen_ok, this]
set_option maxRecDepth 100000 in
set_option maxHeartbeats 3200000 in
theorem fplace_any (A : Option Addr) (L : List Ro) (ca off : Nat) (w : World) (hl : GrAt encN 1 w A (sumsL L)) (h0 : 0 < L.length) (hz : L.length ≤ 1000000) (hbig : cntL L ≤ 1000000000000) (ho : off ≤ 1000000000000) :
    Calls Tryz.prog 102 #[.slice A L.length ca, .int .i64 off] w (fun e w' => e = .returned (.agg #[.int .i64 (plP L off).1, .int .i64 (plP L off).2]) ∧ Below w.heap.size w w') := by
  obtain ⟨W0, hW0⟩ : ∃ W0, W0 = ((w.alloc (.cells #[.slice A L.length ca] 122)).alloc (.cells #[.int .i64 off] 3)).alloc (.cells #[.int .i64 0, .int .i64 0] 57) := ⟨_, rfl⟩
  have hsize : W0.heap.size = w.heap.size + 1 + 1 + 1 := by rw [hW0]; simp
  have hB0 : Below w.heap.size w W0 := by rw [hW0]; exact below_allocs (below_allocs (below_allocs (Below.refl _ _) _) _) _
  have ca0 : W0.cell? ⟨w.heap.size, 0, none⟩ = some (.slice A L.length ca) := by rw [hW0]; exact (at_ (hp_old (hp_old (hp_new rfl))) 0 _ rfl).1
  have cx : W0.cell? ⟨w.heap.size + 1, 0, none⟩ = some (.int .i64 off) := by rw [hW0]; exact (at_ (hp_old (hp_new (by simp))) 0 _ rfl).1
  have cxb : W0.heap[w.heap.size + 1]? = some (.cells #[.int .i64 off] 3 (0, 0)) := by rw [hW0]; exact hp_old (hp_new (by simp))
  have cp : W0.heap[w.heap.size + 1 + 1]? = some (.cells #[.int .i64 0, .int .i64 0] 57 (0, 0)) := by rw [hW0]; exact hp_new (by simp)
  have hl0 := hl.below hB0
  have eg : ∀ args w, (callFunc 136 args).run Tryz.prog w = .ok (.enter 136 args) w := enters_of Tryz.func136 (by kernel_rfl) rfl
  have hS := Any.sort_Search Tryz.search 136 #[.pointer (some ⟨w.heap.size, 0, none⟩), .pointer (some ⟨w.heap.size + 1, 0, none⟩)] L.length (fun i => decide (off < cntL (L.take (i + 1)))) W0 eg (by omega)
    (fun m os i hi => (fplace1_any w.heap.size (w.heap.size + 1) A L ca off i _ hi hz (cell_grown (by simp [hsize]; omega) ca0 m os) (cell_grown (by simp [hsize]) cx m os) (hl0.below (below_grown_sl _ W0 m os (Nat.le_refl _)))).mono
      fun _ _ ⟨he, q, hq⟩ => ⟨he, q, #[], by rw [hq, grow_empty]⟩) (fun a b hab hb h => by have := cntL_mono L (show a + 1 ≤ b + 1 by omega); simp only [decide_eq_true_eq] at h ⊢; omega)
  have hcnt : (List.range L.length).countP (fun i => !decide (off < cntL (L.take (i + 1)))) = firstGt L off := by
    unfold firstGt
    congr 1
    funext k
    by_cases h : off < cntL (L.take (k + 1))
    · simp [h, Nat.not_le.2 h]
    · simp [h, Nat.not_lt.1 h]
  rw [hcnt] at hS
  change Calls Tryz.prog 135 _ _ _ at hS
  have HS := Lib.hid hS
  have HAH : Hid (∀ y w', y ≤ L.length → Below w.heap.size w w' → Calls Tryz.prog 137 #[.slice A L.length ca, .int .i64 y] w' (fun e w'' => e = .returned (.int .i64 (cntL (L.take y))) ∧ w' = w'')) := Lib.hid (fun y w' hy hb => fahead_any A L ca y w' (hl.below hb) hy hz)
  have HGR := Lib.hid hl0
  have HB0 := Lib.hid hB0
  have HSZ := Lib.hid hsize
  have CA := Lib.hid ca0
  have CX := Lib.hid cx
  have HCX := Lib.hid cxb
  have CP := Lib.hid cp
  have HL0 : Hid (0 < L.length ∧ L ≠ []) := Lib.hid ⟨h0, fun h => by rw [h] at h0; simp at h0⟩
  have hmax : max (0 : Int) (off : Int) = (off : Int) := by omega
  have hL0 : ¬ (L.length : Int) = 0 := by omega
  have hL0b : ((L.length : Int) == 0) = false := beq_eq_false_iff_ne.2 hL0
  have hfl := firstGt_le L off
  have hmf : ∀ (fn : Fn) (first cap : Array Value) (w : World), (Instr.makeFunc fn first cap).run Tryz.prog w = .ok (.func fn first cap) w := fun _ _ _ _ => rfl
  unfold plP
  rw [if_neg HL0.out.2]
  obtain ⟨r, hr⟩ : ∃ r, r = firstGt L off := ⟨_, rfl⟩
  rw [← hr] at HS hfl ⊢
  have HR := Lib.hid hr
  have HW0 := Lib.hid hW0
  clear hl hl0 ca0 cx cxb cp hS hcnt eg hr hB0 hsize hW0 h0
  by_cases hlt : r < L.length
  · rw [if_pos hlt]
    have hne : ((r : Int) == (L.length : Int)) = false := beq_eq_false_iff_ne.2 (by omega)
    have hrI : (r : Int) < (L.length : Int) := by omega
    obtain ⟨p, hp⟩ : ∃ p, p = cntL (L.take r) := ⟨_, rfl⟩
    have hpo : p ≤ off := by
      have h2 := HR.out
      by_cases hr0 : r = 0
      · rw [hp, hr0]; simp [cntL]
      · have := (firstGt_spec L off (k := r - 1) (by omega)).2 (by rw [← h2]; omega)
        rw [show r - 1 + 1 = r by omega] at this
        rw [hp]; exact this
    have hd : (off : Int) - (p : Int) = ((off - p : Nat) : Int) := by omega
    have hwd : IntKind.i64.wrap ((off - p : Nat) : Int) = ((off - p : Nat) : Int) := IntWalk.i64_in _ (by omega)
    have HAH2 := Lib.hid (fun w' hb => HAH.out r w' (by omega) hb)
    rw [← hp] at HAH2 ⊢
    clear hp
    go_enter Tryz.func102, Tryz.ntmps102
    go_upto_region 8 with (go_at_call 135; rw [← HW0.out]; refine HS.out.mono ?_; rintro e w' ⟨rfl, q, os, rfl⟩; have k0 := cell_grown (by simp [HSZ.out]; try omega) CA.out q os; have k1 := cell_grown (by simp [HSZ.out]; try omega) CX.out q os; have HB1 := Lib.hid (below_grown_sl W0.heap.size W0 q os (Nat.le_refl _)); have HP1 := Lib.hid ((HB1.out.block _ (lt_of_heap CP.out)).trans CP.out); generalize Go.Sort.grow _ _ = W1 at k0 k1 HB1 HP1 ⊢)
    refine wp_region_u 6 (fun w' => Below W1.heap.size W1 w' ∧ w'.cell? ⟨w.heap.size, 0, none⟩ = some (.slice A L.length ca) ∧ w'.cell? ⟨w.heap.size + 1, 0, none⟩ = some (.int .i64 (off : Int))) (by kernel_rfl) (by kernel_rfl) ?_ ?_
    · exact ⟨(Below.refl _ _).drew, k0, k1⟩
    simp only [List.take_succ_cons, List.take_zero, List.drop_succ_cons, List.drop_zero]
    repeat (first
      | (refine seqU_skip (by rfl) ?_; simp only [Act.put, List.setIfInBounds_toArray, List.set_cons_zero, List.set_cons_succ])
      | ((refine seqU_call 137 #[.slice A L.length ca, .int .i64 (r : Int)] (.int .i64 (p : Int)) (by rfl) ?_ (fun w' hS => (HAH2.out w' (below_tail HB0.out (below_tail HB1.out hS.1))).mono fun e w2 ⟨he, hw⟩ => ⟨he, hw ▸ hS⟩) ?_; (focus (intro w2; go_simp; done))); simp only [Act.put, List.setIfInBounds_toArray, List.set_cons_zero, List.set_cons_succ])
      | (refine seqU_val ?_ (by rfl) ?_ ?_; rotate_left; · (intro w' hS; obtain ⟨_, _, _⟩ := hS; go_simp; first | done | with_reducible rfl)
         simp only [Act.put, List.setIfInBounds_toArray, List.set_cons_zero, List.set_cons_succ]))
    refine seqU_nil (fun w' hS => ?_)
    have HB2 := Lib.hid (below_tail HB0.out (below_tail HB1.out hS.1))
    have HP2 := Lib.hid ((hS.1.block _ (lt_of_heap HP1.out)).trans HP1.out)
    obtain ⟨y0, y0f⟩ := at_ HP2.out 0 _ rfl
    obtain ⟨y1, y1f⟩ := at_ HP2.out 1 _ rfl
    clear hS k0 k1
    go_wp2
    have HB3 := below_set (below_set HB2.out (show w.heap.size ≤ w.heap.size + 1 + 1 by omega) (o := 0) (.int .i64 (r : Int))) (show w.heap.size ≤ w.heap.size + 1 + 1 by omega) (o := 1) (.int .i64 ((off - p : Nat) : Int))
    have hset := set_two (u' := .int .i64 (r : Int)) (v' := .int .i64 ((off - p : Nat) : Int)) ⟨y0, y0f⟩ ⟨y1, y1f⟩
    exact bodyPost_ret (ret_pos rfl _ _ (w.heap.size + 1 + 1) _ _ rfl hset.1.1 hset.2.1) rfl ⟨rfl, HB3⟩
  · rw [if_neg hlt]
    have hre : r = L.length := by omega
    have heq : ((r : Int) == (L.length : Int)) = true := by simp [hre]
    have hreI : (r : Int) = (L.length : Int) := by omega
    obtain ⟨k, hk⟩ : ∃ k, k = L.length - 1 := ⟨_, rfl⟩
    have hkL : k < L.length := by have := HL0.out.1; omega
    have hkS : k < (sumsL L).length := by rw [sumsL_len]; exact hkL
    obtain ⟨b, o, n, hA, hn, hcell⟩ := HGR.out.at_ hkS
    rw [sumsL_at (rows := L) (k := k) hkL, show k + 1 = L.length by omega, List.take_length] at hn
    obtain rfl := Option.some.inj hn
    have c0 := hcell 0 _ rfl
    simp only [Nat.add_zero, Nat.mul_one] at c0
    have hs : (r : Int) - 1 = (k : Int) := by omega
    have hwk : IntKind.i64.wrap (k : Int) = (k : Int) := IntWalk.i64_in _ (by omega)
    have hkI : (k : Int) < (L.length : Int) := by omega
    obtain ⟨p, hp⟩ : ∃ p, p = cntL (L.take k) := ⟨_, rfl⟩
    have hpm := cntL_mono L (show k ≤ L.length by omega)
    rw [List.take_length, ← hp] at hpm
    obtain ⟨t, ht⟩ : ∃ t, t = min off (cntL L) := ⟨_, rfl⟩
    have hpo : p ≤ t := by
      have h2 := (firstGt_spec L off hkL).2 (by rw [← HR.out]; omega)
      rw [show k + 1 = L.length by omega, List.take_length] at h2
      omega
    have htI : min (off : Int) (cntL L : Int) = (t : Int) := by omega
    have hto : t ≤ 1000000000000 := by omega
    have hd : (t : Int) - (p : Int) = ((t - p : Nat) : Int) := by omega
    have hwd : IntKind.i64.wrap ((t - p : Nat) : Int) = ((t - p : Nat) : Int) := IntWalk.i64_in _ (by omega)
    have HAH2 := Lib.hid (fun w' hb => HAH.out k w' (by omega) hb)
    rw [← hp] at HAH2
    rw [← hk, ← hp, ← ht]
    subst hA
    have HRE := Lib.hid hreI
    clear hp hkS hn hcell hk hkL hre hreI hpm hpo ht hto
    go_enter Tryz.func102, Tryz.ntmps102
    go_upto_region 7 with (go_at_call 135; rw [← HW0.out]; refine HS.out.mono ?_; rintro e w' ⟨rfl, q, os, rfl⟩; have k0 := cell_grown (by simp [HSZ.out]; try omega) CA.out q os; have k1 := cell_grown (by simp [HSZ.out]; try omega) CX.out q os; have HB1 := Lib.hid (below_grown_sl W0.heap.size W0 q os (Nat.le_refl _)); have HP1 := Lib.hid ((HB1.out.block _ (lt_of_heap CP.out)).trans CP.out); generalize Go.Sort.grow _ _ = W1 at k0 k1 HB1 HP1 ⊢)
    have c1 := holda HB1.out c0
    refine wp_region_u 6 (fun w' => Below W1.heap.size W1 w' ∧ w'.cell? ⟨w.heap.size, 0, none⟩ = some (.slice (some ⟨b, o, none⟩) L.length ca) ∧ w'.cell? ⟨w.heap.size + 1, 0, none⟩ = some (.int .i64 (off : Int)) ∧ w'.cell? ⟨b, o + k, none⟩ = some (.int .i64 (cntL L : Int))) (by kernel_rfl) (by kernel_rfl) ?_ ?_
    · exact ⟨(Below.refl _ _).drew, k0, k1, c1⟩
    simp only [List.take_succ_cons, List.take_zero, List.drop_succ_cons, List.drop_zero]
    repeat (first
      | (refine seqU_skip (by rfl) ?_; simp only [Act.put, List.setIfInBounds_toArray, List.set_cons_zero, List.set_cons_succ])
      | (refine seqU_val ?_ (by rfl) ?_ ?_; rotate_left; · (intro w' hS; obtain ⟨_, _, _, _⟩ := hS; go_simp; first | done | with_reducible rfl)
         simp only [Act.put, List.setIfInBounds_toArray, List.set_cons_zero, List.set_cons_succ]))
    refine seqU_nil (fun w' hS => ?_)
    have HX1 := Lib.hid ((HB1.out.block _ (lt_of_heap HCX.out)).trans HCX.out)
    have HX2 := Lib.hid ((hS.1.block _ (lt_of_heap HX1.out)).trans HX1.out)
    have HP2 := Lib.hid ((hS.1.block _ (lt_of_heap HP1.out)).trans HP1.out)
    obtain ⟨k2, k2f⟩ := at_ HX2.out 0 _ rfl
    have HB2 := Lib.hid (below_set (below_tail HB0.out (below_tail HB1.out hS.1)) (show w.heap.size ≤ w.heap.size + 1 by omega) (o := 0) (.int .i64 (t : Int)))
    have HK3 := Lib.hid (whole_set (cs := [.int .i64 (off : Int)]) HX2.out 0 (.int .i64 (t : Int)) (cs' := [.int .i64 (t : Int)]) rfl)
    have HS3 := Lib.hid ((Mod.refl [w.heap.size + 1] w').setCell (a := ⟨w.heap.size + 1, 0, none⟩) (.inl (by simp)) (.int .i64 (t : Int)) |>.cell (by simp) hS.2.1)
    have HP3 := Lib.hid ((heap_other (i := 0) (v := .int .i64 (t : Int)) (show w.heap.size + 1 + 1 ≠ w.heap.size + 1 by omega)).trans HP2.out)
    clear hS k0 k1 c1
    go_upto_region 8 with fail
    clear k2 k2f
    generalize World.setCell _ _ _ = W4 at HB2 HK3 HS3 HP3 ⊢
    have k0 := HS3.out
    have k1 := (at_ HK3.out 0 _ rfl).1
    refine wp_region_u 6 (fun w' => Below W4.heap.size W4 w' ∧ w'.cell? ⟨w.heap.size, 0, none⟩ = some (.slice (some ⟨b, o, none⟩) L.length ca) ∧ w'.cell? ⟨w.heap.size + 1, 0, none⟩ = some (.int .i64 (t : Int))) (by kernel_rfl) (by kernel_rfl) ?_ ?_
    · exact ⟨(Below.refl _ _).drew, k0, k1⟩
    simp only [List.take_succ_cons, List.take_zero, List.drop_succ_cons, List.drop_zero]
    repeat (first
      | (refine seqU_skip (by rfl) ?_; simp only [Act.put, List.setIfInBounds_toArray, List.set_cons_zero, List.set_cons_succ])
      | ((refine seqU_call 137 #[.slice (some ⟨b, o, none⟩) L.length ca, .int .i64 (k : Int)] (.int .i64 (p : Int)) (by rfl) ?_ (fun w' hS => (HAH2.out w' (below_tail HB2.out hS.1)).mono fun e w2 ⟨he, hw⟩ => ⟨he, hw ▸ hS⟩) ?_; (focus (intro w2; go_simp; done))); simp only [Act.put, List.setIfInBounds_toArray, List.set_cons_zero, List.set_cons_succ])
      | (refine seqU_val ?_ (by rfl) ?_ ?_; rotate_left; · (intro w' hS; obtain ⟨_, _, _⟩ := hS; go_simp; first | done | with_reducible rfl)
         simp only [Act.put, List.setIfInBounds_toArray, List.set_cons_zero, List.set_cons_succ]))
    refine seqU_nil (fun w' hS => ?_)
    have HB5 := Lib.hid (below_tail HB2.out hS.1)
    have HP5 := Lib.hid ((hS.1.block _ (lt_of_heap HP3.out)).trans HP3.out)
    obtain ⟨y0, y0f⟩ := at_ HP5.out 0 _ rfl
    obtain ⟨y1, y1f⟩ := at_ HP5.out 1 _ rfl
    clear hS k0 k1
    go_wp2
    have HB6 := below_set (below_set HB5.out (show w.heap.size ≤ w.heap.size + 1 + 1 by omega) (o := 0) (.int .i64 (k : Int))) (show w.heap.size ≤ w.heap.size + 1 + 1 by omega) (o := 1) (.int .i64 ((t - p : Nat) : Int))
    have hset := set_two (u' := .int .i64 (k : Int)) (v' := .int .i64 ((t - p : Nat) : Int)) ⟨y0, y0f⟩ ⟨y1, y1f⟩
    exact bodyPost_ret (ret_pos rfl _ _ (w.heap.size + 1 + 1) _ _ rfl hset.1.1 hset.2.1) rfl ⟨rfl, HB6⟩
end Go.Proofs.YtffdblmdelgkaaaGreat

namespace Go.Proofs.YtffdblmdelgkaaaGreat
open Go.RowKit
/-- The copy that a Sort makes: an append to nil. -/
theorem append_nil_none {P : Program} {t ty e : TypeId} {i : TypeInfo} (ht : P.underlying t = some (.slice e)) (hi : P.info? e = some i) (X : Option Addr) (c : Nat) (w : World) :
    (Builtin.append_ #[t, t] ty #[.slice none 0 0, .slice X 0 c]).run P w = .ok (.slice none 0 0) w := by
  cases X <;> simp [Builtin.append_, run_underlying ht, sizeOf, typeInfo, hi, Builtin.lenOf, Builtin.firstCells, loadCells, loadCellsFrom]
theorem wpList_append_nothing {P : Program} {ops : Array Oper} {rest : List Oper} {o : Oper} {a : Act} {w : World} {Q : Exit → Act → World → Prop} (hgd : o.guard = none) (s x : Operand) (t : TypeId) (ho : o.op = .call { callee := .builtin .append, args := #[s, x], argTypes := #[t, t] })
    {e : TypeId} {i : TypeInfo} (ht : P.underlying t = some (.slice e)) (hi : P.info? e = some i) (X : Option Addr) (c : Nat) (hs : a.eval s = .slice none 0 0) (hx : a.eval x = .slice X 0 c)
    (h : wpList P ops Q rest (a.put o.dst (.slice none 0 0)) w) : wpList P ops Q (o :: rest) a w := by
  refine wpList_plain hgd fun K hK => ?_
  unfold Oper.wp execOp
  simp only [ho, resolve, invoke, builtin, Sem.run_bind, Sem.run_pure, Result.andThen_ok, List.map_toArray, List.map_cons, List.map_nil, hs, hx, append_nil_none ht hi X c w]
  exact hK _ _ h
end Go.Proofs.YtffdblmdelgkaaaGreat

namespace Go.Proofs.YtffdblmdelgkaaaGreat
open Go.RowKit
set_option maxRecDepth 100000 in
theorem cmend0_any (w : World) : Calls Tryz.prog 142 #[.slice none 0 0] w (fun e w' => e = .returned (.tuple #[]) ∧ w = w') := by
  go_enter Tryz.func142, Tryz.ntmps142
  go_wp2_with fail
  go_loopw [2] (fun s2 wr => s2 = .int .i64 0 ∧ w = wr) (fun _ _ => 0)
  case atStart => exact ⟨rfl, rfl⟩
  case round =>
    obtain ⟨rfl, rfl⟩ := hrel
    go_wp2
    go_end0
    exact ⟨rfl, rfl⟩
set_option maxRecDepth 100000 in
theorem cMend0_any (A : Option Addr) (ca : Nat) (w : World) : Calls Tryz.prog 133 #[.slice A 0 ca] w (fun e w' => e = .returned (.slice none 0 0) ∧ w = w') := by
  obtain ⟨j0, hj, gz0, gz1, gz2⟩ := info_parts info_cellz
  have HM := Lib.hid (fun w => cmend0_any w)
  have HD : Hid (∀ w, Calls Tryz.prog 150 #[.slice none 0 0] w (fun e w' => e = .returned (.tuple #[]) ∧ w = w')) := Lib.hid (fun w => mend1_any _ w)
  have HW : Hid (Calls Tryz.prog 114 #[.slice A 0 ca, .func (.func 150) #[] #[]] w (fun e w' => e = .returned (.slice none 0 0) ∧ w = w')) := Lib.hid (by
    go_enter Tryz.func114, Tryz.ntmps114
    go_upto_region 1 with fail
    refine wp_region_lit ?_
    refine wpList_valG (.slice A 0 ca) (by rfl) (by rfl) ?_
    simp only [Act.put, List.setIfInBounds_toArray, List.set_cons_zero, List.set_cons_succ]
    refine wpList_append_nothing (P := Tryz.prog) rfl (.const (.slice none 0 0)) (.tmp 6) 48 rfl Tryz.underlying48 hj A ca rfl rfl ?_
    simp only [Act.put, List.setIfInBounds_toArray, List.set_cons_zero, List.set_cons_succ]
    go_wp2_with (first
      | (go_at_call 142; (with_reducible refine (HM.out _).mono ?_); rintro e w1 ⟨rfl, rfl⟩)
      | ((with_reducible refine (HD.out _).mono ?_); rintro e w1 ⟨rfl, rfl⟩))
    go_ret
    exact ⟨rfl, rfl⟩)
  go_enter Tryz.func133, Tryz.ntmps133
  go_wp2_with (go_at_call 114; refine HW.out.mono ?_; rintro e w1 ⟨rfl, rfl⟩)
  go_ret
  exact ⟨rfl, rfl⟩
theorem GrAt.firsts0 {α : Type} {enc : α → List Value} {k : Nat} {w : World} {A : Option Addr} {l : List α} (h : GrAt enc k w A l) (n : Nat) : GrAt enc k w A (l.take n) := fun h0 => by
  rw [List.length_take] at h0
  obtain ⟨b, off, e, hc⟩ := h (by omega)
  exact ⟨b, off, e, fun i x hx j v hv => hc i x (by rw [List.getElem?_take] at hx; split at hx; exact hx; cases hx) j v hv⟩
/-- Cells of rows that read as a list. -/
def RcPost (l : List Cl) (w : World) (e : Ending) (w' : World) : Prop := ∃ A cap, e = .returned (.slice A l.length cap) ∧ l.length ≤ cap ∧ RcAt w' ⟨A, l, cap, false⟩ ∧ Below w.heap.size w w'
def RcPost0 (l : List Cl) (w : World) (e : Ending) (w' : World) : Prop := ∃ A cap, e = .returned (.slice A l.length cap) ∧ l.length ≤ cap ∧ RcAt w' ⟨A, l, cap, false⟩ ∧ Below w.heap.size w w' ∧ (l.length = 0 → A = none ∧ cap = 0)
theorem rc_nil (w : World) (A : Option Addr) (cap : Nat) (b : Bool) : RcAt w ⟨A, [], cap, b⟩ := ⟨Nat.zero_le _, fun c hc => by (try cases hc), fun h => absurd h (by simp), fun h => absurd h (by simp)⟩
theorem cMendE_any (A : Option Addr) (l : List Cl) (ca : Nat) (w : World) (hl : GrAt encCl 8 w A l) (hz : l.length ≤ 10000) (hf : Fine l) :
    Calls Tryz.prog 133 #[.slice A l.length ca] w (RcPost0 (mendL l) w) := by
  by_cases h0 : 0 < l.length
  · refine (cMend_any A l ca w hl h0 hz).mono ?_
    rintro e w' ⟨g, cap, rfl, hc, hb⟩
    exact ⟨_, cap, rfl, hc.cap, .of_own hc (by rw [mendL_len]; exact hz) hf.mend false, hb, fun h => by rw [mendL_len] at h; omega⟩
  · have : l = [] := List.length_eq_zero_iff.1 (by omega)
    subst this
    refine (cMend0_any A ca w).mono ?_
    rintro e w' ⟨rfl, rfl⟩
    exact ⟨none, 0, rfl, Nat.le_refl _, rc_nil _ _ _ _, Below.refl _ _, fun _ => ⟨rfl, rfl⟩⟩
theorem fine_flatR {L : List Ro} (h : ∀ r ∈ L, Fine r.cs) : Fine (flatR L) := fun c hc => by
  obtain ⟨r, hr, hc⟩ := List.mem_flatMap.1 hc
  exact h r hr c (List.mem_filter.1 hc).1
theorem RcAt.firsts {w : World} {A : Option Addr} {l : List Cl} {cap : Nat} {b : Bool} (h : RcAt w ⟨A, l, cap, b⟩) (n : Nat) : RcAt w ⟨A, l.take n, cap, b⟩ :=
  ⟨by have := h.1; simp only [List.length_take] at *; omega, h.2.1.take n, GrAt.firsts0 h.2.2.1 n, fun h0 => h.2.2.2 (by have h1 : 0 < (l.take n).length := h0; rw [List.length_take] at h1; show 0 < l.length; omega)⟩
theorem flatR_take {L : List Ro} {i : Nat} {r : Ro} (h : L[i]? = some r) : flatR (L.take (i + 1)) = flatR (L.take i) ++ r.cs.filter nPad := by
  unfold flatR
  rw [List.take_add_one, h, List.flatMap_append]
  simp
theorem flatR_len (L : List Ro) : (flatR L).length = cntL L := by
  unfold flatR cntL
  rw [List.length_flatMap]
  rfl
theorem flatR_le (L : List Ro) (i : Nat) : (flatR (L.take i)).length ≤ cntL L := by
  rw [flatR_len]
  have := cntL_mono L (show i ≤ max i L.length by omega)
  rwa [List.take_of_length_le (l := L) (i := max i L.length) (by omega)] at this
set_option maxRecDepth 100000 in
set_option maxHeartbeats 6400000 in
theorem fFlow_any (A : Option Addr) (L : List Rh) (ca : Nat) (w : World) (hl : GrAt encRh 2 w A L) (hr : ∀ r ∈ L, RcAt w r) (hz : L.length ≤ 1000000) (hN : cntL (L.map roOf) ≤ 10000) :
    Calls Tryz.prog 100 #[.slice A L.length ca] w (RcPost (flowL (L.map roOf)) w) := by
  obtain ⟨j0, hj, gz0, gz1, gz2⟩ := info_parts info_cellz
  have HL := Lib.hid hl
  have HR := Lib.hid hr
  have HN := Lib.hid hN
  have HFF : Hid (Fine (flatR (L.map roOf))) := Lib.hid (fine_flatR (fun r h => by
    obtain ⟨x, hx, rfl⟩ := List.mem_map.1 h
    exact (hr x hx).2.1))
  have HM := Lib.hid (fun (A : Option Addr) (l : List Cl) (ca : Nat) (w : World) (hl : GrAt encCl 8 w A l) (hz : l.length ≤ 10000) (hf : Fine l) => cMendE_any A l ca w hl hz hf)
  have HU := Lib.hid (fun (A : Option Addr) (l : List Cl) (ca : Nat) (w : World) (hl : GrAt encCl 8 w A l) (hz : l.length ≤ 100000000) => cUsed_any A l ca w hl hz)
  obtain ⟨m, hm⟩ : ∃ m, L.length = m := ⟨_, rfl⟩
  have HLM := Lib.hid hm
  rw [hm] at hz ⊢
  clear hl hr hm hN
  go_enter Tryz.func100, Tryz.ntmps100
  go_wp2_with fail
  go_loopw [3, 10] (fun s3 s10 wr => ∃ i : Nat, s10 = .int .i64 i ∧ i ≤ m ∧ ClO w.heap.size wr s3 (flatR ((L.map roOf).take i)) ∧ Below w.heap.size w wr) (fun _ s10 _ => m - (intOf s10).toNat)
  case atStart => exact ⟨0, rfl, Nat.zero_le _, World.ownsRow_nil _ _ _ _, Below.refl _ _⟩
  case round =>
    obtain ⟨i, rfl, hi, hO, hB⟩ := hrel
    have HO := Lib.hid hO
    have HB := Lib.hid hB
    by_cases hlt : i < m
    rotate_left
    · have hge : ¬ (i : Int) < (m : Int) := by omega
      have hie : i = m := by omega
      obtain ⟨A3, c3, hv3⟩ := row_form hO
      rw [hie, ← HLM.out, List.take_of_length_le (by simp)] at HO hv3
      subst hv3
      obtain ⟨F, hF⟩ : ∃ F, F = flatR (L.map roOf) := ⟨_, rfl⟩
      have hFz : F.length ≤ 10000 := by rw [hF, flatR_len]; exact HN.out
      rw [← hF] at HO ⊢
      have HM2 := Lib.hid (HM.out A3 F c3 wr (gr_own encCl_len (n := F.length) (c := c3) (base := w.heap.size) (e := 109) HO.out) hFz (by rw [hF]; exact HFF.out))
      have HFL : Hid (flowL (L.map roOf) = (mendL F).take (usedL (mendL F))) := Lib.hid (by unfold flowL; rw [hF])
      obtain ⟨G, hG⟩ : ∃ G, G = mendL F := ⟨_, rfl⟩
      have hGz : G.length ≤ 10000 := by rw [hG, mendL_len]; exact hFz
      rw [← hG] at HM2 HFL
      obtain ⟨n, hn⟩ : ∃ n, n = G.length := ⟨_, rfl⟩
      obtain ⟨u, hu⟩ : ∃ u, u = usedL G := ⟨_, rfl⟩
      have hun : u ≤ n := by rw [hu, hn]; exact usedL_le G
      have HGN := Lib.hid hn
      have HUE := Lib.hid hu
      have HGZ := Lib.hid hGz
      clear hO hB hie hF hFz hG hGz hn hu
      go_upto_region 13 with (go_at_call 133; (with_reducible refine HM2.out.mono ?_); rintro e w5 ⟨A5, c5, rfl, hc5, hg5, hb5, -⟩; rw [← HGN.out] at hc5 ⊢; have HG5 := Lib.hid hg5; have HB5 := Lib.hid (below_tail HB.out hb5); clear hg5 hb5)
      have HU5 := Lib.hid (HU.out A5 G c5 w5 HG5.out.2.2.1 (by have := HGZ.out; omega))
      rw [← HUE.out, ← HGN.out] at HU5
      have huc : u ≤ c5 := by omega
      go_wp2_with (go_at_call 104; (with_reducible refine HU5.out.mono ?_); rintro e w6 ⟨rfl, hb6⟩; have HB6 := Lib.hid hb6; clear hb6)
      go_ret
      rw [HFL.out]
      refine ⟨A5, c5, ?_, ?_, (HG5.out.below HB6.out).firsts _, below_tail HB5.out HB6.out⟩
      · rw [List.length_take, ← HUE.out, ← HGN.out, Nat.min_eq_left hun]; rfl
      · rw [List.length_take, ← HUE.out, ← HGN.out]; omega
    · have hltI : (i : Int) < (m : Int) := by omega
      have hil : i < L.length := by rw [HLM.out]; exact hlt
      obtain ⟨b, off, r, rfl, hx, hcell⟩ := (HL.out.below hB).at_ hil
      have HRC := Lib.hid ((HR.out r (List.mem_of_getElem? hx)).below hB)
      have hxm : (L.map roOf)[i]? = some (roOf r) := by rw [List.getElem?_map, hx]; rfl
      have HFT := Lib.hid (flatR_take hxm)
      have c0 := hcell 0 _ rfl
      have c1 := hcell 1 _ rfl
      simp only [Nat.add_zero] at c0
      obtain ⟨P, hP⟩ : ∃ P, P = flatR ((L.map roOf).take i) := ⟨_, rfl⟩
      have hPle : ∀ k, (P ++ (r.cs.take k).filter nPad).length ≤ 10000 := fun k => by
        have h1 := flatR_le (L.map roOf) (i + 1)
        have h2 := HN.out
        rw [HFT.out, ← hP, List.length_append] at h1
        have h3 := ((List.take_sublist k r.cs).filter nPad).length_le
        show _ ≤ _
        rw [List.length_append]
        have : ((roOf r).cs.filter nPad).length = (r.cs.filter nPad).length := rfl
        omega
      have HPL := Lib.hid hPle
      rw [← hP] at HO HFT
      have HRZ := Lib.hid HRC.out.1
      obtain ⟨W, hW⟩ : ∃ W, wr.alloc (.cells #[.slice r.A r.cs.length r.cap, .bool r.cont] 50) = W := ⟨_, rfl⟩
      have hbW : Below wr.heap.size wr W := by rw [← hW]; exact below_allocs (Below.refl _ _) _
      have HBW := Lib.hid hbW
      have HOW := Lib.hid (HO.out.below hbW)
      have HRW := Lib.hid (HR.out r (List.mem_of_getElem? hx))
      have HWW := Lib.hid hW
      obtain ⟨n, hn⟩ : ∃ n, r.cs.length = n := ⟨_, rfl⟩
      rw [hn] at c0
      have HRN := Lib.hid hn
      have hwi : IntKind.i64.wrap ((i : Int) + 1) = (i : Int) + 1 := IntWalk.i64_in _ (by omega)
      have hn10 : n ≤ 10000 := by rw [← hn]; exact HRZ.out
      rw [hn] at HWW
      obtain ⟨w0, hw0⟩ : ∃ w0, w0 = wr := ⟨_, rfl⟩
      subst hw0
      clear hO hB hx hxm hcell hil hP hPle hbW hW hn
      go_upto_region 5 with fail
      rw [HWW.out]
      have z0 := (at_ (show W.heap[w0.heap.size]? = some (.cells #[.slice r.A n r.cap, .bool r.cont] 50 (0, 0)) from by rw [← HWW.out]; exact hp_new rfl) 0 _ rfl).1
      clear HWW c0 c1
      go_wp2_with fail
      clear z0
      go_loopw [3, 17] (fun s3 s17 wr => ∃ k : Nat, s17 = .int .i64 k ∧ k ≤ n ∧ ClO w.heap.size wr s3 (P ++ (r.cs.take k).filter nPad) ∧ Below w.heap.size w wr) (fun _ s17 _ => n - (intOf s17).toNat)
      case atStart => exact ⟨0, rfl, Nat.zero_le _, by simpa using HOW.out, below_tail HB.out HBW.out⟩
      case round =>
        obtain ⟨k, rfl, hk, hO, hB⟩ := hrel
        have hRc := HRW.out.below hB
        have HOk := Lib.hid hO
        have HBk := Lib.hid hB
        by_cases hlt2 : k < n
        rotate_left
        · have hge : ¬ (k : Int) < (n : Int) := by omega
          have hke : k = n := by omega
          have HKE := Lib.hid hke
          clear hO hB hRc hke
          go_wp2
          go_roundw
          case rel => exact ⟨i + 1, by go_num, by omega, by rw [HFT.out]; have := HOk.out; rw [HKE.out, ← HRN.out, List.take_length] at this; exact this, HBk.out⟩
          case measure => simp [intOf]; omega
        · have hlt2I : (k : Int) < (n : Int) := by omega
          have hkl : k < r.cs.length := by rw [HRN.out]; exact hlt2
          obtain ⟨b2, off2, c, hA2, hc2, hcell2⟩ := hRc.2.2.1.at_ hkl
          have HFK := Lib.hid (filter_take hc2)
          obtain ⟨bx, rfl⟩ : ∃ bx : Value × Unit, u3 = bx.1 := ⟨(u3, ()), rfl⟩
          have d0 := hcell2 0 _ rfl
          have d1 := hcell2 1 _ rfl
          have d2 := hcell2 2 _ rfl
          have d3 := hcell2 3 _ rfl
          have d4 := hcell2 4 _ rfl
          have d5 := hcell2 5 _ rfl
          have d6 := hcell2 6 _ rfl
          have d7 := hcell2 7 _ rfl
          simp only [Nat.add_zero] at d0
          have hA2' := Lib.hid hA2
          have hwk : IntKind.i64.wrap ((k : Int) + 1) = (k : Int) + 1 := IntWalk.i64_in _ (by omega)
          have hXZ := HPL.out k
          have HXZ := Lib.hid hXZ
          obtain ⟨xr, xm, xh, x1, x2, x3, x4, x5⟩ := c
          simp only at d0 d1 d2 d3 d4 d5 d6 d7
          obtain ⟨W9, hW9⟩ : ∃ W9, wr.alloc (.cells #[.int .i32 xr, .string xm, .int .i64 xh, .int .i64 x1, .int .i64 x2, .int .i64 x3, .int .i64 x4, .int .i64 x5] 109) = W9 := ⟨_, rfl⟩
          have hb9 : Below wr.heap.size wr W9 := by rw [← hW9]; exact below_allocs (Below.refl _ _) _
          have HB9 := Lib.hid (below_tail hB hb9)
          have HO9 := Lib.hid (hO.below hb9)
          have HN9 := Lib.hid (show W9.heap[wr.heap.size]? = some (.cells #[.int .i32 xr, .string xm, .int .i64 xh, .int .i64 x1, .int .i64 x2, .int .i64 x3, .int .i64 x4, .int .i64 x5] 109 (0, 0)) from by rw [← hW9]; exact hp_new rfl)
          have HW9 := Lib.hid hW9
          rw [hA2]
          clear hO hB hRc hA2 hc2 hcell2 hkl hXZ hb9 hW9
          by_cases hh : xh = 3
          · have hhb : (xh == 3) = true := by simp [hh]
            have HH := Lib.hid hh
            clear hh
            go_upto_region 8 with fail
            rw [HW9.out]
            have e2 := (at_ HN9.out 2 _ rfl).1
            clear d0 d1 d2 d3 d4 d5 d6 d7
            go_wp2
            go_roundw
            case rel => exact ⟨k + 1, by go_num, by omega, by rw [HFK.out, if_pos HH.out, List.append_nil]; exact HO9.out, HB9.out⟩
            case measure => simp [intOf]; omega
          · have hhb : (xh == 3) = false := by simp [hh]
            have HH := Lib.hid hh
            clear hh
            go_upto_region 8 with fail
            rw [HW9.out]
            have e2 := (at_ HN9.out 2 _ rfl).1
            clear d0 d1 d2 d3 d4 d5 d6 d7
            go_upto_region 9 with fail
            have e0 := (at_ HN9.out 0 _ rfl).1
            have e1 := (at_ HN9.out 1 _ rfl).1
            have e3 := (at_ HN9.out 3 _ rfl).1
            have e4 := (at_ HN9.out 4 _ rfl).1
            have e5 := (at_ HN9.out 5 _ rfl).1
            have e6 := (at_ HN9.out 6 _ rfl).1
            have e7 := (at_ HN9.out 7 _ rfl).1
            refine wp_region_lit ?_
            refine wpList_valG (bx.1) (by rfl) (by rfl) ?_
            simp only [Act.put, List.setIfInBounds_toArray, List.set_cons_zero, List.set_cons_succ]
            refine wpList_valG (.agg #[.int .i32 xr, .string xm, .int .i64 xh, .int .i64 x1, .int .i64 x2, .int .i64 x3, .int .i64 x4, .int .i64 x5]) (by rfl) (by go_simp) ?_
            simp only [Act.put, List.setIfInBounds_toArray, List.set_cons_zero, List.set_cons_succ]
            clear e0 e1 e2 e3 e4 e5 e6 e7
            have hbx := below_allocs (Below.refl W9.heap.size W9) (.cells #[.int .i32 xr, .string xm, .int .i64 xh, .int .i64 x1, .int .i64 x2, .int .i64 x3, .int .i64 x4, .int .i64 x5] 109)
            have HBX := Lib.hid (below_tail HB9.out hbx)
            have HOX := Lib.hid (ClO.below HO9.out hbx)
            refine wpList_actG (.slice (some ⟨W9.heap.size, 0, none⟩) 1 1) (W9.alloc (.cells #[.int .i32 xr, .string xm, .int .i64 xh, .int .i64 x1, .int .i64 x2, .int .i64 x3, .int .i64 x4, .int .i64 x5] 109)) (by rfl) (by go_simp) ?_
            simp only [Act.put, List.setIfInBounds_toArray, List.set_cons_zero, List.set_cons_succ]
            refine wpList_append_g (o := ⟨some 27, _, _, _, _, _⟩) rfl (.tmp 24) (.tmp 26) 48 rfl w.heap.size 109 j0 _ 8 72 Tryz.underlying48 hj gz0 gz1 gz2 rfl (by decide) bx.1 _ _ rfl HOX.out ⟨W9.heap.size, 0, none⟩ 1 1 (encCl (⟨xr, xm, xh, x1, x2, x3, x4, x5⟩ : Cl)) rfl rfl (fun j u hj => by rw [add_lit', Nat.zero_add]; exact (at_ (hp_new rfl) j u (by simpa [encCl] using hj)).1) (encCl_one _) (by simp only [maxLen]; have := HXZ.out; omega) (by have := HXZ.out; omega) HBX.out.size ?_
            intro v' w7 ho hg hv'
            have HO7 : Hid (ClO w.heap.size w7 v' (P ++ (r.cs.take (k + 1)).filter nPad)) := Lib.hid (by
              rw [HFK.out, if_neg HH.out, ← List.append_assoc]
              unfold ClO
              rw [flat_append, List.length_append]
              exact ho)
            have HB7 := Lib.hid (HBX.out.grown hg HBX.out.size (fun b hb => (World.ownsRow.lt (show World.ownsRow _ _ _ _ _ _ _ from HOX.out) b hb).1))
            simp only [Act.put, List.setIfInBounds_toArray, List.set_cons_zero, List.set_cons_succ]
            clear ho hg hv'
            go_wp2
            go_roundw
            case rel => exact ⟨k + 1, by go_num, by omega, HO7.out, HB7.out⟩
            case measure => simp [intOf]; omega
end Go.Proofs.YtffdblmdelgkaaaGreat

namespace Go.Proofs.YtffdblmdelgkaaaGreat
open Go.RowKit
theorem copy_any (A : Option Addr) (l : List Cl) (ca : Nat) (w : World) (hl : GrAt encCl 8 w A l) (hz : l.length ≤ 10000) :
    ∃ A' c' w', (Builtin.append_ #[48, 48] 48 #[.slice none 0 0, .slice A l.length ca]).run Tryz.prog w = .ok (.slice A' l.length c') w' ∧ ClO w.heap.size w' (.slice A' l.length c') l ∧ Below w.heap.size w w' := by
  obtain ⟨j0, hj, gz0, gz1, gz2⟩ := info_parts info_cellz
  by_cases h0 : 0 < l.length
  · obtain ⟨b, off, rfl, -⟩ := hl h0
    obtain ⟨v', w', hr, ho, hgr, -⟩ := run_append_own_at (P := Tryz.prog) w w.heap.size 48 48 109 j0 _ 8 72 Tryz.underlying48 hj gz0 gz1 gz2 rfl (by decide) _ 0 [] (World.ownsRow_nil _ _ _ _) ⟨b, off, none⟩ l.length ca (flat encCl l) (flat_len encCl_len l) (hl.news encCl_len) (flat_one encCl_one _) (by simp only [maxLen]; omega) (by omega) (Nat.le_refl _)
    rw [Nat.zero_add, List.nil_append] at ho
    obtain ⟨g, cap, hv⟩ := Go.Joins.ownsRow_form ho h0
    subst hv
    exact ⟨_, cap, w', hr, ho, (Below.refl _ _).grown hgr (Nat.le_refl _) (fun k hk => by cases hk)⟩
  · have : l = [] := List.length_eq_zero_iff.1 (by omega)
    subst this
    exact ⟨none, 0, w, append_nil_none Tryz.underlying48 hj A ca w, World.ownsRow_nil _ _ _ _, Below.refl _ _⟩
def unpI (l : List Cl) (i : Nat) : List Cl := (l.take i).map unpad ++ l.drop i
theorem unpI_len (l : List Cl) (i : Nat) : (unpI l i).length = l.length := by unfold unpI; simp; omega
theorem unpI_at {l : List Cl} {i : Nat} {c : Cl} (h : l[i]? = some c) : (unpI l i)[i]? = some c := by
  have hi := (List.getElem?_eq_some_iff.1 h).1
  unfold unpI
  rw [List.getElem?_append_right (by simp; omega), List.getElem?_drop, List.length_map, List.length_take, show i + (i - min i l.length) = i by omega]
  exact h
theorem unpI_succ {l : List Cl} {i : Nat} {c : Cl} (h : l[i]? = some c) : unpI l (i + 1) = (unpI l i).set i (unpad c) := by
  have hi := (List.getElem?_eq_some_iff.1 h).1
  have hc := (List.getElem?_eq_some_iff.1 h).2
  unfold unpI
  rw [List.set_append_right _ _ (by simp; omega), List.length_map, List.length_take, show i - min i l.length = 0 by omega, List.drop_eq_getElem_cons hi, List.set_cons_zero, List.take_add_one, h]
  simp
theorem unpI_same {l : List Cl} {i : Nat} {c : Cl} (h : l[i]? = some c) (hh : c.half ≠ 3) : unpI l (i + 1) = unpI l i := by
  rw [unpI_succ h, show unpad c = c from if_neg hh]
  refine List.ext_getElem? fun j => ?_
  rw [List.getElem?_set]
  split
  · next e =>
    subst e
    rw [if_pos (by rw [unpI_len]; exact (List.getElem?_eq_some_iff.1 h).1), unpI_at h]
  · rfl
theorem fine_plain {l : List Cl} (h : Fine l) : Fine (l.map unpad) := fun c hc => by
  obtain ⟨x, hx, rfl⟩ := List.mem_map.1 hc
  unfold unpad
  split
  · exact Nat.zero_le _
  · exact h x hx
set_option maxRecDepth 100000 in
set_option maxHeartbeats 6400000 in
theorem fplain_any (A : Option Addr) (l : List Cl) (ca : Nat) (w : World) (hl : GrAt encCl 8 w A l) (hz : l.length ≤ 10000) (hf : Fine l) :
    Calls Tryz.prog 131 #[.slice A l.length ca] w (RcPost0 (plainL l) w) := by
  obtain ⟨A1, c1, w1, hrun, ho, hb⟩ := copy_any A l ca w hl hz
  have HO := Lib.hid ho
  have HB := Lib.hid hb
  have HM := Lib.hid (fun (A : Option Addr) (l : List Cl) (ca : Nat) (w : World) (hl : GrAt encCl 8 w A l) (hz : l.length ≤ 10000) (hf : Fine l) => cMendE_any A l ca w hl hz hf)
  have HFP := Lib.hid (fine_plain hf)
  obtain ⟨n, hn⟩ : ∃ n, l.length = n := ⟨_, rfl⟩
  rw [hn] at hrun
  have HN := Lib.hid hn
  rw [hn] at hz ⊢
  have HRUN := Lib.hid hrun
  clear hl ho hb hn hrun hf
  go_enter Tryz.func131, Tryz.ntmps131
  go_upto_region 1 with fail
  refine wp_region_lit ?_
  refine wpList_valG (.slice A n ca) (by rfl) (by rfl) ?_
  simp only [Act.put, List.setIfInBounds_toArray, List.set_cons_zero, List.set_cons_succ]
  refine wpList_actG (.slice A1 n c1) w1 (by rfl) (exec_append _ _ _ rfl _ _ _ rfl rfl HRUN.out) ?_
  simp only [Act.put, List.setIfInBounds_toArray, List.set_cons_zero, List.set_cons_succ]
  go_wp2_with fail
  go_loopw [10] (fun s10 wr => ∃ i : Nat, s10 = .int .i64 i ∧ i ≤ n ∧ wr.ownsRow w.heap.size 109 8 (.slice A1 n c1) n (flat encCl (unpI l i)) ∧ Below w.heap.size w wr) (fun s10 _ => n - (intOf s10).toNat)
  case atStart => exact ⟨0, rfl, Nat.zero_le _, by have := HO.out; unfold ClO at this; rw [HN.out] at this; simpa [unpI] using this, HB.out⟩
  case round =>
    obtain ⟨i, rfl, hi, hO, hB⟩ := hrel
    have HOi := Lib.hid hO
    have HBi := Lib.hid hB
    by_cases hlt : i < n
    rotate_left
    · have hge : ¬ (i : Int) < (n : Int) := by omega
      have hie : i = n := by omega
      have hX : unpI l i = l.map unpad := by rw [hie, ← HN.out]; simp [unpI]
      rw [hX] at HOi
      have HM2 := Lib.hid (HM.out A1 (l.map unpad) c1 wr (gr_own encCl_len (n := n) (c := c1) (base := w.heap.size) (e := 109) (by rw [List.length_map, HN.out]; exact HOi.out)) (by rw [List.length_map, HN.out]; exact hz) HFP.out)
      rw [List.length_map, HN.out] at HM2
      clear hO hB hie hX
      go_wp2_with (go_at_call 133; (with_reducible refine HM2.out.mono ?_); rintro e w5 ⟨A5, c5, rfl, hc5, hg5, hb5, hz5⟩; have HG5 := Lib.hid hg5; have HB5 := Lib.hid (below_tail HBi.out hb5); have HC5 := Lib.hid hc5; have HZ5 := Lib.hid hz5; clear hg5 hb5 hc5 hz5)
      go_ret
      exact ⟨A5, c5, rfl, HC5.out, HG5.out, HB5.out, HZ5.out⟩
    · have hltI : (i : Int) < (n : Int) := by omega
      have hil : i < l.length := by rw [HN.out]; exact hlt
      obtain ⟨c, hc⟩ : ∃ c, l[i]? = some c := ⟨l[i], List.getElem?_eq_getElem hil⟩
      have hg : GrAt encCl 8 wr A1 (unpI l i) := gr_own encCl_len (n := n) (c := c1) (base := w.heap.size) (e := 109) (by rw [unpI_len, HN.out]; exact hO)
      have hiu : i < (unpI l i).length := by rw [unpI_len]; exact hil
      obtain ⟨g, hA1⟩ : ∃ g, A1 = some ⟨g, 0, none⟩ := by
        obtain ⟨g, cap, hv⟩ := Go.Joins.ownsRow_form hO (by omega)
        simp only [Value.slice.injEq] at hv
        exact ⟨g, hv.1⟩
      subst hA1
      obtain ⟨b2, off2, c', hA2, hc2, hcell2⟩ := hg.at_ hiu
      simp only [Option.some.injEq, Addr.mk.injEq, and_true] at hA2
      obtain ⟨rfl, rfl⟩ := hA2
      rw [unpI_at hc] at hc2
      obtain rfl := Option.some.inj hc2
      have HUS := Lib.hid (unpI_succ hc)
      have HUM := Lib.hid (unpI_same hc)
      have hcro : CrO wr w.heap.size g c1 (unpI l i) := by unfold CrO; rw [unpI_len, HN.out]; exact hO
      have HCR := Lib.hid hcro
      have d0 := hcell2 0 _ rfl
      have d1 := hcell2 1 _ rfl
      have d2 := hcell2 2 _ rfl
      have d3 := hcell2 3 _ rfl
      have d4 := hcell2 4 _ rfl
      have d5 := hcell2 5 _ rfl
      have d6 := hcell2 6 _ rfl
      have d7 := hcell2 7 _ rfl
      simp only [Nat.add_zero, Nat.zero_add] at d0 d1 d2 d3 d4 d5 d6 d7
      have hwi : IntKind.i64.wrap ((i : Int) + 1) = (i : Int) + 1 := IntWalk.i64_in _ (by omega)
      obtain ⟨xr, xm, xh, x1, x2, x3, x4, x5⟩ := c
      simp only at d0 d1 d2 d3 d4 d5 d6 d7
      obtain ⟨W9, hW9⟩ : ∃ W9, wr.alloc (.cells #[.int .i32 xr, .string xm, .int .i64 xh, .int .i64 x1, .int .i64 x2, .int .i64 x3, .int .i64 x4, .int .i64 x5] 109) = W9 := ⟨_, rfl⟩
      have hb9 : Below wr.heap.size wr W9 := by rw [← hW9]; exact below_allocs (Below.refl _ _) _
      have HB9 := Lib.hid (below_tail hB hb9)
      have HC9 := Lib.hid (hcro.below hb9)
      have HN9 := Lib.hid (show W9.heap[wr.heap.size]? = some (.cells #[.int .i32 xr, .string xm, .int .i64 xh, .int .i64 x1, .int .i64 x2, .int .i64 x3, .int .i64 x4, .int .i64 x5] 109 (0, 0)) from by rw [← hW9]; exact hp_new rfl)
      have HW9 := Lib.hid hW9
      have HIL := Lib.hid hiu
      clear hO hB hg hcro hc hc2 hcell2 hil hiu hb9 hW9
      by_cases hh : xh = 3
      · have hhb : (xh == 3) = true := by simp [hh]
        have HH := Lib.hid hh
        clear hh
        go_upto_region 5 with fail
        rw [HW9.out]
        have e2 := (at_ HN9.out 2 _ rfl).1
        have e3 := (at_ HN9.out 3 _ rfl).1
        have e4 := (at_ HN9.out 4 _ rfl).1
        have e5 := (at_ HN9.out 5 _ rfl).1
        have e6 := (at_ HN9.out 6 _ rfl).1
        have e7 := (at_ HN9.out 7 _ rfl).1
        clear d0 d1 d2 d3 d4 d5 d6 d7
        have HTH := Lib.hid (HC9.out.there HIL.out)
        obtain ⟨q1, q2⟩ := HC9.out.set HIL.out (emptyC ⟨xr, xm, xh, x1, x2, x3, x4, x5⟩)
        have hg1 := HC9.out.lt.1
        have Q1 := Lib.hid q1
        have Q2 := Lib.hid (HB9.out.trans (q2.below (fun x hx => by rw [List.mem_singleton.1 hx]; exact hg1) HB9.out.size))
        clear q1 q2
        go_wp2_with (refine wpList_store_mid (op := ⟨none, .store 109 (.tmp 23) (.tmp 22), _, _, _, _⟩) rfl 109 (.tmp 23) (.tmp 22) rfl g (i * 8) (encCl (emptyC ⟨xr, xm, xh, x1, x2, x3, x4, x5⟩)).toArray rfl rfl HTH.out info_cell (cl_one (emptyC ⟨xr, xm, xh, x1, x2, x3, x4, x5⟩)) ?_)
        go_roundw
        case rel =>
          refine ⟨i + 1, by go_num, by omega, ?_, Q2.out⟩
          have h1 := Q1.out
          unfold CrO at h1
          rw [List.length_set, unpI_len, HN.out] at h1
          rw [HUS.out, show unpad ⟨xr, xm, xh, x1, x2, x3, x4, x5⟩ = emptyC ⟨xr, xm, xh, x1, x2, x3, x4, x5⟩ from if_pos HH.out]
          exact h1
        case measure => simp [intOf]; omega
      · have hhb : (xh == 3) = false := by simp [hh]
        have HH := Lib.hid hh
        clear hh
        go_upto_region 5 with fail
        rw [HW9.out]
        have e2 := (at_ HN9.out 2 _ rfl).1
        clear d0 d1 d2 d3 d4 d5 d6 d7
        go_wp2
        go_roundw
        case rel =>
          refine ⟨i + 1, by go_num, by omega, ?_, HB9.out⟩
          rw [HUM.out HH.out]
          have h1 := HC9.out
          unfold CrO at h1
          rw [unpI_len, HN.out] at h1
          exact h1
        case measure => simp [intOf]; omega
end Go.Proofs.YtffdblmdelgkaaaGreat
