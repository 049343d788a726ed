/- Joined by a tool of this claim out of smaller texts. Conditions: as stated. -/
import Derived.Test.YtaefcahblmopfaaGreatDoorTn24
import Derived.Lib.SlBytesConst
set_option linter.unusedVariables false
set_option linter.unusedSimpArgs false
namespace Go.Proofs.YtaefcahblmopfaaGreatDoor
open Go.RowKit
theorem owns_holdT {w : World} {base g : Nat} {e : TypeId} {size n cap : Nat} {xs : List Value} (h : w.ownsRow base e size (.slice (some ⟨g, 0, none⟩) n cap) n xs) {i : Nat} {v : Value} (hi : xs[i]? = some v) : w.cell? ⟨g, i, none⟩ = some v := by
  have := World.ownsRow.cells h (g := g) rfl i v hi
  rw [add_lit', Nat.zero_add] at this
  exact this
set_option maxRecDepth 100000 in
set_option maxHeartbeats 3200000 in
theorem awake18_any (w : World) : Calls Tryz.prog 20 #[] w (AwPost w) := by
  have HN : Hid (∀ w, Calls Tryz.prog 7 #[.int .i64 2, .int .i64 3, .int .i64 5, .int .i64 99] w (TNewPost 2 3 5 99 w)) := Lib.hid (fun w => tmnew_ok 2 3 5 99 w (by decide) (by decide) (by decide) (by decide) (by decide) (by decide) (by decide))
  obtain ⟨t1, ht1⟩ : ∃ t1, feedG evA tmA bsA = t1 := ⟨_, rfl⟩
  have hf := fedA
  have HP : Hid (PzOk t1.pz) := Lib.hid (by rw [← ht1]; exact (by
    have : ∀ (bs : List Int) (t : Tm), PzOk t.pz → (∀ c ∈ bs, 0 ≤ c ∧ c ≤ 255) → PzOk (feedG evA t bs).pz := fun bs => by
      induction bs with
      | nil => intro t h _; exact h
      | cons c bs ih =>
        intro t h hc
        refine ih _ ?_ (fun x hx => hc x (List.mem_cons_of_mem _ hx))
        have key : ∀ (es : List Ev) (t : Tm), (evsG evA t es).pz = t.pz := fun es => by
          induction es with
          | nil => intro t; rfl
          | cons e es ih => intro t; show (evsG evA (evA t e) es).pz = _; rw [ih, evA_pz]
        show PzOk (evsG evA _ _).pz
        rw [key]
        exact h.step (hc c (List.mem_cons_self ..))
    exact this bsA tmA (PzOk.new (by decide)) (by decide)))
  have HF : Hid (∀ (B : Nat) (W2 : World) (v : Tv) (g : Nat), TmO B W2 v tmA → (∀ i x, bsA[i]? = some x → W2.cell? ⟨g, i, none⟩ = some (.int .u8 x)) → g ∉ tmX v → Calls Tryz.prog 9 #[.pointer (some ⟨v.M, 0, none⟩), .slice (some ⟨g, 0, none⟩) 10 10] W2 (TmPost B W2 v t1)) := Lib.hid (fun B W2 v g hO hn hX => by
    rw [← ht1]
    exact tfeed_any evA OkA (doA B) evA_pz hO (PzOk.new (by decide)) (bs := bsA) (fun _ => ⟨g, 0, rfl, hX, fun i x hi => by
      rw [Nat.zero_add]
      exact hn i x hi⟩) (by unfold BysI; decide) (by decide) feedA)
  simp only [ht1] at hf
  obtain ⟨f1, f2, f3, f4, f5, f6, f7⟩ := hf
  have HF1 := Lib.hid f1
  have HF2 := Lib.hid f2
  have HF3 := Lib.hid f3
  have HF4 := Lib.hid f4
  have HF5 := Lib.hid f5
  have HF6 : Hid (restB t1 = true) := Lib.hid (by unfold restB; rw [f6, f7]; decide)
  clear f1 f2 f3 f4 f5 f6 f7 ht1
  go_enter Tryz.func20, Tryz.ntmps20
  go_upto_region 4 with (go_at_call 7; (with_reducible refine (HN.out _).mono ?_); rintro e w1 ⟨v, rfl, hO, hb⟩; have HO := Lib.hid (show TmO w.heap.size w1 v tmA from hO); have HB := Lib.hid hb; clear hO hb)
  rename World => W1
  have hcv := Lib.run_convert_bytes_const (P := Tryz.prog) W1 23 5 #[.int .u8 27, .int .u8 93, .int .u8 49, .int .u8 51, .int .u8 51, .int .u8 59, .int .u8 65, .int .u8 7, .int .u8 97, .int .u8 98] 10 10 Tryz.underlying23 Tryz.underlying5
  obtain ⟨W2, hW2⟩ : ∃ W2, W1.alloc (.cells #[.int .u8 27, .int .u8 93, .int .u8 49, .int .u8 51, .int .u8 51, .int .u8 59, .int .u8 65, .int .u8 7, .int .u8 97, .int .u8 98] 5 (10, 11)) = W2 := ⟨_, rfl⟩
  have hb2 : Below W1.heap.size W1 W2 := by rw [← hW2]; exact below_allocs (Below.refl _ _) _
  have hn2 : W2.heap[W1.heap.size]? = some (.cells (bsA.map (Value.int .u8)).toArray 5 (10, 11)) := by rw [← hW2]; exact hp_new rfl
  have hcl : ∀ i x, bsA[i]? = some x → W2.cell? ⟨W1.heap.size, i, none⟩ = some (.int .u8 x) := fun i x hi => by
    have h2 : (bsA.map (Value.int .u8)).toArray[i]? = some (.int .u8 x) := by rw [List.getElem?_toArray, List.getElem?_map, hi]; rfl
    simp [World.cell?, hn2, h2]
  rw [show (#[Value.int .u8 27, .int .u8 93, .int .u8 49, .int .u8 51, .int .u8 51, .int .u8 59, .int .u8 65, .int .u8 7, .int .u8 97, .int .u8 98]).size = 10 from rfl] at hcv
  rw [hW2] at hcv
  have HB2 := Lib.hid (below_tail HB.out hb2)
  have HF2' := Lib.hid (HF.out w.heap.size W2 v W1.heap.size (HO.out.below hb2) hcl (fun hx => by have := (HO.out.lt _ hx).2; omega))
  have HO2 := Lib.hid (HO.out.below hb2)
  clear hb2 hn2 hcl hW2
  go_upto_region 5 with (go_at_call 9; (with_reducible refine HF2'.out.mono ?_); rintro e w3 ⟨rfl, hr⟩; have HR := Lib.hid hr; clear hr)
  obtain ⟨v3, hV, hO3, hm3⟩ := HR.out
  have HCh := Lib.hid (tChanges0_any hO3 HF2.out)
  have HB3 : Hid (Below w.heap.size w w3) := Lib.hid (HB2.out.trans (hm3.below (B := w.heap.size) (fun b hb => (HO2.out.lt b hb).1) HB2.out.size))
  have HO3 := Lib.hid hO3
  rw [hV.M] at HCh
  have HV := Lib.hid hV
  unfold ChPost at HCh
  rw [HF1.out] at HCh
  have hlen : [signC ⟨1, 0, false, ⟨#[]⟩⟩ 0 0].length = 1 := rfl
  rw [hlen] at HCh
  clear hV hO3 hm3 hlen
  go_upto_region 6 with (go_at_call 18; (with_reducible refine HCh.out.mono ?_); rintro e w4 ⟨A, c, rfl, ho, hr⟩; obtain ⟨g, c', hgc⟩ := own_form ho (by decide); obtain ⟨rfl, -, rfl⟩ := Value.slice.inj hgc; have HOw := Lib.hid ho; have HR4 := Lib.hid hr; clear ho hr hgc)
  have x0 : w4.cell? ⟨g, 0, none⟩ = some (.bool true) := owns_holdT HOw.out rfl
  have x1 : w4.cell? ⟨g, 1, none⟩ = some (.int .i64 1) := owns_holdT HOw.out rfl
  have x2 : w4.cell? ⟨g, 2, none⟩ = some (.int .i64 0) := owns_holdT HOw.out rfl
  have x3 : w4.cell? ⟨g, 3, none⟩ = some (.bool false) := owns_holdT HOw.out rfl
  have x4 : w4.cell? ⟨g, 4, none⟩ = some (.string ⟨#[]⟩) := owns_holdT HOw.out rfl
  have x5 : w4.cell? ⟨g, 5, none⟩ = some (.int .i64 0) := owns_holdT HOw.out rfl
  have x6 : w4.cell? ⟨g, 6, none⟩ = some (.int .i64 0) := owns_holdT HOw.out rfl
  obtain ⟨v4, hV4, hO4, hm4⟩ := HR4.out
  have hM4 : v4.M = v.M := hV4.M.trans HV.out.M
  have hcur : curV v4 { t1 with ch := [] } = v4.a := by unfold curV; rw [show ({ t1 with ch := [] } : Tm).use = false from HF3.out]; rfl
  have HSc : Hid (Calls Tryz.prog 11 #[.pointer (some ⟨v.M, 0, none⟩)] w4 fun e w2 => e = .returned (.pointer (some ⟨v4.a.S, 0, none⟩)) ∧ Below w4.heap.size w4 w2) := Lib.hid (by rw [← hM4, ← hcur]; exact tScreen_any hO4)
  have HSt : Hid (∀ w', Below w4.heap.size w4 w' → Calls Tryz.prog 47 #[.pointer (some ⟨v4.a.S, 0, none⟩)] w' fun e w2 => e = .returned (.agg (stL t1.s0).toArray) ∧ Below w'.heap.size w' w2) := Lib.hid (fun w' hb => sState_any ((hO4.below hb).a))
  have HRe : Hid (∀ w', Below w4.heap.size w4 w' → Calls Tryz.prog 19 #[.pointer (some ⟨v.M, 0, none⟩)] w' fun e w2 => e = .returned (.bool true) ∧ Below w'.heap.size w' w2) := Lib.hid (fun w' hb => by
    have := tRest_any (hO4.below hb) HP.out
    rw [hM4, show restB { t1 with ch := [] } = true from HF6.out] at this
    exact this)
  have HB4 : Hid (Below w.heap.size w w4) := Lib.hid (HB3.out.trans (hm4.below (B := w.heap.size) (fun b hb => (HO3.out.lt b hb).1) HB3.out.size))
  have hat := fun w => run_atT t1.s0 w
  rw [HF4.out, HF5.out] at hat
  clear hV4 hO4 hm4 hM4 hcur
  go_wp2_with (first
    | (go_at_call 11; (with_reducible refine HSc.out.mono ?_); rintro e w5 ⟨rfl, hb⟩; have HB5 := Lib.hid hb; clear hb)
    | (go_at_call 47; (with_reducible refine (HSt.out _ HB5.out).mono ?_); rintro e w6 ⟨rfl, hb⟩; have HB6 := Lib.hid (below_tail HB5.out hb); clear hb)
    | (go_at_call 19; (with_reducible refine (HRe.out _ HB6.out).mono ?_); rintro e w7 ⟨rfl, hb⟩; have HB7 := Lib.hid (below_tail HB6.out hb); clear hb))
  go_ret
  exact ⟨rfl, below_tail HB4.out HB7.out⟩
def goodT (r b c n : Int) : Bool := fitsB r b && decide (0 ≤ c) && decide (c ≤ 100000) && decide (1 ≤ n) && decide (n ≤ 65536)
set_option maxRecDepth 100000 in
theorem rRight18_any (r b c n : Int) (w : World) : Calls Tryz.prog 8 #[.int .i64 r, .int .i64 b, .int .i64 c, .int .i64 n] w fun e w' => e = .returned (.bool (goodT r b c n)) ∧ w = w' := by
  have HFit := Lib.hid (fun w => rfits_any r b w)
  unfold goodT
  generalize fitsB r b = f at HFit ⊢
  cases f with
  | false =>
    go_enter Tryz.func8, Tryz.ntmps8
    go_wp2_with (go_at_call 29; refine (HFit.out _).mono ?_; rintro e w2 ⟨rfl, rfl⟩)
    go_ret
    exact ⟨rfl, rfl⟩
  | true =>
    by_cases h1 : 0 ≤ c
    · by_cases h2 : c ≤ 100000
      · by_cases h3 : 1 ≤ n
        · by_cases h4 : n ≤ 65536
          all_goals
            go_enter Tryz.func8, Tryz.ntmps8
            go_wp2_with (go_at_call 29; refine (HFit.out _).mono ?_; rintro e w2 ⟨rfl, rfl⟩)
            go_ret
            exact ⟨by simp [*] <;> (intros; omega), rfl⟩
        · go_enter Tryz.func8, Tryz.ntmps8
          go_wp2_with (go_at_call 29; refine (HFit.out _).mono ?_; rintro e w2 ⟨rfl, rfl⟩)
          go_ret
          exact ⟨by simp [*] <;> (intros; omega), rfl⟩
      · go_enter Tryz.func8, Tryz.ntmps8
        go_wp2_with (go_at_call 29; refine (HFit.out _).mono ?_; rintro e w2 ⟨rfl, rfl⟩)
        go_ret
        exact ⟨by simp [*] <;> (intros; omega), rfl⟩
    · go_enter Tryz.func8, Tryz.ntmps8
      go_wp2_with (go_at_call 29; refine (HFit.out _).mono ?_; rintro e w2 ⟨rfl, rfl⟩)
      go_ret
      exact ⟨by simp [*] <;> (intros; omega), rfl⟩
def NewAny (g : Bool) (w : World) (e : Ending) (w' : World) : Prop := ∃ (p : Value) (k : Int), e = .returned (.tuple #[p, .int .i64 k]) ∧ Below w.heap.size w w' ∧ ((g = true ∧ k = 0 ∧ ∃ M : Nat, p = .pointer (some ⟨M, 0, none⟩)) ∨ (g = false ∧ k = 1 ∧ p = .pointer none))
theorem tmnew_either (r b c n : Int) (w : World) : Calls Tryz.prog 7 #[.int .i64 r, .int .i64 b, .int .i64 c, .int .i64 n] w (NewAny (goodT r b c n) w) := by
  by_cases hf : fitsB r b = false ∨ c < 0 ∨ 100000 < c
  · refine (tmnew_bad1 r b c n w hf).mono (fun e w' h => ⟨_, _, h.1, h.2, .inr ⟨?_, rfl, rfl⟩⟩)
    unfold goodT
    rcases hf with h | h | h
    · rw [h]; rfl
    · rw [decide_eq_false (by omega : ¬ 0 ≤ c)]; simp
    · rw [decide_eq_false (by omega : ¬ c ≤ 100000)]; simp
  · have h1 : fitsB r b = true := by cases hh : fitsB r b; exact absurd (.inl hh) hf; rfl
    have h2 : 0 ≤ c ∧ c ≤ 100000 := by constructor <;> (apply Classical.byContradiction; intro h; exact hf (.inr (by omega)))
    have h3 : 1 ≤ r ∧ r ≤ 1000 ∧ 2 ≤ b ∧ b ≤ 1000 := by unfold fitsB at h1; simpa using h1
    obtain ⟨r', rfl⟩ : ∃ k : Nat, r = k := ⟨r.toNat, by omega⟩
    obtain ⟨b', rfl⟩ : ∃ k : Nat, b = k := ⟨b.toNat, by omega⟩
    obtain ⟨c', rfl⟩ : ∃ k : Nat, c = k := ⟨c.toNat, by omega⟩
    by_cases hn : n < 1 ∨ 65536 < n
    · refine (tmnew_bad2 r' b' c' n w (by omega) (by omega) (by omega) (by omega) (by omega) hn).mono (fun e w' h => ⟨_, _, h.1, h.2, .inr ⟨?_, rfl, rfl⟩⟩)
      unfold goodT
      rcases hn with h | h
      · rw [decide_eq_false (by omega : ¬ 1 ≤ n)]; simp
      · rw [decide_eq_false (by omega : ¬ n ≤ 65536)]; simp
    · refine (tmnew_ok r' b' c' n w (by omega) (by omega) (by omega) (by omega) (by omega) (by omega) (by omega)).mono (fun e w' ⟨v, he, _, hb⟩ => ⟨_, _, he, hb, .inl ⟨?_, rfl, _, rfl⟩⟩)
      unfold goodT
      rw [h1, decide_eq_true h2.1, decide_eq_true h2.2, decide_eq_true (by omega : 1 ≤ n), decide_eq_true (by omega : n ≤ 65536)]
      rfl
set_option maxRecDepth 100000 in
set_option maxHeartbeats 6400000 in
theorem TermNone_walk (a b c n : Int) (A : Option Addr) (l cap : Nat) (w : World) : Calls Tryz.prog 3 #[.agg #[.int .i64 a, .int .i64 b, .int .i64 c], .int .i64 n, .slice A l cap] w (AwPost w) := by
  have HFd := Lib.hid (fun w => tnFeed w (.slice A l cap))
  have HRz := Lib.hid tnResize
  have HSc := Lib.hid tnScreen
  have HFi := Lib.hid tnFirst
  have HOt := Lib.hid tnOther
  have HMo := Lib.hid tnModes
  have HMn := Lib.hid (fun w => mnew_any w)
  have HTi := Lib.hid tnTitle
  have HRp := Lib.hid tnReply
  have HCh := Lib.hid tnChanges
  have HRe := Lib.hid tnRest
  have HAw := Lib.hid (fun w => awake18_any w)
  unfold AwPost at HAw
  generalize newM = m at HMo HMn
  obtain ⟨r, hr⟩ : ∃ r, (if 30 < a ∧ a ≤ 1000 then 30 else a) = r := ⟨_, rfl⟩
  have HNew := Lib.hid (fun w => tmnew_either r b c n w)
  have HRt := Lib.hid (fun w => rRight18_any r b c n w)
  unfold NewAny at HNew
  generalize goodT r b c n = g at HNew HRt
  have h3 : (30 < a ∧ a ≤ 1000 ∧ r = 30) ∨ (30 < a ∧ ¬ a ≤ 1000 ∧ r = a) ∨ (¬ 30 < a ∧ r = a) := by
    by_cases h1 : 30 < a
    · by_cases h2 : a ≤ 1000
      · rw [if_pos ⟨h1, h2⟩] at hr; exact .inl ⟨h1, h2, hr.symm⟩
      · rw [if_neg (fun h => h2 h.2)] at hr; exact .inr (.inl ⟨h1, h2, hr.symm⟩)
    · rw [if_neg (fun h => h1 h.1)] at hr; exact .inr (.inr ⟨h1, hr.symm⟩)
  clear hr
  obtain ⟨W0, hW0⟩ : ∃ W0, w.alloc (.cells #[.int .i64 a, .int .i64 b, .int .i64 c] 22) = W0 := ⟨_, rfl⟩
  have HB0 : Hid (Below w.heap.size w W0) := Lib.hid (by rw [← hW0]; exact below_allocs (Below.refl _ _) _)
  have hn0 : W0.heap[w.heap.size]? = some (.cells #[.int .i64 a, .int .i64 b, .int .i64 c] 22 (0, 0)) := by rw [← hW0]; exact hp_new rfl
  have d0 : W0.cell? ⟨w.heap.size, 0, none⟩ = some (.int .i64 a) := (at_ hn0 0 _ rfl).1
  have d1 : W0.cell? ⟨w.heap.size, 1, none⟩ = some (.int .i64 b) := (at_ hn0 1 _ rfl).1
  have d2 : W0.cell? ⟨w.heap.size, 2, none⟩ = some (.int .i64 c) := (at_ hn0 2 _ rfl).1
  clear hn0
  rcases h3 with ⟨h1, h2, rfl⟩ | ⟨h1, h2, rfl⟩ | ⟨h1, rfl⟩
  all_goals
    go_enter Tryz.func3, Tryz.ntmps3
    go_upto_region 6 with (first
      | (go_at_call 7; (with_reducible refine (HNew.out _).mono ?_); rintro e w1 ⟨pv, kv, rfl, hb, hcs⟩; have d1 := holda hb d1; have d2 := holda hb d2; have HB1 := Lib.hid (below_tail HB0.out hb); have HCS := Lib.hid hcs; clear hb hcs)
      | (go_at_call 8; (with_reducible refine (HRt.out _).mono ?_); rintro e w2 ⟨rfl, rfl⟩))
    clear d0 d1 d2 hW0
    rcases HCS.out with ⟨rfl, rfl, M, rfl⟩ | ⟨rfl, rfl, rfl⟩
    all_goals
      go_wp2_with (first
        | (go_at_call 9; (with_reducible refine (HFd.out _).mono ?_); rintro e w3 ⟨rfl, rfl⟩)
        | (go_at_call 10; (with_reducible refine (HRz.out _ _ _ _).mono ?_); rintro e w4 ⟨rfl, hb⟩; have HB4 := Lib.hid (below_tail (below_allocs HB1.out _) hb); clear hb)
        | (go_at_call 11; (with_reducible refine (HSc.out _).mono ?_); rintro e w3 ⟨rfl, rfl⟩)
        | (go_at_call 12; (with_reducible refine (HFi.out _).mono ?_); rintro e w3 ⟨rfl, rfl⟩)
        | (go_at_call 13; (with_reducible refine (HOt.out _).mono ?_); rintro e w3 ⟨rfl, rfl⟩)
        | (go_at_call 14; (with_reducible refine (HMo.out _).mono ?_); rintro e w5 ⟨rfl, hb⟩; have HB5 := Lib.hid (below_tail HB4.out hb); clear hb)
        | (go_at_call 15; (with_reducible refine (HMn.out _).mono ?_); rintro e w6 ⟨rfl, hb⟩; have HB6 := Lib.hid (below_tail HB5.out hb); clear hb)
        | (go_at_call 16; (with_reducible refine (HTi.out _).mono ?_); rintro e w3 ⟨rfl, rfl⟩)
        | (go_at_call 17; (with_reducible refine (HRp.out _).mono ?_); rintro e w3 ⟨rfl, rfl⟩)
        | (go_at_call 18; (with_reducible refine (HCh.out _).mono ?_); rintro e w3 ⟨rfl, rfl⟩)
        | (go_at_call 19; (with_reducible refine (HRe.out _).mono ?_); rintro e w3 ⟨rfl, rfl⟩)
        | (go_at_call 20; (with_reducible refine (HAw.out _).mono ?_); rintro e w7 ⟨rfl, hb⟩; have HB7 := Lib.hid (below_tail HB6.out hb); clear hb))
      go_ret
      exact ⟨rfl, HB7.out⟩
end Go.Proofs.YtaefcahblmopfaaGreatDoor
