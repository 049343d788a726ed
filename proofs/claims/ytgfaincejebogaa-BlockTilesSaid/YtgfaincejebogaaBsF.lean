/- Plain: the blocks' places behind a shift; the list's blocks lie one behind the other. Conditions: none. -/
import Derived.Test.YtgfaincejebogaaBsE
namespace Go.Proofs.Ytgfaincejebogaa

/-- Of two right places, one of which isn't ahead of the other, it isn't behind a shift either, as long as both stay right. -/
theorem order_plain (r c r' c' k a n : Int) (h1 : inB r = true) (h2 : inB c = true) (h3 : inB r' = true) (h4 : inB c' = true) (h : lessB r' c' r c = false) (hs : rightS k a n = true) :
    lessB (mv r' c' k a n).1 (mv r' c' k a n).2 (mv r c k a n).1 (mv r c k a n).2 = false := by
  have hb := rightS_true hs
  have hg := gapI_bd (k := k) hb.2.2.1 hb.2.2.2.1
  have h7 : ¬ (r' < r) ∧ (r' = r → ¬ c' < c) := by
    simp [lessB] at h; omega
  have f : ∀ r c : Int, inB r = true → inB c = true → mv r c k a n = if gapI k a ≤ r then (if k = 0 then (r + n, c) else if r < gapI k a + n then (gapI k a, 0) else (r - n, c)) else (r, c) := fun r c h1 h2 => by
    unfold mv
    by_cases hh : gapI k a ≤ r
    · rw [if_pos ⟨h1, h2, hs, hh⟩, if_pos hh]
    · rw [if_neg (by simp [hh]), if_neg hh]
  have b2 := inB_true h2
  have b4 := inB_true h4
  rw [f r c h1 h2, f r' c' h3 h4]
  generalize gapI k a = g at *
  have fin : ∀ x y x' y' : Int, (¬ x' < x ∧ (x' = x → ¬ y' < y)) → lessB x' y' x y = false := fun x y x' y' i3 => by simp [lessB]; omega
  by_cases e1 : g ≤ r <;> by_cases e2 : g ≤ r' <;> by_cases e3 : k = 0 <;> by_cases e4 : r < g + n <;> by_cases e5 : r' < g + n
  all_goals
    simp only [if_pos, if_neg, e1, e2, e3, e4, e5, if_true, if_false]
    refine fin _ _ _ _ ?_
    omega
theorem mv_bd {r c k a n : Int} (h1 : inB r = true) (h2 : inB c = true) (hs : rightS k a n = true) (hn : n ≤ 1000000000) : 0 ≤ (mv r c k a n).1 ∧ (mv r c k a n).1 ≤ r + 1000000000 ∧ 0 ≤ (mv r c k a n).2 ∧ (mv r c k a n).2 ≤ c := by
  have hb := rightS_true hs
  have hg := gapI_bd (k := k) hb.2.2.1 hb.2.2.2.1
  have b1 := inB_true h1
  have b2 := inB_true h2
  unfold mv
  split
  · next h =>
    split
    · simp only []; omega
    · split
      · simp only []; omega
      · simp only []; omega
  · simp only []; omega
theorem lt_less (p q : P2) : ltP p q = lessB p.1 p.2 q.1 q.2 := rfl
theorem evictL_drop (k a n : Int) : ∀ l : List Ent, ∃ j, evictL k a n l = l.drop j
  | [] => ⟨0, rfl⟩
  | [E] => ⟨0, rfl⟩
  | E :: E2 :: l => by
    obtain ⟨j, hj⟩ := evictL_drop k a n (E2 :: l)
    rw [evictL_two]
    split
    · exact ⟨j + 1, by rw [hj]; rfl⟩
    · exact ⟨0, rfl⟩
theorem rch_move (k a n : Int) {E : Ent} (ok : EntOk E) : rch (moveE k a n E) = (rch E).map (fun p => mv p.1 p.2 k a n) := by
  have h1 := ok.hi
  have h4 := ok.four
  unfold rch moveE
  simp only []
  rw [List.take_append_of_le_length (by simp; omega), List.take_of_length_le (by simp; omega)]
theorem placesL_map (f : Ent → Ent) (g : List P2 → List P2) (hg : ∀ a b, g (a ++ b) = g a ++ g b) (hn : g [] = []) : ∀ es : List Ent, (∀ E ∈ es, rch (f E) = g (rch E)) → placesL (es.map f) = g (placesL es)
  | [], _ => hn.symm
  | E :: l, h => by
    have e1 : placesL (E :: l) = rch E ++ placesL l := by simp [placesL]
    have e2 : placesL ((E :: l).map f) = rch (f E) ++ placesL (l.map f) := by simp [placesL]
    rw [e1, e2, hg, h E (by simp), placesL_map f g hg hn l (fun F hF => h F (by simp [hF]))]
theorem TInv.shift {N : Nat} {S : Bs} (h : TInv N S) (hN : N ≤ 100) (k a n : Int) (hn : n ≤ 1000000000) : TInv (N + 1) (shiftB S k a n) := by
  unfold shiftB
  split
  · next hs =>
    have key : ∀ es : List Ent, TInv N { S with es := es } → TInv (N + 1) { S with es := es.map (moveE k a n) } := fun es h => by
      have e1 : placesL (es.map (moveE k a n)) = (placesL es).map (fun p => mv p.1 p.2 k a n) := placesL_map _ (List.map (fun p : P2 => mv p.1 p.2 k a n)) (fun a b => by simp) rfl es (fun E hE => rch_move k a n (h.ok E hE))
      have hin : ∀ p ∈ placesL es, inB p.1 = true ∧ inB p.2 = true := fun p hp => by
        have := h.bd p hp
        exact ⟨inB_of (by omega) (by omega), inB_of (by omega) (by omega)⟩
      refine ⟨?_, fun p hp => ?_, ?_, fun E hE => ?_, fun E hE => ?_⟩
      · show (placesL (es.map (moveE k a n))).Pairwise leP
        rw [e1, List.pairwise_map]
        refine List.Pairwise.imp_of_mem ?_ h.asc
        intro p q hp hq hpq
        unfold leP at hpq ⊢
        rw [lt_less] at hpq ⊢
        exact order_plain p.1 p.2 q.1 q.2 k a n (hin p hp).1 (hin p hp).2 (hin q hq).1 (hin q hq).2 hpq hs
      · have hp' : p ∈ placesL (es.map (moveE k a n)) := hp
        rw [e1] at hp'
        obtain ⟨p', hp1, rfl⟩ := List.mem_map.1 hp'
        have h1 := h.bd p' hp1
        have h2 := mv_bd (k := k) (a := a) (hin p' hp1).1 (hin p' hp1).2 hs hn
        omega
      · show (es.map (moveE k a n)).Pairwise _
        rw [List.pairwise_map]
        exact h.ids
      · obtain ⟨F, hF, rfl⟩ := List.mem_map.1 hE
        exact h.idb F hF
      · obtain ⟨F, hF, rfl⟩ := List.mem_map.1 hE
        have ok := h.ok F hF
        exact ⟨by have h1 := ok.four; have h2 := ok.hi; simp [moveE]; omega, ok.lo, ok.hi⟩
    split
    · obtain ⟨j, hj⟩ := evictL_drop k a n S.es
      have h2 := h.drop j
      rw [← hj] at h2
      have e1 : placesL ((evictL k a n S.es).map (cutE k a n)) = placesL (evictL k a n S.es) := placesL_map _ id (fun _ _ => rfl) rfl _ (fun E _ => rfl)
      refine key _ ⟨?_, ?_, ?_, ?_, ?_⟩
      · show (placesL ((evictL k a n S.es).map (cutE k a n))).Pairwise leP
        rw [e1]; exact h2.asc
      · show ∀ p ∈ placesL ((evictL k a n S.es).map (cutE k a n)), _
        rw [e1]; exact h2.bd
      · show ((evictL k a n S.es).map (cutE k a n)).Pairwise _
        rw [List.pairwise_map]; exact h2.ids
      · intro E hE
        obtain ⟨F, hF, rfl⟩ := List.mem_map.1 (show E ∈ (evictL k a n S.es).map (cutE k a n) from hE)
        exact h2.idb F hF
      · intro E hE
        obtain ⟨F, hF, rfl⟩ := List.mem_map.1 (show E ∈ (evictL k a n S.es).map (cutE k a n) from hE)
        have ok := h2.ok F hF
        exact ⟨ok.four, ok.lo, ok.hi⟩
    · exact key S.es h
  · exact h.mono
def nearB (o : Bop) : Bool := decide (o.r ≤ 1000000000) && decide (o.c ≤ 1000000000) && decide (o.a ≤ 1000000000) && decide (o.n ≤ 1000000000)
theorem TInv.step {mo N : Nat} {S : Bs} (h : TInv N S) (hi0 : 0 ≤ S.ids) (hN : N ≤ 100) (o : Bop) (hn : nearB o = true) : TInv (N + 1) (stepB mo S o) := by
  simp only [nearB, Bool.and_eq_true, decide_eq_true_eq] at hn
  unfold stepB
  split
  · exact h.shift hN _ _ _ hn.2
  · exact h.take hi0 _ _ hn.1.1.1 hn.1.1.2
theorem tInv0 : TInv 0 ⟨0, ByteArray.empty, []⟩ := ⟨List.Pairwise.nil, fun p hp => (by cases hp), List.Pairwise.nil, fun E hE => (by cases hE), fun E hE => (by cases hE)⟩
/-- A block that lies behind the one ahead of it. -/
structure TileAt (l : List Bk) (i : Nat) (c : Bk) : Prop where
  o1 : lessB c.ir c.ic c.sr c.sc = false
  o2 : lessB c.pr c.pc c.ir c.ic = false
  o3 : lessB c.dr c.dc c.pr c.pc = false
  o4 : lessB c.tr c.tc c.dr c.dc = false
  prev : ∀ d, 0 < i → l[i - 1]? = some d → c.sr = d.tr ∧ c.sc = d.tc ∧ d.id < c.id
structure Tiles (l : List Bk) (e : P2) : Prop where
  at_ : ∀ i c, l[i]? = some c → TileAt l i c
  first : ∀ c, l[0]? = some c → c.sr = 0 ∧ c.sc = 0 ∧ c.id = 0
  last : ∀ c, l[l.length - 1]? = some c → lessB c.tr c.tc e.1 e.2 = false
theorem shown_order {E : Ent} (ok : EntOk E) {s : P2} (ha : (rch E).Pairwise leP) (hs : ∀ x ∈ rch E, leP x s) :
    leP (shQ E s 0) (shQ E s 1) ∧ leP (shQ E s 1) (shQ E s 2) ∧ leP (shQ E s 2) (shQ E s 3) ∧ leP (shQ E s 3) s ∧ shQ E s 0 = E.first := by
  have h4 := shownL_len ok s
  have hp : (shownL E s).Pairwise leP := asc_add ha hs _
  have hall : ∀ x ∈ shownL E s, leP x s := fun x hx => by
    rcases List.mem_append.1 hx with hx | hx
    · exact hs x hx
    · rw [(List.mem_replicate.1 hx).2]; exact leP_refl s
  have hf : shQ E s 0 = E.first := by
    have h1 := ok.lo
    have h5 := ok.four
    unfold shQ shownL Ent.first Ent.at_
    rw [List.getD_eq_getElem?_getD, List.getD_eq_getElem?_getD, List.getElem?_append_left (by simp; omega), List.getElem?_take_of_lt (by omega)]
  unfold shQ at hf ⊢
  match hl : shownL E s, h4 with
  | [a, b, c, d], _ =>
    rw [hl] at hp hall hf
    simp only [List.pairwise_cons] at hp
    simp only [List.getD_cons_zero, List.getD_cons_succ] at hf ⊢
    exact ⟨hp.1 b (by simp), hp.2.1 c (by simp), hp.2.2.1 d (by simp), hall d (by simp), hf⟩
theorem shownAll_get {es : List Ent} {q : P2} : ∀ (m i : Nat), m ≤ es.length → i < m → ∃ E, es[i]? = some E ∧ (shownAll es q m)[i]? = some (shownB E (stopOf es q i))
  | 0, i, _, h => by omega
  | m + 1, i, hm, h => by
    have hlt : m < es.length := by omega
    rw [shownAll_succ (List.getElem?_eq_getElem hlt)]
    by_cases hi : i < m
    · obtain ⟨E, h1, h2⟩ := shownAll_get (es := es) (q := q) m i (by omega) hi
      exact ⟨E, h1, by rw [List.getElem?_append_left (by rw [shownAll_len _ _ _ (by omega)]; exact hi)]; exact h2⟩
    · obtain rfl : i = m := by omega
      exact ⟨es[i], List.getElem?_eq_getElem hlt, by rw [List.getElem?_append_right (by rw [shownAll_len _ _ _ (by omega)]; exact Nat.le_refl _), shownAll_len _ _ _ (by omega)]; simp⟩
theorem placesL_mem {es : List Ent} {E : Ent} (h : E ∈ es) {x : P2} (hx : x ∈ rch E) : x ∈ placesL es := List.mem_flatMap.2 ⟨E, h, hx⟩
theorem stop_le {es : List Ent} {q : P2} (ha : (placesL es).Pairwise leP) (hok : ∀ E ∈ es, EntOk E) (hq : ∀ x ∈ placesL es, leP x q) {i : Nat} {E : Ent} (hE : es[i]? = some E) : ∀ x ∈ rch E, leP x (stopOf es q i) := by
  intro x hx
  have hm := List.mem_of_getElem? hE
  unfold stopOf
  cases hn : es[i + 1]? with
  | none => exact hq x (placesL_mem hm hx)
  | some F =>
    have hi := (List.getElem?_eq_some_iff.1 hn).1
    have hF := List.mem_of_getElem? hn
    rw [← List.take_append_drop (i + 1) es, placesL_append] at ha
    refine (List.pairwise_append.1 ha).2.2 x (placesL_mem (List.mem_of_getElem? (i := i) ?_) hx) F.first (placesL_mem (List.mem_of_getElem? (i := 0) ?_) (rch_first (hok F hF)))
    · rw [List.getElem?_take_of_lt (by omega)]; exact hE
    · rw [List.getElem?_drop]; exact hn
theorem later_ge (p q : P2) : ltP (laterP p q) p = false := by
  unfold laterP
  split
  · next h => rw [ltP_iff] at h; rw [ltP_no]; omega
  · exact leP_refl p
theorem listB_tiles {N : Nat} {S : Bs} (h : TInv N S) {p : P2} (h1 : 0 ≤ p.1) (h2 : 0 ≤ p.2) : Tiles (listB S.es p) p := by
  have z : ∀ q : P2, 0 ≤ q.1 → 0 ≤ q.2 → lessB q.1 q.2 0 0 = false := fun q a b => by simp [lessB]; omega
  have r : ∀ q : P2, lessB q.1 q.2 q.1 q.2 = false := fun q => by simp [lessB]
  match hes : S.es with
  | [] =>
    have e : listB [] p = [firstB p] := rfl
    rw [e]
    refine ⟨fun i c hc => ?_, fun c hc => ?_, fun c hc => ?_⟩
    · match i, hc with
      | 0, hc =>
        obtain rfl : firstB p = c := by simpa using hc
        exact ⟨z p h1 h2, r p, r p, r p, fun d hd _ => absurd hd (by omega)⟩
    · obtain rfl : firstB p = c := by simpa using hc
      exact ⟨rfl, rfl, rfl⟩
    · obtain rfl : firstB p = c := by simpa using hc
      exact r p
  | E0 :: l =>
    have hasc := h.asc
    have hok := h.ok
    have hbd := h.bd
    have hids := h.ids
    have hidb := h.idb
    rw [hes] at hasc hok hbd hids hidb
    have hlast : ((E0 :: l).getLast (by simp)) ∈ E0 :: l := List.getLast_mem _
    have hge := later_ge p ((E0 :: l).getLast (by simp)).last
    have hq : ∀ x ∈ placesL (E0 :: l), leP x (laterP p ((E0 :: l).getLast (by simp)).last) := fun x hx => by
      refine leP_trans ?_ (later_le _ _)
      obtain ⟨m, hm⟩ := rch_last (hok _ hlast)
      have hd : E0 :: l = (E0 :: l).dropLast ++ [(E0 :: l).getLast (by simp)] := (List.dropLast_concat_getLast (by simp)).symm
      have ha2 := hasc
      rw [hd, placesL_append, placesL_one, hm, ← List.append_assoc] at ha2 hx
      rcases List.mem_append.1 hx with hx | hx
      · exact (List.pairwise_append.1 ha2).2.2 x hx _ (by simp)
      · rw [List.mem_singleton.1 hx]; exact leP_refl _
    show Tiles (firstB E0.first :: shownAll (E0 :: l) (laterP p ((E0 :: l).getLast (by simp)).last) (l.length + 1)) p
    generalize laterP p ((E0 :: l).getLast (by simp)).last = q at hq hge
    have hlen := shownAll_len (E0 :: l) q (l.length + 1) (by simp)
    have hsub : ∀ E ∈ E0 :: l, (rch E).Pairwise leP := fun E hE => by
      obtain ⟨a, b, e⟩ := List.append_of_mem hE
      rw [e, show a ++ E :: b = a ++ ([E] ++ b) by simp, placesL_append, placesL_append, placesL_one] at hasc
      exact (List.pairwise_append.1 (List.pairwise_append.1 hasc).2.1).1
    have hget : ∀ i, i < l.length + 1 → ∃ E, (E0 :: l)[i]? = some E ∧ (shownAll (E0 :: l) q (l.length + 1))[i]? = some (shownB E (stopOf (E0 :: l) q i)) := fun i hi => shownAll_get (l.length + 1) i (by simp) hi
    have horder : ∀ i E, (E0 :: l)[i]? = some E → _ := fun i E hE => shown_order (s := stopOf (E0 :: l) q i) (hok E (List.mem_of_getElem? hE)) (hsub E (List.mem_of_getElem? hE)) (stop_le hasc hok hq hE)
    have hf0 := hbd E0.first (placesL_mem (by simp) (rch_first (hok E0 (by simp))))
    refine ⟨fun i c hc => ?_, fun c hc => ?_, fun c hc => ?_⟩
    · match i, hc with
      | 0, hc =>
        obtain rfl : firstB E0.first = c := by simpa using hc
        exact ⟨z _ hf0.1 hf0.2.2.1, r _, r _, r _, fun d hd _ => absurd hd (by omega)⟩
      | i + 1, hc =>
        rw [List.getElem?_cons_succ] at hc
        have hi : i < l.length + 1 := by have := (List.getElem?_eq_some_iff.1 hc).1; omega
        obtain ⟨E, hE, hs⟩ := hget i hi
        rw [hs] at hc
        injection hc with hc
        subst hc
        obtain ⟨o1, o2, o3, o4, o5⟩ := horder i E hE
        refine ⟨o1, o2, o3, o4, fun d _ hd => ?_⟩
        rw [Nat.add_sub_cancel] at hd
        have e1 : (shownB E (stopOf (E0 :: l) q i)).sr = E.first.1 ∧ (shownB E (stopOf (E0 :: l) q i)).sc = E.first.2 := ⟨by rw [← o5]; rfl, by rw [← o5]; rfl⟩
        rw [e1.1, e1.2]
        match i, hd with
        | 0, hd =>
          obtain rfl : firstB E0.first = d := by simpa using hd
          obtain rfl : E0 = E := by simpa using hE
          exact ⟨rfl, rfl, by show 0 < E0.id; have := (hidb E0 (by simp)).1; omega⟩
        | j + 1, hd =>
          rw [List.getElem?_cons_succ] at hd
          obtain ⟨F, hF, hs2⟩ := hget j (by omega)
          rw [hs2] at hd
          injection hd with hd
          subst hd
          have e2 : stopOf (E0 :: l) q j = E.first := by unfold stopOf; rw [hE]
          refine ⟨by show E.first.1 = (stopOf (E0 :: l) q j).1; rw [e2], by show E.first.2 = (stopOf (E0 :: l) q j).2; rw [e2], ?_⟩
          show F.id < E.id
          obtain ⟨k1, k2⟩ := List.getElem?_eq_some_iff.1 hF
          obtain ⟨k3, k4⟩ := List.getElem?_eq_some_iff.1 hE
          have := List.pairwise_iff_getElem.1 hids j (j + 1) k1 k3 (by omega)
          rw [k2, k4] at this
          exact this
    · obtain rfl : firstB E0.first = c := by simpa using hc
      exact ⟨rfl, rfl, rfl⟩
    · rw [List.length_cons, hlen, Nat.add_sub_cancel, List.getElem?_cons_succ] at hc
      obtain ⟨E, hE, hs⟩ := hget l.length (by omega)
      rw [hs] at hc
      injection hc with hc
      subst hc
      have e2 : stopOf (E0 :: l) q l.length = q := by
        unfold stopOf
        rw [List.getElem?_eq_none (by simp)]
      show lessB (stopOf (E0 :: l) q l.length).1 (stopOf (E0 :: l) q l.length).2 p.1 p.2 = false
      rw [e2]
      exact hge
end Go.Proofs.Ytgfaincejebogaa
