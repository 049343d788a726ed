/- Plain: the blocks' places are in order, and their numbers rise. Conditions: none. -/
import Derived.Test.YtgfaincejebogaaBsD
namespace Go.Proofs.Ytgfaincejebogaa

def rch (E : Ent) : List P2 := E.pl.take E.ph
def placesL (es : List Ent) : List P2 := es.flatMap rch
def leP (p q : P2) : Prop := ltP q p = false
structure TInv (N : Nat) (S : Bs) : Prop where
  asc : (placesL S.es).Pairwise leP
  bd : ∀ p ∈ placesL S.es, 0 ≤ p.1 ∧ p.1 ≤ (N : Int) * 1000000000 ∧ 0 ≤ p.2 ∧ p.2 ≤ 1000000000
  ids : S.es.Pairwise (fun a b => a.id < b.id)
  idb : ∀ E ∈ S.es, 1 ≤ E.id ∧ E.id ≤ S.ids
  ok : ∀ E ∈ S.es, EntOk E
theorem leP_refl (p : P2) : leP p p := by unfold leP; rw [ltP_no]; omega
theorem leP_trans {p q r : P2} (h : leP p q) (k : leP q r) : leP p r := ltP_trans_no h k
theorem placesL_append (a b : List Ent) : placesL (a ++ b) = placesL a ++ placesL b := by simp [placesL]
theorem placesL_one (E : Ent) : placesL [E] = rch E := by simp [placesL]
theorem rch_reachN (E : Ent) (p : P2) : ∀ n, E.ph + n ≤ E.pl.length → rch (reachN E p n) = rch E ++ List.replicate n p
  | 0, _ => by simp [reachN]
  | n + 1, h => by
    have ih := rch_reachN E p n (by omega)
    have h1 := reachN_ph E p n
    have h2 := reachN_len E p n
    unfold rch at ih ⊢
    rw [reachN]
    simp only []
    rw [List.take_succ_eq_append_getElem (by rw [List.length_set, h2, h1]; omega), List.getElem_set_self, List.take_set_of_le (Nat.le_refl _), ih, List.replicate_succ', List.append_assoc]
theorem rch_reachE {E : Ent} {phase : Nat} (p : P2) (h4 : E.pl.length = 4) (h : E.ph ≤ phase) (h2 : phase ≤ 4) : rch (reachE E phase p) = rch E ++ List.replicate (phase - E.ph) p :=
  rch_reachN E p _ (by omega)
theorem asc_add {l : List P2} (h : l.Pairwise leP) {p : P2} (hp : ∀ x ∈ l, leP x p) (n : Nat) : (l ++ List.replicate n p).Pairwise leP := by
  refine List.pairwise_append.2 ⟨h, ?_, fun x hx y hy => by rw [(List.mem_replicate.1 hy).2]; exact hp x hx⟩
  rw [List.pairwise_replicate]
  exact .inr (leP_refl p)
theorem rch_last {E : Ent} (h : EntOk E) : ∃ l, rch E = l ++ [E.last] := by
  have h1 := h.lo
  have h2 := h.hi
  have h4 := h.four
  refine ⟨E.pl.take (E.ph - 1), ?_⟩
  unfold rch Ent.last Ent.at_
  conv => lhs; rw [show E.ph = (E.ph - 1) + 1 by omega]
  rw [List.take_succ_eq_append_getElem (by omega)]
  simp [List.getD_eq_getElem?_getD, List.getElem?_eq_getElem (show E.ph - 1 < E.pl.length by omega)]
theorem rch_first {E : Ent} (h : EntOk E) : E.first ∈ rch E := by
  have h1 := h.lo
  have h4 := h.four
  unfold rch Ent.first Ent.at_
  have : (E.pl.take E.ph)[0]? = some (E.pl.getD 0 (0, 0)) := by
    rw [List.getElem?_take_of_lt (by omega), List.getD_eq_getElem?_getD, List.getElem?_eq_getElem (by omega)]; rfl
  exact List.mem_of_getElem? this
theorem later_le (p q : P2) : leP q (laterP p q) := by
  unfold laterP
  split
  · exact leP_refl q
  · next h => unfold leP; simpa using h
theorem TInv.atB {N : Nat} {S : Bs} (h : TInv N S) (p0 : P2) : ∀ x ∈ placesL S.es, leP x (atB S p0) := by
  rcases List.eq_nil_or_concat S.es with e | ⟨L, E, e⟩
  · rw [e]; intro x hx; cases hx
  · rw [List.concat_eq_append] at e
    have hok := h.ok E (by rw [e]; simp)
    obtain ⟨l, hl⟩ := rch_last hok
    have ha := h.asc
    unfold Go.Proofs.Ytgfaincejebogaa.atB
    rw [e, getLast_snoc]
    rw [e, placesL_append, placesL_one, hl, ← List.append_assoc] at ha
    intro x hx
    rw [placesL_append, placesL_one, hl, ← List.append_assoc] at hx
    rcases List.mem_append.1 hx with hx | hx
    · exact leP_trans ((List.pairwise_append.1 ha).2.2 x hx E.last (by simp)) (later_le _ _)
    · rw [List.mem_singleton.1 hx]; exact later_le _ _
def BdP (N : Nat) (p : P2) : Prop := 0 ≤ p.1 ∧ p.1 ≤ (N : Int) * 1000000000 ∧ 0 ≤ p.2 ∧ p.2 ≤ 1000000000
theorem TInv.atB_bd {N : Nat} {S : Bs} (h : TInv N S) {p0 : P2} (hp : BdP (N + 1) p0) : BdP (N + 1) (Go.Proofs.Ytgfaincejebogaa.atB S p0) := by
  rcases List.eq_nil_or_concat S.es with e | ⟨L, E, e⟩
  · unfold Go.Proofs.Ytgfaincejebogaa.atB; rw [e]; exact hp
  · rw [List.concat_eq_append] at e
    have hok := h.ok E (by rw [e]; simp)
    obtain ⟨l, hl⟩ := rch_last hok
    unfold Go.Proofs.Ytgfaincejebogaa.atB
    rw [e, getLast_snoc]
    simp only []
    unfold laterP
    split
    · have := h.bd E.last (by rw [e, placesL_append, placesL_one, hl]; simp)
      unfold BdP
      omega
    · exact hp
theorem TInv.mono {N : Nat} {S : Bs} (h : TInv N S) : TInv (N + 1) S := ⟨h.asc, fun p hp => by have := h.bd p hp; omega, h.ids, h.idb, h.ok⟩
theorem TInv.dir {N : Nat} {S : Bs} (h : TInv N S) (d : ByteArray) : TInv N { S with dir := d } := ⟨h.asc, h.bd, h.ids, h.idb, h.ok⟩
theorem TInv.setLast {N : Nat} {S : Bs} (h : TInv N S) {L : List Ent} {E E' : Ent} (e : S.es = L ++ [E]) (n : Nat) (p : P2) (hp : ∀ x ∈ placesL S.es, leP x p) (hb : BdP (N + 1) p) (hr : rch E' = rch E ++ List.replicate n p) (hid : E'.id = E.id) (hok : EntOk E') (d : ByteArray) :
    TInv (N + 1) ⟨S.ids, d, L ++ [E']⟩ := by
  have e1 : placesL (L ++ [E']) = placesL S.es ++ List.replicate n p := by
    rw [e, placesL_append, placesL_append, placesL_one, placesL_one, hr, List.append_assoc]
  have hids := h.ids
  rw [e] at hids
  have hp1 := List.pairwise_append.1 hids
  refine ⟨?_, fun x hx => ?_, ?_, fun F hF => ?_, fun F hF => ?_⟩
  · show (placesL (L ++ [E'])).Pairwise leP
    rw [e1]; exact asc_add h.asc hp n
  · have hx' : x ∈ placesL (L ++ [E']) := hx
    rw [e1] at hx'
    rcases List.mem_append.1 hx' with hx' | hx'
    · have := h.bd x hx'; omega
    · rw [(List.mem_replicate.1 hx').2]; exact hb
  · show (L ++ [E']).Pairwise _
    refine List.pairwise_append.2 ⟨hp1.1, List.pairwise_singleton _ _, fun a ha b hb => ?_⟩
    rw [List.mem_singleton.1 hb, hid]
    exact hp1.2.2 a ha E (by simp)
  · rcases List.mem_append.1 (show F ∈ L ++ [E'] from hF) with hF | hF
    · exact h.idb F (by rw [e]; simp [hF])
    · rw [List.mem_singleton.1 hF, hid]; exact h.idb E (by rw [e]; simp)
  · rcases List.mem_append.1 (show F ∈ L ++ [E'] from hF) with hF | hF
    · exact h.ok F (by rw [e]; simp [hF])
    · rw [List.mem_singleton.1 hF]; exact hok
theorem TInv.drop {N : Nat} {S : Bs} (h : TInv N S) (k : Nat) : TInv N { S with es := S.es.drop k } := by
  have hs : (placesL (S.es.drop k)).Sublist (placesL S.es) := by
    conv => rhs; rw [← List.take_append_drop k S.es, placesL_append]
    exact List.sublist_append_right _ _
  exact ⟨h.asc.sublist hs, fun p hp => h.bd p (hs.subset hp), h.ids.sublist (List.drop_sublist _ _), fun E hE => h.idb E (List.mem_of_mem_drop hE), fun E hE => h.ok E (List.mem_of_mem_drop hE)⟩
theorem TInv.start {mo N : Nat} {S : Bs} (h : TInv N S) (hi0 : 0 ≤ S.ids) {phase : Nat} {p : P2} (h1 : 1 ≤ phase) (h2 : phase ≤ 4) (hp : ∀ x ∈ placesL S.es, leP x p) (hb : BdP (N + 1) p) : TInv (N + 1) (startB mo S phase p) := by
  have hr : rch (reachE (newE (S.ids + 1) S.dir) phase p) = List.replicate phase p := by
    rw [rch_reachE p rfl (Nat.zero_le _) h2]
    simp [rch, newE]
  have hok : EntOk (reachE (newE (S.ids + 1) S.dir) phase p) := reachE_ok rfl (Nat.zero_le _) h1 h2
  have hid : (reachE (newE (S.ids + 1) S.dir) phase p).id = S.ids + 1 := reachN_id _ _ _
  generalize hE : reachE (newE (S.ids + 1) S.dir) phase p = E at hr hok hid
  have key : TInv (N + 1) ⟨S.ids + 1, S.dir, S.es ++ [E]⟩ := by
    refine ⟨?_, fun x hx => ?_, ?_, fun F hF => ?_, fun F hF => ?_⟩
    · show (placesL (S.es ++ [E])).Pairwise leP
      rw [placesL_append, placesL_one, hr]; exact asc_add h.asc hp _
    · have hx' : x ∈ placesL (S.es ++ [E]) := hx
      rw [placesL_append, placesL_one, hr] at hx'
      rcases List.mem_append.1 hx' with hx' | hx'
      · have := h.bd x hx'; omega
      · rw [(List.mem_replicate.1 hx').2]; exact hb
    · show (S.es ++ [E]).Pairwise _
      refine List.pairwise_append.2 ⟨h.ids, List.pairwise_singleton _ _, fun a ha b hb => ?_⟩
      rw [List.mem_singleton.1 hb, hid]
      have := h.idb a ha; omega
    · show 1 ≤ F.id ∧ F.id ≤ S.ids + 1
      rcases List.mem_append.1 (show F ∈ S.es ++ [E] from hF) with hF | hF
      · have := h.idb F hF; omega
      · rw [List.mem_singleton.1 hF, hid]; omega
    · rcases List.mem_append.1 (show F ∈ S.es ++ [E] from hF) with hF | hF
      · exact h.ok F hF
      · rw [List.mem_singleton.1 hF]; exact hok
  unfold startB
  simp only [hE]
  split
  · exact key.drop 1
  · exact key
theorem openB_get {S : Bs} {a b : Nat} (h : openB S a b = true) : ∃ L E, S.es = L ++ [E] ∧ a ≤ E.ph ∧ E.ph ≤ b := by
  rcases List.eq_nil_or_concat S.es with e | ⟨L, E, e⟩
  · unfold openB at h; rw [e] at h; cases h
  · rw [List.concat_eq_append] at e
    unfold openB at h
    rw [e, getLast_snoc] at h
    simp at h
    exact ⟨L, E, e, h.1, h.2⟩
theorem reachE_okE {E : Ent} {phase : Nat} {p : P2} (ok : EntOk E) (h : E.ph ≤ phase) (h2 : phase ≤ 4) : EntOk (reachE E phase p) := reachE_ok ok.four h (Nat.le_trans ok.lo h) h2
theorem TInv.take {mo N : Nat} {S : Bs} (h : TInv N S) (hi0 : 0 ≤ S.ids) (x : Sg) (p0 : P2) (h1 : p0.1 ≤ 1000000000) (h2 : p0.2 ≤ 1000000000) : TInv (N + 1) (takeB mo S x p0) := by
  unfold takeB
  split
  · next hin =>
    simp only [Bool.and_eq_true] at hin
    have b1 := inB_true hin.1
    have b2 := inB_true hin.2
    have hb0 : BdP (N + 1) p0 := by unfold BdP; omega
    have hp := h.atB p0
    have hb := h.atB_bd hb0
    have hb' : BdP (N + 1) (Go.Proofs.Ytgfaincejebogaa.atB S p0) := hb
    simp only []
    generalize Go.Proofs.Ytgfaincejebogaa.atB S p0 = p at hp hb
    have reach : ∀ (L : List Ent) (E : Ent) (k : Nat) (f : Ent → Ent), S.es = L ++ [E] → E.ph ≤ k → k ≤ 4 → (∀ X, rch (f X) = rch X ∧ (f X).id = X.id ∧ (EntOk X → EntOk (f X))) → ∀ d, TInv (N + 1) ⟨S.ids, d, L ++ [f (reachE E k p)]⟩ := fun L E k f e hk hk4 hf d => by
      have ok := h.ok E (by rw [e]; simp)
      exact h.setLast e (k - E.ph) p hp hb (by rw [(hf _).1, rch_reachE p ok.four hk hk4]) (by rw [(hf _).2.1]; exact reachN_id _ _ _) ((hf _).2.2 (reachE_okE ok hk hk4)) d
    have field : ∀ (L : List Ent) (E : Ent) (f : Ent → Ent), S.es = L ++ [E] → (∀ X, rch (f X) = rch X ∧ (f X).id = X.id ∧ (EntOk X → EntOk (f X))) → ∀ d, TInv (N + 1) ⟨S.ids, d, L ++ [f E]⟩ := fun L E f e hf d => by
      have ok := h.ok E (by rw [e]; simp)
      exact h.setLast e 0 p hp hb (by rw [(hf _).1]; simp) (hf _).2.1 ((hf _).2.2 ok) d
    have same : ∀ (c : Int) (hs cu : Bool) (d l : ByteArray) (X : Ent), rch ⟨c, hs, cu, d, l, X.id, X.pl, X.ph⟩ = rch X ∧ X.id = X.id ∧ (EntOk X → EntOk ⟨c, hs, cu, d, l, X.id, X.pl, X.ph⟩) := fun c hs cu d l X => ⟨rfl, rfl, fun ok => ⟨ok.four, ok.lo, ok.hi⟩⟩
    split
    · exact h.start hi0 (by decide) (by decide) hp hb
    split
    · split
      · next ho =>
        obtain ⟨L, E, e, o1, o2⟩ := openB_get ho
        rw [e, setLast_snoc]
        exact reach L E 2 id e (by omega) (by decide) (fun X => ⟨rfl, rfl, id⟩) S.dir
      · exact h.start hi0 (by decide) (by decide) hp hb
    split
    · split
      · next ho =>
        obtain ⟨L, E, e, o1, o2⟩ := openB_get ho
        rw [e, setLast_snoc]
        exact reach L E 3 id e (by omega) (by decide) (fun X => ⟨rfl, rfl, id⟩) S.dir
      · exact h.start hi0 (by decide) (by decide) hp hb
    split
    · split
      · next ho =>
        obtain ⟨L, E, e, o1, o2⟩ := openB_get ho
        rw [e, setLast_snoc]
        exact reach L E 4 (fun X => { X with code := x.code, has := x.has }) e (by omega) (by decide) (fun X => same _ _ _ _ _ X) S.dir
      · exact h.mono
    split
    · split
      · next ho =>
        obtain ⟨L, E, e, o1, o2⟩ := openB_get ho
        rw [e, setLast_snoc]
        exact field L E (fun X => { X with line := x.text }) e (fun X => same _ _ _ _ _ X) S.dir
      · exact h.mono
    split
    · split
      · next ho =>
        obtain ⟨L, E, e, o1, o2⟩ := openB_get ho
        rw [e, setLast_snoc]
        exact field L E (fun X => { X with dir := x.text }) e (fun X => same _ _ _ _ _ X) x.text
      · exact h.mono.dir _
    exact h.mono
  · exact h.mono
end Go.Proofs.Ytgfaincejebogaa
