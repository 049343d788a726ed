/- Joined by a tool of this claim out of smaller texts. Conditions: as stated. -/
import Derived.Test.YtaefcahblmopfaaGreatDoorTn21
import Derived.Deep.OwnRows
set_option linter.unusedVariables false
set_option linter.unusedSimpArgs false
namespace Go.Proofs.YtaefcahblmopfaaGreatDoor
open Go.RowKit
/-- Events are done, one behind the other. -/
def evsG (ev : Tm → Ev → Tm) (t : Tm) (es : List Ev) : Tm := es.foldl ev t
def byteG (ev : Tm → Ev → Tm) (t : Tm) (c : Int) : Tm := evsG ev { t with pz := (stepPz t.pz c).1 } (stepPz t.pz c).2
def feedG (ev : Tm → Ev → Tm) (t : Tm) (bs : List Int) : Tm := bs.foldl (byteG ev) t
/-- All events that come may be done. -/
def EvsOk (ev : Tm → Ev → Tm) (Ok : Tm → Ev → Prop) (t : Tm) (es : List Ev) : Prop := ∀ j e, es[j]? = some e → Ok (evsG ev t (es.take j)) e
def FeedOk (ev : Tm → Ev → Tm) (Ok : Tm → Ev → Prop) (t : Tm) (bs : List Int) : Prop := ∀ k c, bs[k]? = some c → EvsOk ev Ok { feedG ev t (bs.take k) with pz := (stepPz (feedG ev t (bs.take k)).pz c).1 } (stepPz (feedG ev t (bs.take k)).pz c).2
def kindF (k : Int) : FuncId := if k = 0 then 72 else if k = 1 then 73 else if k = 2 then 74 else if k = 3 then 75 else if k = 4 then 76 else 77
theorem kindF_enters (k : Int) (args : Array Value) (w : World) : (callFunc (kindF k) args).run Tryz.prog w = .ok (.enter (kindF k) args) w := by
  unfold kindF
  split
  · kernel_rfl
  split
  · kernel_rfl
  split
  · kernel_rfl
  split
  · kernel_rfl
  split
  · kernel_rfl
  · kernel_rfl
theorem neq_nilF (f : FuncId) (b : Array Value) (w : World) : (binOp .neq 84 (.func (.func f) b #[]) .nilFunc).run Tryz.prog w = .ok (.bool true) w := by
  have h : ∀ d : Nat, (Op.equalIn (d + 1) 84 (.func (.func f) b #[]) .nilFunc).run Tryz.prog w = .ok false w := fun d => by
    simp [Op.equalIn, run_underlying Tryz.underlying84]
  simp only [binOp]
  simp [Op.equal, Op.maxDepth, h 9999]
theorem tdoer_any (M : Nat) (k : Int) (hk : 0 ≤ k ∧ k ≤ 5) (w : World) : Calls Tryz.prog 38 #[.pointer (some ⟨M, 0, none⟩), .int .i64 k] w fun e w' => e = .returned (.func (.func (kindF k)) #[.pointer (some ⟨M, 0, none⟩)] #[]) ∧ w = w' := by
  have hkI : k = 0 ∨ k = 1 ∨ k = 2 ∨ k = 3 ∨ k = 4 ∨ k = 5 := by omega
  rcases hkI with rfl | rfl | rfl | rfl | rfl | rfl
  all_goals
    go_enter Tryz.func38, Tryz.ntmps38
    go_wp2
    go_ret
    exact ⟨rfl, rfl⟩
theorem evs_kinds (p : Pz) (c : Int) : ∀ e ∈ (stepPz p c).2, 0 ≤ e.kind ∧ e.kind ≤ 5 := by
  have fin : ∀ (p : Pz) (c : Int), ∀ e ∈ (finalP p c).2, 0 ≤ e.kind ∧ e.kind ≤ 5 := fun p c => by
    unfold finalP
    repeat' split
    all_goals first
      | (intro e h; simp at h; done)
      | (unfold escE; split <;> intro e h <;> simp at h; subst h; exact (by decide : (0 : Int) ≤ 2 ∧ (2 : Int) ≤ 5))
  have pr1 : ∀ (p : Pz) (r : Int), ∀ e ∈ (print1 p r).2, 0 ≤ e.kind ∧ e.kind ≤ 5 := fun p r => by
    unfold print1
    split
    · intro e h; rw [List.mem_singleton.1 h]; exact (by decide : (0 : Int) ≤ 1 ∧ (1 : Int) ≤ 5)
    split
    · intro e h; simp at h
    split
    · exact fin _ _
    · intro e h; rw [List.mem_singleton.1 h]; exact (by decide : (0 : Int) ≤ 0 ∧ (0 : Int) ≤ 5)
  have prs : ∀ (l : List Int) (p : Pz), ∀ e ∈ (printsP p l).2, 0 ≤ e.kind ∧ e.kind ≤ 5 := fun l => by
    induction l with
    | nil => intro p e h; simp [printsP] at h
    | cons r l ih => intro p e h; exact (List.mem_append.1 h).elim (pr1 _ _ e) (ih _ e)
  have ens : ∀ (p : Pz), ∀ e ∈ endsP p, 0 ≤ e.kind ∧ e.kind ≤ 5 := fun p => by
    unfold endsP
    split
    · intro e h; rw [List.mem_singleton.1 h]; exact ⟨by show (0 : Int) ≤ 4; decide, by show (4 : Int) ≤ 5; decide⟩
    split
    · intro e h; rw [List.mem_singleton.1 h]; exact ⟨by show (0 : Int) ≤ 5; decide, by show (5 : Int) ≤ 5; decide⟩
    · intro e h; cases h
  have one : ∀ c : Int, ∀ e ∈ [execE c], 0 ≤ e.kind ∧ e.kind ≤ 5 := fun c e h => by rw [List.mem_singleton.1 h]; exact ⟨by show (0 : Int) ≤ 1; decide, by show (1 : Int) ≤ 5; decide⟩
  unfold stepPz
  split
  · intro e h; exact (List.mem_append.1 h).elim (prs _ _ e) (one c e)
  split
  · intro e h; exact (List.mem_append.1 h).elim (prs _ _ e) (ens _ e)
  split
  · exact prs _ _
  split
  · unfold inStringP
    split
    · intro e h; cases h
    split
    · intro e h; cases h
    split
    · exact ens _
    split
    · intro e h; cases h
    · intro e h; cases h
  · unfold inHeadP
    split
    · exact prs _ _
    split
    · intro e h; cases h
    split
    · exact one c
    split
    · unfold inEscapeP
      split
      · intro e h; cases h
      · exact fin _ _
    · unfold inSeqP
      split
      · intro e h; cases h
      split
      · intro e h; cases h
      split
      · intro e h; cases h
      · show ∀ e ∈ csiE p c, _
        unfold csiE
        split
        · intro e h; cases h
        · intro e h; rw [List.mem_singleton.1 h]; exact ⟨by show (0 : Int) ≤ 3; decide, by show (3 : Int) ≤ 5; decide⟩
section
variable {base : Nat} {w : World} {v : Tv} {t : Tm}
/-- Events that lie apart from a terminal stay where it moves. -/
theorem ExsO.keepT {w' : World} {lo : Nat} {u : Value} {L : List Ex} {evs : List Ev} (h : ExsO w lo u L evs) (hO : TmO base w v t) (hm : Mod (tmX v) w w') : ExsO w' lo u L evs := by
  have hno : ∀ (b : Nat) (ty : TypeId), TyB w b ty → (ty = 241 ∨ ty = 3 ∨ ty = 83) → b ∉ tmX v := fun b ty hb ht hx => by
    obtain ⟨cur, hc⟩ := hb
    exact TyAt.apart (l1 := [ty]) ⟨cur, ty, hc, by simp⟩ (hO.tyX b hx) (fun t2 h2 => by rw [List.mem_singleton.1 h2]; rcases ht with rfl | rfl | rfl <;> decide)
  exact ⟨owns_mod h.own hm (fun g hg => hno g _ (own_block h.own hg) (.inr (.inr rfl))), h.es, fun x hx => (h.ok x hx).modT hm (fun b hb => .inr (.inr ⟨fun ht => hno b _ ht (.inl rfl) hb, fun ht => hno b _ ht (.inr (.inl rfl)) hb⟩))⟩
/-- What the functions that do events say, where they may be done. -/
def DoSays (base : Nat) (ev : Tm → Ev → Tm) (Ok : Tm → Ev → Prop) : Prop := ∀ (W : World) (lo : Nat) (v : Tv) (t : Tm) (x : Ex), TmO base W v t → ExOk W lo x → Ok t x.e → Calls Tryz.prog (kindF x.e.kind) #[.pointer (some ⟨v.M, 0, none⟩), .agg #[.int .i64 x.e.kind, .int .i32 x.e.r, .int .u8 x.e.byte, .int .u8 x.e.pre, .slice x.A x.H.length x.ca, .string (strOfNums x.e.inter), .string (strOfNums x.e.text), .bool x.e.cut]] W (TmPost base W v (ev t x.e))
/-- Bytes in memory, apart from a terminal. -/
def BytesIn (w : World) (A : Option Addr) (bs : List Int) (X : List Nat) : Prop := 0 < bs.length → ∃ g off, A = some ⟨g, off, none⟩ ∧ g ∉ X ∧ ∀ i x, bs[i]? = some x → w.cell? ⟨g, off + i, none⟩ = some (.int .u8 x)
/-- Where the loop over events is. -/
structure FdI (base : Nat) (w : World) (v : Tv) (ev : Tm → Ev → Tm) (t1 : Tm) (lo : Nat) (u : Value) (L : List Ex) (evs : List Ev) (wr : World) (j : Nat) : Prop where
  r : TmRes base w v (evsG ev t1 (evs.take j)) wr
  x : ExsO wr lo u L evs
theorem evsG_snoc (ev : Tm → Ev → Tm) (t : Tm) (l : List Ev) (e : Ev) : evsG ev t (l ++ [e]) = ev (evsG ev t l) e := by simp [evsG]
theorem feedG_snoc (ev : Tm → Ev → Tm) (t : Tm) (l : List Int) (c : Int) : feedG ev t (l ++ [c]) = byteG ev (feedG ev t l) c := by simp [feedG]
set_option maxRecDepth 100000 in
set_option maxHeartbeats 3200000 in
theorem tfeed_any (ev : Tm → Ev → Tm) (Ok : Tm → Ev → Prop) (HD : DoSays base ev Ok) (hev : ∀ t e, (ev t e).pz = t.pz) (h : TmO base w v t) (hok : PzOk t.pz) {A : Option Addr} {bs : List Int} {ca : Nat} (hb : BytesIn w A bs (tmX v)) (hbs : BysI bs) (hz : bs.length ≤ 100000000) (hF : FeedOk ev Ok t bs) :
    Calls Tryz.prog 9 #[.pointer (some ⟨v.M, 0, none⟩), .slice A bs.length ca] w (TmPost base w v (feedG ev t bs)) := by
  have HDo := Lib.hid HD
  have HFd := Lib.hid hF
  have HO := Lib.hid h
  have hpz : ∀ k, PzOk (feedG ev t (bs.take k)).pz := fun k => by
    have h1 : ∀ (es : List Ev) (t : Tm), (evsG ev t es).pz = t.pz := fun es => by
      induction es with
      | nil => intro t; rfl
      | cons e es ih => intro t; show (evsG ev (ev t e) es).pz = _; rw [ih, hev]
    have h2 : ∀ (l : List Int) (t : Tm), BysI l → PzOk t.pz → PzOk (feedG ev t l).pz := fun l => by
      induction l with
      | nil => intro t _ h; exact h
      | cons c l ih => intro t hl h; exact ih _ (fun x hx => hl x (List.mem_cons_of_mem _ hx)) (by show PzOk (evsG ev _ _).pz; rw [h1]; exact h.step (by have := hl c (List.mem_cons_self ..); omega))
    exact h2 _ _ (fun x hx => hbs x (List.mem_of_mem_take hx)) hok
  have HPz := Lib.hid hpz
  have HBy : Hid (∀ wr, Mod (tmX v) w wr → ∀ k, k < bs.length → ∃ g off c, A = some ⟨g, off, none⟩ ∧ bs[k]? = some c ∧ wr.cell? ⟨g, off + k, none⟩ = some (.int .u8 c) ∧ 0 ≤ c ∧ c ≤ 255) := Lib.hid (fun wr hm k hk => by
    obtain ⟨g, off, e, h1, h2⟩ := hb (by omega)
    have hc := List.getElem?_eq_getElem hk
    have := hbs _ (List.getElem_mem hk)
    exact ⟨g, off, bs[k], e, hc, hm.cell h1 (h2 k _ hc), by omega, by omega⟩)
  generalize hN : bs.length = n at hz HBy ⊢
  have HN := Lib.hid hN
  clear HD hF h hok hb hbs hpz hN
  go_enter Tryz.func9, Tryz.ntmps9
  go_wp2_with fail
  go_loopw [13] (fun s13 wr => ∃ k : Nat, s13 = .int .i64 k ∧ k ≤ n ∧ TmRes base w v (feedG ev t (bs.take k)) wr) (fun s13 _ => n - (intOf s13).toNat)
  case atStart => exact ⟨0, rfl, Nat.zero_le _, HO.out.res⟩
  case round =>
    obtain ⟨k, rfl, hk, hR⟩ := hrel
    obtain ⟨W1, rfl⟩ : ∃ W1, W1 = wr := ⟨_, rfl⟩
    have HR := Lib.hid hR
    clear hR
    by_cases hlt : k < n
    · have hltI : (k : Int) < (n : Int) := by omega
      have hwk : IntKind.i64.wrap ((k : Int) + 1) = (k : Int) + 1 := IntWalk.i64_in _ (by omega)
      obtain ⟨v1, hV1, hO1, hm1⟩ := HR.out
      obtain ⟨g, off, c, rfl, hck, hcell, hc0, hc1⟩ := HBy.out W1 hm1 k hlt
      have HSt := Lib.hid (zstep_any whole_says hO1.z (HPz.out k) c ⟨hc0, hc1⟩)
      have HEo := Lib.hid (HFd.out k c hck)
      have htk : feedG ev t (bs.take (k + 1)) = byteG ev (feedG ev t (bs.take k)) c := by
        obtain ⟨h1, h2⟩ := List.getElem?_eq_some_iff.1 hck
        rw [List.take_succ_eq_append_getElem h1, h2, feedG_snoc]
      unfold byteG at htk
      have HTk := Lib.hid htk
      have hkd := evs_kinds (feedG ev t (bs.take k)).pz c
      have p0 := hO1.facts.1
      rw [hV1.M] at p0
      have HO1 := Lib.hid hO1
      have HV1 := Lib.hid hV1
      have HM1 := Lib.hid hm1
      have HKd := Lib.hid hkd
      clear hO1 hV1 hm1 htk hkd hck
      generalize feedG ev t (bs.take k) = tk at HSt HEo HTk HO1 HKd
      go_wp2_with (go_at_call 37; (with_reducible refine HSt.out.mono ?_); rintro e w2 ⟨u, L, rfl, hx, hr⟩; obtain ⟨Ae, ce, rfl⟩ := row_form hx.own; have HX := Lib.hid hx; have HZ := Lib.hid hr; clear hx hr)
      generalize (stepPz tk.pz c).1 = p1 at HEo HTk HZ
      generalize (stepPz tk.pz c).2 = evs at HEo HTk HX HKd
      have HR1 := Lib.hid (TmRes.trans HV1.out HM1.out (HO1.out.withZ HZ.out))
      have HLn := Lib.hid HX.out.len
      have HX0 : Hid (ExsO w2 W1.heap.size (.slice Ae L.length ce) L evs) := HX
      generalize hm : L.length = m at HX0
      have HM := Lib.hid hm
      have hmx : m ≤ maxLen := by
        rcases HX0.out.own.2 with ⟨e1, -⟩ | ⟨g, c, cur, e1, -, -, e4, e5, -⟩
        · injection e1 with e1 e2 e3; omega
        · rw [← hm]; omega
      have hmx2 : m ≤ 9223372036854775807 := by unfold maxLen at hmx; exact hmx
      clear hm HX hcell p0 hmx
      go_loopw [24] (fun s24 wr2 => ∃ j : Nat, s24 = .int .i64 j ∧ j ≤ m ∧ FdI base w v ev { tk with pz := p1 } W1.heap.size (.slice Ae m ce) L evs wr2 j) (fun s24 _ => m - (intOf s24).toNat)
      case atStart => exact ⟨0, rfl, Nat.zero_le _, ⟨HR1.out, HX0.out⟩⟩
      case round =>
        obtain ⟨j, rfl, hj, hI⟩ := hrel
        have HI := Lib.hid hI
        clear hI
        by_cases hlj : j < m
        · have hljI : (j : Int) < (m : Int) := by omega
          have hwj : IntKind.i64.wrap ((j : Int) + 1) = (j : Int) + 1 := IntWalk.i64_in _ (by omega)
          obtain ⟨W2, rfl⟩ : ∃ W2, W2 = wr := ⟨_, rfl⟩
          have hjL : j < L.length := by have := HM.out; omega
          obtain ⟨x, hx⟩ : ∃ x, L[j]? = some x := ⟨_, List.getElem?_eq_getElem hjL⟩
          obtain ⟨eb, ce', he⟩ := own_form HI.out.x.own (by omega)
          obtain rfl : Ae = some ⟨eb, 0, none⟩ := by injection he
          have hrg : W2.rangeAt eb (j * 8) (encEx x) := fun i u hi => by
            have := World.ownsRow.cells HI.out.x.own (g := eb) rfl (j * 8 + i) u (by rw [flat_at2 encEx_len L j x i hx (by have := (List.getElem?_eq_some_iff.1 hi).1; rw [encEx_len] at this; exact this)]; exact hi)
            rw [add_lit', Nat.zero_add] at this
            exact this
          have HRg := Lib.hid hrg
          have hxe : evs[j]? = some x.e := by rw [← HI.out.x.es, List.getElem?_map, hx]; rfl
          have HXe := Lib.hid hxe
          have HXo := Lib.hid (HI.out.x.ok x (List.mem_of_getElem? hx))
          have HKx := Lib.hid (HKd.out x.e (List.mem_of_getElem? hxe))
          obtain ⟨v2, hV2, hO2, hm2⟩ := HI.out.r
          have HV2 := Lib.hid hV2
          have HO2 := Lib.hid hO2
          have HM2 := Lib.hid hm2
          obtain ⟨N, hNN⟩ : ∃ N, W2.heap.size = N := ⟨_, rfl⟩
          have HNN := Lib.hid hNN
          clear hV2 hO2 hm2 hx hjL he hrg hxe
          go_upto_region 6 with fail
          refine wp_region_lit ?_
          refine wpList_valG (.pointer (some ⟨eb, j * 8, none⟩)) (by rfl) (by go_simp) ?_
          simp only [Act.put, List.setIfInBounds_toArray, List.set_cons_zero, List.set_cons_succ]
          refine load_mid_g (by rfl) 83 (.tmp 26) rfl (eb) (j * 8) rfl (encEx x) _ (HRg.out) Tryz.underlying83 rfl info_event8 ?_
          simp only [Act.put, List.setIfInBounds_toArray, List.set_cons_zero, List.set_cons_succ]
          refine wpList_actG (.pointer (some ⟨N, 0, none⟩)) (W2.alloc (.cells #[.int .i64 0, .int .i32 0, .int .u8 0, .int .u8 0, .slice none 0 0, .string ⟨#[]⟩, .string ⟨#[]⟩, .bool false] 83)) (by rfl) (by rw [← hNN]; go_simp) ?_
          simp only [Act.put, List.setIfInBounds_toArray, List.set_cons_zero, List.set_cons_succ]
          refine wpList_store_mid rfl 83 (.tmp 7) (.tmp 27) rfl (N) (0) ((encEx x).toArray) rfl rfl (evB_at (cs := [.int .i64 0, .int .i32 0, .int .u8 0, .int .u8 0, .slice none 0 0, .string ⟨#[]⟩, .string ⟨#[]⟩, .bool false]) (hp_new hNN) rfl) info_event8 (all_oneCell_toArray (encEx_one x)) ?_
          simp only [Act.put]
          have hn5 := whole_setCells (b := N) (t := 83) (encEx x) 0 [.int .i64 0, .int .i32 0, .int .u8 0, .int .u8 0, .slice none 0 0, .string ⟨#[]⟩, .string ⟨#[]⟩, .bool false] (W2.alloc (.cells #[.int .i64 0, .int .i32 0, .int .u8 0, .int .u8 0, .slice none 0 0, .string ⟨#[]⟩, .string ⟨#[]⟩, .bool false] 83)) (hp_new hNN) (Nat.le_refl 8)
          have hb5 : Below W2.heap.size W2 ((W2.alloc (.cells #[.int .i64 0, .int .i32 0, .int .u8 0, .int .u8 0, .slice none 0 0, .string ⟨#[]⟩, .string ⟨#[]⟩, .bool false] 83)).setCells N 0 (encEx x)) := below_setN (below_allocs (Below.refl _ _) _) (Nat.le_of_eq hNN) (encEx x) 0
          generalize (W2.alloc (.cells #[.int .i64 0, .int .i32 0, .int .u8 0, .int .u8 0, .slice none 0 0, .string ⟨#[]⟩, .string ⟨#[]⟩, .bool false] 83)).setCells N 0 (encEx x) = W5 at hn5 hb5 ⊢
          have hn6 : W5.heap[N]? = some (.cells #[.int .i64 x.e.kind, .int .i32 x.e.r, .int .u8 x.e.byte, .int .u8 x.e.pre, .slice x.A x.H.length x.ca, .string (strOfNums x.e.inter), .string (strOfNums x.e.text), .bool x.e.cut] 83 (0, 0)) := hn5
          have d0 := (at_ hn6 0 _ rfl).1
          have HRg5 := Lib.hid (range_new (cs := encEx x) hn5)
          have HB5 := Lib.hid hb5
          have HDr := Lib.hid (fun W => tdoer_any v.M x.e.kind HKx.out W)
          have hfc := kindF_enters x.e.kind #[.pointer (some ⟨v.M, 0, none⟩), .agg (encEx x).toArray]
          have HDx : Hid (Calls Tryz.prog (kindF x.e.kind) #[.pointer (some ⟨v.M, 0, none⟩), .agg #[.int .i64 x.e.kind, .int .i32 x.e.r, .int .u8 x.e.byte, .int .u8 x.e.pre, .slice x.A x.H.length x.ca, .string (strOfNums x.e.inter), .string (strOfNums x.e.text), .bool x.e.cut]] W5 (TmPost base W5 v2 (ev (evsG ev { tk with pz := p1 } (evs.take j)) x.e))) := Lib.hid (by
            have := HDo.out W5 W1.heap.size v2 _ x (HO2.out.below hb5) (HXo.out.below hb5) (HEo.out j x.e HXe.out)
            rw [HV2.out.M] at this
            exact this)
          clear hn5 hn6 hb5 hNN
          have hnq := fun W => neq_nilF (kindF x.e.kind) #[.pointer (some ⟨v.M, 0, none⟩)] W
          go_upto_region 9 with (go_at_call 38; (with_reducible refine (HDr.out _).mono ?_); rintro e w6 ⟨rfl, rfl⟩)
          refine wp_region_lit ?_
          refine wpList_valG (.func (.func (kindF x.e.kind)) #[.pointer (some ⟨v.M, 0, none⟩)] #[]) (by rfl) (by rfl) ?_
          simp only [Act.put, List.setIfInBounds_toArray, List.set_cons_zero, List.set_cons_succ]
          refine load_mid_g (by rfl) 83 (.tmp 7) rfl (N) (0) rfl (encEx x) _ (HRg5.out) Tryz.underlying83 rfl info_event8 ?_
          simp only [Act.put, List.setIfInBounds_toArray, List.set_cons_zero, List.set_cons_succ]
          refine wpList_callZ rfl (kindF x.e.kind) #[.pointer (some ⟨v.M, 0, none⟩), .agg (encEx x).toArray] (by go_simp) (R := fun u w' => u = .tuple #[] ∧ TmRes base W5 v2 (ev (evsG ev { tk with pz := p1 } (evs.take j)) x.e) w') (HDx.out.mono (fun e w' ⟨he, hr⟩ => ⟨_, he, rfl, hr⟩)) ?_
          rintro u7 w7 ⟨rfl, hr⟩
          simp only [Act.put, List.setIfInBounds_toArray, List.set_cons_zero, List.set_cons_succ]
          have HI2 : Hid (FdI base w v ev { tk with pz := p1 } W1.heap.size (.slice (some ⟨eb, 0, none⟩) m ce) L evs w7 (j + 1)) := Lib.hid (by
            refine ⟨?_, ?_⟩
            · have ht : evs.take (j + 1) = evs.take j ++ [x.e] := by
                obtain ⟨h1, h2⟩ := List.getElem?_eq_some_iff.1 HXe.out
                rw [List.take_succ_eq_append_getElem h1, h2]
              rw [ht, evsG_snoc]
              exact TmRes.trans HV2.out HM2.out (TmRes.pre HB5.out hr)
            · obtain ⟨v3, -, -, hm3⟩ := hr
              exact (HI.out.x.below HB5.out).keepT (HO2.out.below HB5.out) hm3)
          clear hr
          go_wp2
          go_roundw
          case rel => exact ⟨j + 1, by go_num, by omega, HI2.out⟩
          case measure => simp [intOf]; omega
        · have hljI : ¬ (j : Int) < (m : Int) := by omega
          obtain rfl : j = m := by omega
          have hR : TmRes base w v (feedG ev t (bs.take (k + 1))) wr := by
            have := HI.out.r
            rw [List.take_of_length_le (by rw [← HLn.out, HM.out]; exact Nat.le_refl _)] at this
            rw [HTk.out]
            exact this
          have HR2 := Lib.hid hR
          clear hR
          go_wp2
          go_roundw
          case rel => exact ⟨k + 1, by go_num, by omega, HR2.out⟩
          case measure => simp [intOf]; omega
    · have hltI : ¬ (k : Int) < (n : Int) := by omega
      obtain rfl : k = n := by omega
      have hR : TmRes base w v (feedG ev t bs) W1 := by have := HR.out; rw [← HN.out, List.take_length] at this; exact this
      have HR2 := Lib.hid hR
      clear hR
      go_wp2
      go_end0
      exact ⟨rfl, HR2.out⟩
end
end Go.Proofs.YtaefcahblmopfaaGreatDoor

namespace Go.Proofs.YtaefcahblmopfaaGreatDoor
open Go.RowKit
set_option maxRecDepth 100000 in
theorem count133 (w : World) : Calls Tryz.prog 390 #[.string ⟨#[49, 51, 51, 59, 65]⟩, .string ⟨#[59]⟩] w fun e w' => e = .returned (.int .i64 1) ∧ w = w' := by
  go_enter Tryz.func390, Tryz.ntmps390
  go_wp2
  rw [run_callFunc_extern Tryz.func405 (by kernel_rfl) (by kernel_rfl) (by kernel_rfl) (e := Extern.BytealgCount.count) (by kernel_rfl), Lib.run_countString]
  simp only [Result.andThen]
  rw [Oper.upon_value]
  go_wp2
  go_ret
  exact ⟨congrArg (fun n : Nat => Ending.returned (Value.int .i64 (n : Int))) (by decide : Lib.countByte _ _ = 1), rfl⟩
theorem info_strZ : (Tryz.prog.info? 9).map (fun i => (i.zero, i.size, i.bytes)) = some (some (.string ⟨#[]⟩), 1, 16) := by kernel_rfl
theorem idx133 (w : World) : Calls Tryz.prog 391 #[.string ⟨#[49, 51, 51, 59, 65]⟩, .string ⟨#[59]⟩] w fun e w' => e = .returned (.int .i64 3) ∧ w = w' := by
  have HI := Lib.hid (index1_any ⟨#[49, 51, 51, 59, 65]⟩ 59 w)
  rw [show Lib.indexByte (⟨#[49, 51, 51, 59, 65]⟩ : ByteArray).data.toList 59 = 3 from by decide] at HI
  go_enter Tryz.func391, Tryz.ntmps391
  go_wp2_with (go_at_call 388; (with_reducible refine HI.out.mono ?_); rintro e w' ⟨rfl, rfl⟩)
  go_ret
  exact ⟨rfl, rfl⟩
def SplPost (w : World) (e : Ending) (w' : World) : Prop := ∃ g, e = .returned (.slice (some ⟨g, 0, none⟩) 2 2) ∧ w'.cell? ⟨g, 0, none⟩ = some (.string ⟨#[49, 51, 51]⟩) ∧ w'.cell? ⟨g, 1, none⟩ = some (.string ⟨#[65]⟩) ∧ Below w.heap.size w w'
set_option maxRecDepth 100000 in
set_option maxHeartbeats 1600000 in
theorem gsplit133 (w : World) : Calls Tryz.prog 364 #[.string ⟨#[49, 51, 51, 59, 65]⟩, .string ⟨#[59]⟩, .int .i64 0, .int .i64 (-1)] w (SplPost w) := by
  have HC := Lib.hid (fun w => count133 w)
  have HI := Lib.hid (fun w => idx133 w)
  have hmk : Sem.run Tryz.prog (Instr.makeSlice 109 (.int .i64 2) (.int .i64 2)) w = .ok (.slice (some ⟨w.heap.size, 0, none⟩) 2 2) (w.alloc (.cells #[.string ⟨#[]⟩, .string ⟨#[]⟩] 9)) := by
    have hmc : madeCells #[Value.string ⟨#[]⟩] 2 = #[.string ⟨#[]⟩, .string ⟨#[]⟩] := by
      unfold madeCells
      apply Array.ext'
      simp [Array.range, Array.ofFn, List.finRange]
      rfl
    rw [← hmc]
    exact run_make_row' 109 9 (.string ⟨#[]⟩) 16 Tryz.underlying109 info_strZ rfl .i64 .i64 2 (by omega) (by omega) w
  go_enter Tryz.func364, Tryz.ntmps364
  go_wp2_with (first
    | (go_at_call 390; (with_reducible refine (HC.out _).mono ?_); rintro e w1 ⟨rfl, rfl⟩)
    | (go_at_call 391; (with_reducible refine (HI.out _).mono ?_); rintro e w1 ⟨rfl, rfl⟩))
  go_loopw [0, 10] (fun s0 s10 wr => (s10 = .int .i64 0 ∧ s0 = .string ⟨#[49, 51, 51, 59, 65]⟩ ∧ wr = w.alloc (.cells #[.string ⟨#[]⟩, .string ⟨#[]⟩] 9)) ∨ (s10 = .int .i64 1 ∧ s0 = .string ⟨#[65]⟩ ∧ wr = w.alloc (.cells #[.string ⟨#[49, 51, 51]⟩, .string ⟨#[]⟩] 9))) (fun _ s10 _ => 1 - (intOf s10).toNat)
  case atStart => exact .inl ⟨rfl, rfl, rfl⟩
  case round =>
    rcases hrel with ⟨rfl, rfl, rfl⟩ | ⟨rfl, rfl, rfl⟩
    · go_wp2_with (go_at_call 391; (with_reducible refine (HI.out _).mono ?_); rintro e w1 ⟨rfl, rfl⟩)
      exact ⟨.inr ⟨rfl, congrArg Value.string (by decide +kernel), by rw [show (⟨#[49, 51, 51, 59, 65]⟩ : ByteArray).extract 0 3 = ⟨#[49, 51, 51]⟩ from by decide +kernel]⟩, by decide⟩
    · go_wp2
      go_ret
      exact ⟨w.heap.size, rfl, (at_ (hp_new rfl) 0 _ rfl).1, (at_ (hp_new rfl) 1 _ rfl).1, below_allocs (Below.refl _ _) _⟩
theorem split133 (w : World) : Calls Tryz.prog 308 #[.string ⟨#[49, 51, 51, 59, 65]⟩, .string ⟨#[59]⟩] w (SplPost w) := by
  have HG := Lib.hid (gsplit133 w)
  go_enter Tryz.func308, Tryz.ntmps308
  go_wp2_with (go_at_call 364; (with_reducible refine HG.out.mono ?_); rintro e w1 ⟨g, rfl, h1, h2, h3⟩; have H1 := Lib.hid h1; have H2 := Lib.hid h2; have H3 := Lib.hid h3; clear h1 h2 h3)
  go_ret
  exact ⟨g, rfl, H1.out, H2.out, H3.out⟩
theorem info_sign : (Tryz.prog.info? 90).map (·.size) = some 4 := by kernel_rfl
theorem info_reader : (Tryz.prog.info? 250).map (·.size) = some 3 := by kernel_rfl
def RdPost (w : World) (e : Ending) (w' : World) : Prop := ∃ g, e = .returned (.agg #[.slice (some ⟨g, 0, none⟩) 2 2, .string ⟨#[65]⟩, .bool true]) ∧ w'.cell? ⟨g, 0, none⟩ = some (.string ⟨#[49, 51, 51]⟩) ∧ w'.cell? ⟨g, 1, none⟩ = some (.string ⟨#[65]⟩) ∧ Below w.heap.size w w'
set_option maxRecDepth 100000 in
set_option maxHeartbeats 1600000 in
theorem open133 (w : World) : Calls Tryz.prog 227 #[.string ⟨#[49, 51, 51, 59, 65]⟩] w (RdPost w) := by
  have hC : ∀ w, Calls Tryz.prog 307 #[.string ⟨#[49, 51, 51, 59, 65]⟩, .string ⟨#[59]⟩] w fun e w' => e = .returned (.tuple #[.string ⟨#[49, 51, 51]⟩, .string ⟨#[65]⟩, .bool true]) ∧ Below w.heap.size w w' := fun w => by
    have := cut_any 59 [49, 51, 51, 59, 65] (by intro x hx; simp at hx; omega) (by decide) w
    exact this
  have HC := Lib.hid hC
  have HS := Lib.hid (fun w => split133 w)
  clear hC
  obtain ⟨W, hW⟩ : ∃ W, w.alloc (.cells #[.slice none 0 0, .string ⟨#[]⟩, .bool false] 250) = W := ⟨_, rfl⟩
  have HB0 : Hid (Below w.heap.size w W) := Lib.hid (by rw [← hW]; exact below_allocs (Below.refl _ _) _)
  have HN0 : Hid (W.heap[w.heap.size]? = some (.cells #[.slice none 0 0, .string ⟨#[]⟩, .bool false] 250 (0, 0))) := Lib.hid (by rw [← hW]; exact hp_new rfl)
  go_enter Tryz.func227, Tryz.ntmps227
  go_upto_region 2 with (go_at_call 307; (with_reducible refine (HC.out _).mono ?_); rintro e w1 ⟨rfl, hb1⟩; have HB1 := Lib.hid (below_tail HB0.out hb1); have HN1 := Lib.hid ((hb1.block _ (lt_of_heap HN0.out)).trans HN0.out); clear hb1)
  clear hW
  refine wp_region_lit ?_
  refine wpList_valG (.string ⟨#[49, 51, 51, 59, 65]⟩) (by rfl) (by rfl) ?_
  simp only [Act.put, List.setIfInBounds_toArray, List.set_cons_zero, List.set_cons_succ]
  refine wpList_callZ rfl 308 #[.string ⟨#[49, 51, 51, 59, 65]⟩, .string ⟨#[59]⟩] (by go_simp) (R := fun u w2 => ∃ g, u = .slice (some ⟨g, 0, none⟩) 2 2 ∧ w2.cell? ⟨g, 0, none⟩ = some (.string ⟨#[49, 51, 51]⟩) ∧ w2.cell? ⟨g, 1, none⟩ = some (.string ⟨#[65]⟩) ∧ Below w1.heap.size w1 w2) ((HS.out w1).mono (fun e w2 ⟨g, he, h⟩ => ⟨_, he, g, rfl, h⟩)) ?_
  rintro u w2 ⟨g, rfl, h1, h2, hb2⟩
  have HB2 := Lib.hid (below_tail HB1.out hb2)
  have hn2 := (hb2.block _ (lt_of_heap HN1.out)).trans HN1.out
  simp only [Act.put]
  have HT := Lib.hid (there_new (cs := #[.slice none 0 0, .string ⟨#[]⟩, .bool false]) hn2)
  have HN2 := Lib.hid hn2
  have H1 := Lib.hid h1
  have H2 := Lib.hid h2
  have hgn : g ≠ w.heap.size := fun h => by
    subst h
    have hx := (at_ hn2 0 (.slice none 0 0) rfl).1
    rw [h1] at hx
    cases hx
  have HGN := Lib.hid hgn
  clear h1 h2 hb2 hn2 hgn
  refine wpList_valG (.string ⟨#[65]⟩) (by rfl) (by rfl) ?_
  simp only [Act.put, List.setIfInBounds_toArray, List.set_cons_zero, List.set_cons_succ]
  refine wpList_valG (.bool true) (by rfl) (by rfl) ?_
  simp only [Act.put, List.setIfInBounds_toArray, List.set_cons_zero, List.set_cons_succ]
  refine wpList_valG (.agg #[.slice (some ⟨g, 0, none⟩) 2 2, .string ⟨#[65]⟩, .bool true]) (by rfl) (by go_simp) ?_
  simp only [Act.put, List.setIfInBounds_toArray, List.set_cons_zero, List.set_cons_succ]
  refine wpList_store_mid rfl 250 (.tmp 2) (.tmp 16) rfl (w.heap.size) (0) (#[.slice (some ⟨g, 0, none⟩) 2 2, .string ⟨#[65]⟩, .bool true]) rfl rfl (HT.out) info_reader (all_oneCell_toArray (cs := [.slice (some ⟨g, 0, none⟩) 2 2, .string ⟨#[65]⟩, .bool true]) (by intro x hx; simp only [List.mem_cons, List.not_mem_nil, or_false] at hx; rcases hx with rfl | rfl | rfl <;> rfl)) ?_
  simp only [Act.put]
  have hfin := whole_setCells (b := w.heap.size) (t := 250) [.slice (some ⟨g, 0, none⟩) 2 2, .string ⟨#[65]⟩, .bool true] 0 [.slice none 0 0, .string ⟨#[]⟩, .bool false] w2 HN2.out (Nat.le_refl 3)
  have HF := Lib.hid hfin
  clear hfin
  go_wp2
  exact bodyPost_ret (ret_agg rfl _ _ w.heap.size [.slice (some ⟨g, 0, none⟩) 2 2, .string ⟨#[65]⟩, .bool true] rfl (range_new HF.out) Tryz.underlying250 rfl info_reader) rfl ⟨g, rfl, (World.cell?_setCells_out _ _ _ _ _ (fun h _ => absurd h HGN.out)).trans H1.out, (World.cell?_setCells_out _ _ _ _ _ (fun h _ => absurd h HGN.out)).trans H2.out, below_setN HB2.out (Nat.le_refl _) _ 0⟩
theorem field_at (g i : Nat) (hi : i < 2) (t : ByteArray) (w : World) (hc : w.cell? ⟨g, i, none⟩ = some (.string t)) : Calls Tryz.prog 228 #[.slice (some ⟨g, 0, none⟩) 2 2, .int .i64 i] w fun e w' => e = .returned (.tuple #[.string t, .bool true]) ∧ w = w' := by
  go_enter Tryz.func228, Tryz.ntmps228
  go_wp2
  go_ret2
  exact ⟨rfl, rfl⟩
theorem field_out (g : Nat) (w : World) : Calls Tryz.prog 228 #[.slice (some ⟨g, 0, none⟩) 2 2, .int .i64 2] w fun e w' => e = .returned (.tuple #[.string ⟨#[]⟩, .bool false]) ∧ w = w' := by
  go_enter Tryz.func228, Tryz.ntmps228
  go_wp2
  go_ret2
  exact ⟨rfl, rfl⟩
set_option maxRecDepth 100000 in
set_option maxHeartbeats 1600000 in
theorem shell133 (g : Nat) (w : World) (h1 : w.cell? ⟨g, 0, none⟩ = some (.string ⟨#[49, 51, 51]⟩)) (h2 : w.cell? ⟨g, 1, none⟩ = some (.string ⟨#[65]⟩)) : Calls Tryz.prog 229 #[.agg #[.slice (some ⟨g, 0, none⟩) 2 2, .string ⟨#[65]⟩, .bool true], .bool false] w fun e w' => e = .returned (.agg #[.int .i64 1, .int .i64 0, .bool false, .string ⟨#[]⟩]) ∧ Below w.heap.size w w' := by
  have HF1 : Hid (∀ (w' : World), Below w.heap.size w w' → Calls Tryz.prog 228 #[.slice (some ⟨g, 0, none⟩) 2 2, .int .i64 1] w' fun e w'' => e = .returned (.tuple #[.string ⟨#[65]⟩, .bool true]) ∧ w' = w'') := Lib.hid (fun (w' : World) hb => field_at g 1 (by omega) ⟨#[65]⟩ w' (holda hb h2))
  have HF2 := Lib.hid (fun w => field_out g w)
  go_enter Tryz.func229, Tryz.ntmps229
  go_wp2_with (first
    | (go_at_call 228; (with_reducible refine (HF1.out _ (below_allocs (below_allocs (Below.refl _ _) _) _)).mono ?_); rintro e w1 ⟨rfl, rfl⟩)
    | (go_at_call 228; (with_reducible refine (HF2.out _).mono ?_); rintro e w1 ⟨rfl, rfl⟩))
  exact bodyPost_ret (ret_agg rfl _ _ (w.heap.size + 1) [.int .i64 1, .int .i64 0, .bool false, .string ⟨#[]⟩] rfl (range_new (hp_new (by simp))) Tryz.underlying90 rfl info_sign) rfl ⟨rfl, below_allocs (below_allocs (Below.refl _ _) _) _⟩
set_option maxRecDepth 100000 in
set_option maxHeartbeats 1600000 in
theorem read133 (w : World) : Calls Tryz.prog 143 #[.string ⟨#[49, 51, 51, 59, 65]⟩] w fun e w' => e = .returned (.agg #[.int .i64 1, .int .i64 0, .bool false, .string ⟨#[]⟩]) ∧ Below w.heap.size w w' := by
  have HO := Lib.hid (fun w => open133 w)
  have HF : Hid (∀ (g : Nat) (w' : World), w'.cell? ⟨g, 0, none⟩ = some (.string ⟨#[49, 51, 51]⟩) → Calls Tryz.prog 228 #[.slice (some ⟨g, 0, none⟩) 2 2, .int .i64 0] w' fun e w'' => e = .returned (.tuple #[.string ⟨#[49, 51, 51]⟩, .bool true]) ∧ w' = w'') := Lib.hid (fun g (w' : World) h => field_at g 0 (by omega) ⟨#[49, 51, 51]⟩ w' h)
  have HS := Lib.hid (fun g (w' : World) h1 h2 => shell133 g w' h1 h2)
  obtain ⟨W, hW⟩ : ∃ W, w.alloc (.cells #[.int .i64 0, .int .i64 0, .bool false, .string ⟨#[]⟩] 90) = W := ⟨_, rfl⟩
  have HB0 : Hid (Below w.heap.size w W) := Lib.hid (by rw [← hW]; exact below_allocs (Below.refl _ _) _)
  have HN0 : Hid (W.heap[w.heap.size]? = some (.cells #[.int .i64 0, .int .i64 0, .bool false, .string ⟨#[]⟩] 90 (0, 0))) := Lib.hid (by rw [← hW]; exact hp_new rfl)
  go_enter Tryz.func143, Tryz.ntmps143
  go_wp2_with (first
    | (go_at_call 227; (with_reducible refine (HO.out _).mono ?_); rintro e w1 ⟨g, rfl, h1, h2, hb1⟩; have H1 := Lib.hid h1; have H2 := Lib.hid h2; have HB1 := Lib.hid (below_tail HB0.out hb1); have HN1 := Lib.hid ((hb1.block _ (lt_of_heap HN0.out)).trans HN0.out); clear h1 h2 hb1)
    | (go_at_call 228; (with_reducible refine (HF.out _ _ (holda (below_allocs (Below.refl _ _) _) H1.out)).mono ?_); rintro e w2 ⟨rfl, rfl⟩)
    | (go_at_call 229; (with_reducible refine (HS.out _ _ (holda (below_allocs (Below.refl _ _) _) H1.out) (holda (below_allocs (Below.refl _ _) _) H2.out)).mono ?_); rintro e w3 ⟨rfl, hb3⟩; have HB3 := Lib.hid (below_tail HB1.out (below_tail (below_allocs (Below.refl _ _) _) hb3)); have HN3 := Lib.hid ((((below_tail (below_allocs (Below.refl _ _) _) hb3)).block _ (lt_of_heap HN1.out)).trans HN1.out); clear hb3; obtain ⟨c0, f0⟩ := at_ HN3.out 0 _ rfl; obtain ⟨c1, f1⟩ := at_ HN3.out 1 _ rfl; obtain ⟨c2, f2⟩ := at_ HN3.out 2 _ rfl; obtain ⟨c3, f3⟩ := at_ HN3.out 3 _ rfl))
  have hz := whole_set (whole_set (whole_set (whole_set (cs := [.int .i64 0, .int .i64 0, .bool false, .string ⟨#[]⟩]) HN3.out 0 (.int .i64 1) rfl) 1 (.int .i64 0) rfl) 2 (.bool false) rfl) 3 (.string ⟨#[]⟩) rfl
  exact bodyPost_ret (ret_agg rfl _ _ w.heap.size [.int .i64 1, .int .i64 0, .bool false, .string ⟨#[]⟩] rfl (range_new hz) Tryz.underlying90 rfl info_sign) rfl ⟨rfl, below_set (below_set (below_set (below_set HB3.out (Nat.le_refl _) _) (Nat.le_refl _) _) (Nat.le_refl _) _) (Nat.le_refl _) _⟩
end Go.Proofs.YtaefcahblmopfaaGreatDoor
