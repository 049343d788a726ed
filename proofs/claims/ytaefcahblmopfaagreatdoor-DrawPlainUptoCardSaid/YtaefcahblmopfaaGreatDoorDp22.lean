/- Joined by a tool of this claim out of smaller texts. Conditions: as stated. -/
import Derived.Test.YtaefcahblmopfaaGreatDoorDp21
import Derived.Deep.OwnRows
import Derived.Lib.Builder
import Derived.Lib.AppendStr
import Derived.Lib.UnsafeStr
import Derived.Lib.FrozenHead
import Derived.Shelf.RegionOpenPlain
set_option linter.unusedVariables false
set_option linter.unusedSimpArgs false
set_option maxRecDepth 100000
open Go.Lib renaming hid → Hd
namespace Go.Proofs.YtaefcahblmopfaaGreatDoor
open Go.RowKit
def heldP (p:Pz):Int:=p.head.length + p.inter.length + p.text.length + p.dec.hv
def restB (t:Tm):Bool:=decide (t.pz.state = 0) && decide (heldP t.pz = 0)
section
variable {base:Nat} {w:World} {v:Tv} {t:Tm}
theorem tOther_any (h:TmO base w v t):Calls Tryz.prog 13 #[.pointer (some ⟨v.M,0,none⟩)] w fun e w' => e = .returned (.bool t.use)∧w = w':=by
 obtain ⟨-,-,-,⟨c3,-⟩,-⟩:=h.facts
 clear h
 cases hu:t.use with
 | true =>
   rw [hu] at c3
   go_enter Tryz.func13,Tryz.ntmps13
   go_wp2
   go_ret
   exact ⟨rfl,rfl⟩
 | false =>
   rw [hu] at c3
   go_enter Tryz.func13,Tryz.ntmps13
   go_wp2
   go_ret
   exact ⟨rfl,rfl⟩
theorem zState_any {v:Zv} {p:Pz} (h:PzO base w v p):Calls Tryz.prog 45 #[.pointer (some ⟨v.P,0,none⟩)] w fun e w' => e = .returned (.int .i64 p.state)∧w = w':=by
 obtain ⟨-,-,-,-,-,-,-,-,⟨c8,-⟩⟩:=h.blk.facts
 clear h
 go_enter Tryz.func45,Tryz.ntmps45
 go_wp2
 go_ret
 exact ⟨rfl,rfl⟩
set_option maxHeartbeats 1600000 in
theorem zHeld_any {v:Zv} {p:Pz} (h:PzO base w v p) (hok:PzOk p):Calls Tryz.prog 46 #[.pointer (some ⟨v.P,0,none⟩)] w fun e w' => e = .returned (.int .i64 (heldP p))∧Below w.heap.size w w':=by
 have HSz:Hid (∀ w',Below w.heap.size w w'→Calls Tryz.prog 85 #[.pointer (some ⟨v.P,0,none⟩)] w' fun e w2 => e = .returned (.int .i64 ((p.head.length:Int) + p.inter.length + p.text.length))∧Below w'.heap.size w' w2):=Hd (fun w' hb => by
  have h:=h.below hb
  obtain ⟨A0,k0,hv0⟩:=row_form (h.row 0 (by omega))
  obtain ⟨A1,k1,hv1⟩:=row_form (h.row 1 (by omega))
  obtain ⟨A2,k2,hv2⟩:=row_form (h.row 2 (by omega))
  obtain ⟨-,⟨c1,-⟩,⟨c2,-⟩,⟨c3,-⟩,-,-,-,-,-⟩:=h.blk.facts
  rw [hv0] at c1
  rw [hv1] at c2
  rw [hv2] at c3
  have z0:(p.r 0).length ≤ 256:=hok.head.1
  have z1:(p.r 1).length ≤ 2:=hok.inter.1
  have z2:(p.r 2).length ≤ 65536:=by have:=hok.text.1;have:=hok.most;show p.text.length ≤ _;omega
  show Calls _ _ _ w' fun e w2 => e = .returned (.int .i64 (((p.r 0).length:Int) + (p.r 1).length + (p.r 2).length))∧Below w'.heap.size w' w2
  generalize (p.r 0).length = n0 at c1 z0 ⊢
  generalize (p.r 1).length = n1 at c2 z1 ⊢
  generalize (p.r 2).length = n2 at c3 z2 ⊢
  have hw1:IntKind.i64.wrap ((n0:Int) + n1) = (n0:Int) + n1:=IntWalk.i64_in _ (by omega)
  have hw2:IntKind.i64.wrap ((n0:Int) + n1 + n2) = (n0:Int) + n1 + n2:=IntWalk.i64_in _ (by omega)
  clear h hok hb hv0 hv1 hv2
  go_enter Tryz.func85,Tryz.ntmps85
  go_upto_region 1 with fail
  refine wp_region_u 16 (fun w2 => Below w'.heap.size w' w2∧w2.cell? ⟨v.P,1,none⟩ = some (.slice A0 n0 k0)∧w2.cell? ⟨v.P,2,none⟩ = some (.slice A1 n1 k1)∧w2.cell? ⟨v.P,3,none⟩ = some (.slice A2 n2 k2)) (by kernel_rfl) (by kernel_rfl) ?_ ?_
  · exact ⟨(Below.refl _ _).drew,c1,c2,c3⟩
  simp only [List.take_succ_cons,List.take_zero,List.drop_succ_cons,List.drop_zero]
  repeat (
   (first
    | refine seqU_skip (by rfl) ?_
    | (refine seqU_val ?_ (by rfl) ?_ ?_;rotate_left;(focus (intro w' hS;obtain ⟨_,_,_,_⟩:=hS;go_simp;first | done | with_reducible rfl))))
   simp only [Act.put,List.setIfInBounds_toArray,List.set_cons_zero,List.set_cons_succ])
  refine seqU_nil (fun w' hS => ?_)
  obtain ⟨hb,-⟩:=hS
  go_wp2
  go_ret
  exact ⟨rfl,hb⟩)
 have HLf:Hid (∀ w',Below w.heap.size w w'→Calls Tryz.prog 86 #[.pointer (some ⟨v.P,9,none⟩)] w' fun e w2 => e = .returned (.int .i64 p.dec.hv)∧w' = w2):=Hd (fun w' hb => by
  obtain ⟨c,-⟩:=at_ (h.below hb).blk 11 (.int .i64 p.dec.hv) rfl
  clear h hok hb
  go_enter Tryz.func86,Tryz.ntmps86
  go_wp2
  go_ret
  exact ⟨rfl,rfl⟩)
 have hz:0 ≤ p.dec.hv∧p.dec.hv ≤ 4:=by have:=hok.dec.hv;have:=hok.dec.need;omega
 have hz2:(p.head.length:Int) + p.inter.length + p.text.length ≤ 100000:=by have:=hok.head.1;have:=hok.inter.1;have:=hok.text.1;have:=hok.most;omega
 have hz3:0 ≤ (p.head.length:Int) + p.inter.length + p.text.length:=by omega
 unfold heldP
 generalize (p.head.length:Int) + p.inter.length + p.text.length = n at HSz hz2 hz3 ⊢
 generalize p.dec.hv = q at HLf hz ⊢
 have hw1:IntKind.i64.wrap (n + q) = n + q:=IntWalk.i64_in _ (by omega)
 clear h hok
 go_enter Tryz.func46,Tryz.ntmps46
 go_upto_region 3 with fail
 refine wp_region_u 7 (fun w' => Below w.heap.size w w') (by kernel_rfl) (by kernel_rfl) ?_ ?_
 · exact (Below.refl _ _).drew
 simp only [List.take_succ_cons,List.take_zero,List.drop_succ_cons,List.drop_zero]
 repeat (
  (first
   | refine seqU_skip (by rfl) ?_
   | ((refine seqU_call 85 #[.pointer (some ⟨v.P,0,none⟩)] (.int .i64 n) (by rfl) ?_ (fun w' hS => (HSz.out w' hS).mono fun e w2 ⟨he,hb⟩ => ⟨he,below_tail hS hb⟩) ?_;(focus (intro w2;go_simp;done))))
   | (refine seqU_val ?_ (by rfl) ?_ ?_;rotate_left;(focus (intro w' hS;obtain hS0:=hS;go_simp;first | done | with_reducible rfl))))
  simp only [Act.put,List.setIfInBounds_toArray,List.set_cons_zero,List.set_cons_succ])
 refine seqU_nil (fun w' hS => ?_)
 have HB:=Hd hS
 clear hS
 go_wp2_with (go_at_call 86;(with_reducible refine (HLf.out _ HB.out).mono ?_);rintro e w2 ⟨rfl,rfl⟩)
 go_ret
 exact ⟨rfl,HB.out⟩
set_option maxHeartbeats 1600000 in
theorem tRest_any (h:TmO base w v t) (hok:PzOk t.pz):Calls Tryz.prog 19 #[.pointer (some ⟨v.M,0,none⟩)] w fun e w' => e = .returned (.bool (restB t))∧Below w.heap.size w w':=by
 have HS:=Hd (zState_any h.z)
 have HH:=Hd (zHeld_any h.z hok)
 obtain ⟨c0,-⟩:=h.facts
 clear h hok
 unfold restB
 generalize t.pz.state = q at HS ⊢
 generalize heldP t.pz = n at HH ⊢
 by_cases hq:q = 0
 · subst hq
   by_cases hn:n = 0
   · subst hn
     go_enter Tryz.func19,Tryz.ntmps19
     go_wp2_with (first
      | (go_at_call 45;(with_reducible refine HS.out.mono ?_);rintro e w1 ⟨rfl,rfl⟩)
      | (go_at_call 46;(with_reducible refine HH.out.mono ?_);rintro e w1 ⟨rfl,hb⟩))
     go_ret
     exact ⟨rfl,hb⟩
   · have hn2:(n == 0) = false:=by simpa using hn
     go_enter Tryz.func19,Tryz.ntmps19
     go_wp2_with (first
      | (go_at_call 45;(with_reducible refine HS.out.mono ?_);rintro e w1 ⟨rfl,rfl⟩)
      | (go_at_call 46;(with_reducible refine HH.out.mono ?_);rintro e w1 ⟨rfl,hb⟩))
     go_ret
     exact ⟨by simp [hn],hb⟩
 · have hq2:(q == 0) = false:=by simpa using hq
   clear HH
   go_enter Tryz.func19,Tryz.ntmps19
   go_wp2_with (go_at_call 45;(with_reducible refine HS.out.mono ?_);rintro e w1 ⟨rfl,rfl⟩)
   go_ret
   exact ⟨by simp [hq],Below.refl _ _⟩
end
def evsG (ev:Tm→Ev→Tm) (t:Tm) (es:List Ev):Tm:=es.foldl ev t
def byteG (ev:Tm→Ev→Tm) (t:Tm) (c:Int):Tm:=evsG ev { t with pz:=(stepPz t.pz c).1 } (stepPz t.pz c).2
def feedG (ev:Tm→Ev→Tm) (t:Tm) (bs:List Int):Tm:=bs.foldl (byteG ev) t
def EvsOk (ev:Tm→Ev→Tm) (Ok:Tm→Ev→Prop) (t:Tm) (es:List Ev):Prop:=∀ j e,es[j]? = some e→Ok (evsG ev t (es.take j)) e
def FeedOk (ev:Tm→Ev→Tm) (Ok:Tm→Ev→Prop) (t:Tm) (bs:List Int):Prop:=∀ k c,bs[k]? = some c→EvsOk ev Ok { feedG ev t (bs.take k) with pz:=(stepPz (feedG ev t (bs.take k)).pz c).1 } (stepPz (feedG ev t (bs.take k)).pz c).2
def kindF (k:Int):FuncId:=if k = 0 then 72 else if k = 1 then 73 else if k = 2 then 74 else if k = 3 then 75 else if k = 4 then 76 else 77
theorem kindF_enters (k:Int) (args:Array Value) (w:World):(callFunc (kindF k) args).run Tryz.prog w = .ok (.enter (kindF k) args) w:=by
 unfold kindF
 split
 · kernel_rfl
 split
 · kernel_rfl
 split
 · kernel_rfl
 split
 · kernel_rfl
 split
 · kernel_rfl
 · kernel_rfl
theorem neq_nilF (f:FuncId) (b:Array Value) (w:World):(binOp .neq 84 (.func (.func f) b #[]) .nilFunc).run Tryz.prog w = .ok (.bool true) w:=by
 have h:∀ d:Nat,(Op.equalIn (d + 1) 84 (.func (.func f) b #[]) .nilFunc).run Tryz.prog w = .ok false w:=fun d => by
  simp [Op.equalIn,run_underlying Tryz.underlying84]
 simp only [binOp]
 simp [Op.equal,Op.maxDepth,h 9999]
theorem tdoer_any (M:Nat) (k:Int) (hk:0 ≤ k∧k ≤ 5) (w:World):Calls Tryz.prog 38 #[.pointer (some ⟨M,0,none⟩),.int .i64 k] w fun e w' => e = .returned (.func (.func (kindF k)) #[.pointer (some ⟨M,0,none⟩)] #[])∧w = w':=by
 have hkI:k = 0 ∨ k = 1 ∨ k = 2 ∨ k = 3 ∨ k = 4 ∨ k = 5:=by omega
 rcases hkI with rfl | rfl | rfl | rfl | rfl | rfl
 all_goals
  go_enter Tryz.func38,Tryz.ntmps38
  go_wp2
  go_ret
  exact ⟨rfl,rfl⟩
theorem evs_kinds (p:Pz) (c:Int):∀ e ∈ (stepPz p c).2,0 ≤ e.kind∧e.kind ≤ 5:=by
 have fin:∀ (p:Pz) (c:Int),∀ e ∈ (finalP p c).2,0 ≤ e.kind∧e.kind ≤ 5:=fun p c => by
  unfold finalP
  repeat' split
  all_goals first
   | (intro e h;simp at h;done)
   | (unfold escE;split <;> intro e h <;> simp at h;subst h;exact (by decide:(0:Int) ≤ 2∧(2:Int) ≤ 5))
 have pr1:∀ (p:Pz) (r:Int),∀ e ∈ (print1 p r).2,0 ≤ e.kind∧e.kind ≤ 5:=fun p r => by
  unfold print1
  split
  · intro e h;rw [List.mem_singleton.1 h];exact (by decide:(0:Int) ≤ 1∧(1:Int) ≤ 5)
  split
  · intro e h;simp at h
  split
  · exact fin _ _
  · intro e h;rw [List.mem_singleton.1 h];exact (by decide:(0:Int) ≤ 0∧(0:Int) ≤ 5)
 have prs:∀ (l:List Int) (p:Pz),∀ e ∈ (printsP p l).2,0 ≤ e.kind∧e.kind ≤ 5:=fun l => by
  induction l with
  | nil => intro p e h;simp [printsP] at h
  | cons r l ih => intro p e h;exact (List.mem_append.1 h).elim (pr1 _ _ e) (ih _ e)
 have ens:∀ (p:Pz),∀ e ∈ endsP p,0 ≤ e.kind∧e.kind ≤ 5:=fun p => by
  unfold endsP
  split
  · intro e h;rw [List.mem_singleton.1 h];exact ⟨by show (0:Int) ≤ 4;decide,by show (4:Int) ≤ 5;decide⟩
  split
  · intro e h;rw [List.mem_singleton.1 h];exact ⟨by show (0:Int) ≤ 5;decide,by show (5:Int) ≤ 5;decide⟩
  · intro e h;cases h
 have one:∀ c:Int,∀ e ∈ [execE c],0 ≤ e.kind∧e.kind ≤ 5:=fun c e h => by rw [List.mem_singleton.1 h];exact ⟨by show (0:Int) ≤ 1;decide,by show (1:Int) ≤ 5;decide⟩
 unfold stepPz
 split
 · intro e h;exact (List.mem_append.1 h).elim (prs _ _ e) (one c e)
 split
 · intro e h;exact (List.mem_append.1 h).elim (prs _ _ e) (ens _ e)
 split
 · exact prs _ _
 split
 · unfold inStringP
   split
   · intro e h;cases h
   split
   · intro e h;cases h
   split
   · exact ens _
   split
   · intro e h;cases h
   · intro e h;cases h
 · unfold inHeadP
   split
   · exact prs _ _
   split
   · intro e h;cases h
   split
   · exact one c
   split
   · unfold inEscapeP
     split
     · intro e h;cases h
     · exact fin _ _
   · unfold inSeqP
     split
     · intro e h;cases h
     split
     · intro e h;cases h
     split
     · intro e h;cases h
     · show ∀ e ∈ csiE p c,_
       unfold csiE
       split
       · intro e h;cases h
       · intro e h;rw [List.mem_singleton.1 h];exact ⟨by show (0:Int) ≤ 3;decide,by show (3:Int) ≤ 5;decide⟩
section
variable {base:Nat} {w:World} {v:Tv} {t:Tm}
theorem ExsO.keepT {w':World} {lo:Nat} {u:Value} {L:List Ex} {evs:List Ev} (h:ExsO w lo u L evs) (hO:TmO base w v t) (hm:Mod (tmX v) w w'):ExsO w' lo u L evs:=by
 have hno:∀ (b:Nat) (ty:TypeId),TyB w b ty→(ty = 241 ∨ ty = 3 ∨ ty = 83)→b ∉ tmX v:=fun b ty hb ht hx => by
  obtain ⟨cur,hc⟩:=hb
  exact TyAt.apart (l1:=[ty]) ⟨cur,ty,hc,by simp⟩ (hO.tyX b hx) (fun t2 h2 => by rw [List.mem_singleton.1 h2];rcases ht with rfl | rfl | rfl <;> decide)
 exact ⟨owns_mod h.own hm (fun g hg => hno g _ (own_block h.own hg) (.inr (.inr rfl))),h.es,fun x hx => (h.ok x hx).modT hm (fun b hb => .inr (.inr ⟨fun ht => hno b _ ht (.inl rfl) hb,fun ht => hno b _ ht (.inr (.inl rfl)) hb⟩))⟩
def DoSays (base:Nat) (ev:Tm→Ev→Tm) (Ok:Tm→Ev→Prop):Prop:=∀ (W:World) (lo:Nat) (v:Tv) (t:Tm) (x:Ex),TmO base W v t→ExOk W lo x→Ok t x.e→Calls Tryz.prog (kindF x.e.kind) #[.pointer (some ⟨v.M,0,none⟩),.agg #[.int .i64 x.e.kind,.int .i32 x.e.r,.int .u8 x.e.byte,.int .u8 x.e.pre,.slice x.A x.H.length x.ca,.string (strOfNums x.e.inter),.string (strOfNums x.e.text),.bool x.e.cut]] W (TmPost base W v (ev t x.e))
def BytesIn (w:World) (A:Option Addr) (bs:List Int) (X:List Nat):Prop:=0 < bs.length→∃ g off,A = some ⟨g,off,none⟩∧g ∉ X∧∀ i x,bs[i]? = some x→w.cell? ⟨g,off + i,none⟩ = some (.int .u8 x)
structure FdI (base:Nat) (w:World) (v:Tv) (ev:Tm→Ev→Tm) (t1:Tm) (lo:Nat) (u:Value) (L:List Ex) (evs:List Ev) (wr:World) (j:Nat):Prop where
 r:TmRes base w v (evsG ev t1 (evs.take j)) wr
 x:ExsO wr lo u L evs
theorem evsG_snoc (ev:Tm→Ev→Tm) (t:Tm) (l:List Ev) (e:Ev):evsG ev t (l ++ [e]) = ev (evsG ev t l) e:=by simp [evsG]
theorem feedG_snoc (ev:Tm→Ev→Tm) (t:Tm) (l:List Int) (c:Int):feedG ev t (l ++ [c]) = byteG ev (feedG ev t l) c:=by simp [feedG]
set_option maxHeartbeats 3200000 in
theorem tfeed_any (ev:Tm→Ev→Tm) (Ok:Tm→Ev→Prop) (HD:DoSays base ev Ok) (hev:∀ t e,(ev t e).pz = t.pz) (h:TmO base w v t) (hok:PzOk t.pz) {A:Option Addr} {bs:List Int} {ca:Nat} (hb:BytesIn w A bs (tmX v)) (hbs:BysI bs) (hz:bs.length ≤ 100000000) (hF:FeedOk ev Ok t bs) :
 Calls Tryz.prog 9 #[.pointer (some ⟨v.M,0,none⟩),.slice A bs.length ca] w (TmPost base w v (feedG ev t bs)):=by
 have HDo:=Hd HD
 have HFd:=Hd hF
 have HO:=Hd h
 have hpz:∀ k,PzOk (feedG ev t (bs.take k)).pz:=fun k => by
  have h1:∀ (es:List Ev) (t:Tm),(evsG ev t es).pz = t.pz:=fun es => by
   induction es with
   | nil => intro t;rfl
   | cons e es ih => intro t;show (evsG ev (ev t e) es).pz = _;rw [ih,hev]
  have h2:∀ (l:List Int) (t:Tm),BysI l→PzOk t.pz→PzOk (feedG ev t l).pz:=fun l => by
   induction l with
   | nil => intro t _ h;exact h
   | cons c l ih => intro t hl h;exact ih _ (fun x hx => hl x (List.mem_cons_of_mem _ hx)) (by show PzOk (evsG ev _ _).pz;rw [h1];exact h.step (by have:=hl c (List.mem_cons_self ..);omega))
  exact h2 _ _ (fun x hx => hbs x (List.mem_of_mem_take hx)) hok
 have HPz:=Hd hpz
 have HBy:Hid (∀ wr,Mod (tmX v) w wr→∀ k,k < bs.length→∃ g off c,A = some ⟨g,off,none⟩∧bs[k]? = some c∧wr.cell? ⟨g,off + k,none⟩ = some (.int .u8 c)∧0 ≤ c∧c ≤ 255):=Hd (fun wr hm k hk => by
  obtain ⟨g,off,e,h1,h2⟩:=hb (by omega)
  have hc:=List.getElem?_eq_getElem hk
  have:=hbs _ (List.getElem_mem hk)
  exact ⟨g,off,bs[k],e,hc,hm.cell h1 (h2 k _ hc),by omega,by omega⟩)
 generalize hN:bs.length = n at hz HBy ⊢
 have HN:=Hd hN
 clear HD hF h hok hb hbs hpz hN
 go_enter Tryz.func9,Tryz.ntmps9
 go_wp2_with fail
 go_loopw [13] (fun s13 wr => ∃ k:Nat,s13 = .int .i64 k∧k ≤ n∧TmRes base w v (feedG ev t (bs.take k)) wr) (fun s13 _ => n - (intOf s13).toNat)
 case atStart => exact ⟨0,rfl,Nat.zero_le _,HO.out.res⟩
 case round =>
  obtain ⟨k,rfl,hk,hR⟩:=hrel
  obtain ⟨W1,rfl⟩:∃ W1,W1 = wr:=⟨_,rfl⟩
  have HR:=Hd hR
  clear hR
  by_cases hlt:k < n
  · have hltI:(k:Int) < (n:Int):=by omega
    have hwk:IntKind.i64.wrap ((k:Int) + 1) = (k:Int) + 1:=IntWalk.i64_in _ (by omega)
    obtain ⟨v1,hV1,hO1,hm1⟩:=HR.out
    obtain ⟨g,off,c,rfl,hck,hcell,hc0,hc1⟩:=HBy.out W1 hm1 k hlt
    have HSt:=Hd (zstep_any whole_says hO1.z (HPz.out k) c ⟨hc0,hc1⟩)
    have HEo:=Hd (HFd.out k c hck)
    have htk:feedG ev t (bs.take (k + 1)) = byteG ev (feedG ev t (bs.take k)) c:=by
     obtain ⟨h1,h2⟩:=List.getElem?_eq_some_iff.1 hck
     rw [List.take_succ_eq_append_getElem h1,h2,feedG_snoc]
    unfold byteG at htk
    have HTk:=Hd htk
    have hkd:=evs_kinds (feedG ev t (bs.take k)).pz c
    have p0:=hO1.facts.1
    rw [hV1.M] at p0
    have HO1:=Hd hO1
    have HV1:=Hd hV1
    have HM1:=Hd hm1
    have HKd:=Hd hkd
    clear hO1 hV1 hm1 htk hkd hck
    generalize feedG ev t (bs.take k) = tk at HSt HEo HTk HO1 HKd
    go_wp2_with (go_at_call 37;(with_reducible refine HSt.out.mono ?_);rintro e w2 ⟨u,L,rfl,hx,hr⟩;obtain ⟨Ae,ce,rfl⟩:=row_form hx.own;have HX:=Hd hx;have HZ:=Hd hr;clear hx hr)
    generalize (stepPz tk.pz c).1 = p1 at HEo HTk HZ
    generalize (stepPz tk.pz c).2 = evs at HEo HTk HX HKd
    have HR1:=Hd (TmRes.trans HV1.out HM1.out (HO1.out.withZ HZ.out))
    have HLn:=Hd HX.out.len
    have HX0:Hid (ExsO w2 W1.heap.size (.slice Ae L.length ce) L evs):=HX
    generalize hm:L.length = m at HX0
    have HM:=Hd hm
    have hmx:m ≤ maxLen:=by
     rcases HX0.out.own.2 with ⟨e1,-⟩ | ⟨g,c,cur,e1,-,-,e4,e5,-⟩
     · injection e1 with e1 e2 e3;omega
     · rw [← hm];omega
    have hmx2:m ≤ 9223372036854775807:=by unfold maxLen at hmx;exact hmx
    clear hm HX hcell p0 hmx
    go_loopw [24] (fun s24 wr2 => ∃ j:Nat,s24 = .int .i64 j∧j ≤ m∧FdI base w v ev { tk with pz:=p1 } W1.heap.size (.slice Ae m ce) L evs wr2 j) (fun s24 _ => m - (intOf s24).toNat)
    case atStart => exact ⟨0,rfl,Nat.zero_le _,⟨HR1.out,HX0.out⟩⟩
    case round =>
     obtain ⟨j,rfl,hj,hI⟩:=hrel
     have HI:=Hd hI
     clear hI
     by_cases hlj:j < m
     · have hljI:(j:Int) < (m:Int):=by omega
       have hwj:IntKind.i64.wrap ((j:Int) + 1) = (j:Int) + 1:=IntWalk.i64_in _ (by omega)
       obtain ⟨W2,rfl⟩:∃ W2,W2 = wr:=⟨_,rfl⟩
       have hjL:j < L.length:=by have:=HM.out;omega
       obtain ⟨x,hx⟩:∃ x,L[j]? = some x:=⟨_,List.getElem?_eq_getElem hjL⟩
       obtain ⟨eb,ce',he⟩:=own_form HI.out.x.own (by omega)
       obtain rfl:Ae = some ⟨eb,0,none⟩:=by injection he
       have hrg:W2.rangeAt eb (j * 8) (encEx x):=fun i u hi => by
        have:=World.ownsRow.cells HI.out.x.own (g:=eb) rfl (j * 8 + i) u (by rw [flat_at2 encEx_len L j x i hx (by have:=(List.getElem?_eq_some_iff.1 hi).1;rw [encEx_len] at this;exact this)];exact hi)
        rw [add_lit',Nat.zero_add] at this
        exact this
       have HRg:=Hd hrg
       have hxe:evs[j]? = some x.e:=by rw [← HI.out.x.es,List.getElem?_map,hx];rfl
       have HXe:=Hd hxe
       have HXo:=Hd (HI.out.x.ok x (List.mem_of_getElem? hx))
       have HKx:=Hd (HKd.out x.e (List.mem_of_getElem? hxe))
       obtain ⟨v2,hV2,hO2,hm2⟩:=HI.out.r
       have HV2:=Hd hV2
       have HO2:=Hd hO2
       have HM2:=Hd hm2
       obtain ⟨N,hNN⟩:∃ N,W2.heap.size = N:=⟨_,rfl⟩
       have HNN:=Hd hNN
       clear hV2 hO2 hm2 hx hjL he hrg hxe
       go_upto_region 6 with fail
       refine wp_region_lit ?_
       refine wpList_valG (.pointer (some ⟨eb,j * 8,none⟩)) (by rfl) (by go_simp) ?_
       simp only [Act.put,List.setIfInBounds_toArray,List.set_cons_zero,List.set_cons_succ]
       refine load_mid_g (by rfl) 83 (.tmp 26) rfl (eb) (j * 8) rfl (encEx x) _ (HRg.out) Tryz.underlying83 rfl info_event8 ?_
       simp only [Act.put,List.setIfInBounds_toArray,List.set_cons_zero,List.set_cons_succ]
       refine wpList_actG (.pointer (some ⟨N,0,none⟩)) (W2.alloc (.cells #[.int .i64 0,.int .i32 0,.int .u8 0,.int .u8 0,.slice none 0 0,.string ⟨#[]⟩,.string ⟨#[]⟩,.bool false] 83)) (by rfl) (by rw [← hNN];go_simp) ?_
       simp only [Act.put,List.setIfInBounds_toArray,List.set_cons_zero,List.set_cons_succ]
       refine wpList_store_mid rfl 83 (.tmp 7) (.tmp 27) rfl (N) (0) ((encEx x).toArray) rfl rfl (evB_at (cs:=[.int .i64 0,.int .i32 0,.int .u8 0,.int .u8 0,.slice none 0 0,.string ⟨#[]⟩,.string ⟨#[]⟩,.bool false]) (hp_new hNN) rfl) info_event8 (all_oneCell_toArray (encEx_one x)) ?_
       simp only [Act.put]
       have hn5:=whole_setCells (b:=N) (t:=83) (encEx x) 0 [.int .i64 0,.int .i32 0,.int .u8 0,.int .u8 0,.slice none 0 0,.string ⟨#[]⟩,.string ⟨#[]⟩,.bool false] (W2.alloc (.cells #[.int .i64 0,.int .i32 0,.int .u8 0,.int .u8 0,.slice none 0 0,.string ⟨#[]⟩,.string ⟨#[]⟩,.bool false] 83)) (hp_new hNN) (Nat.le_refl 8)
       have hb5:Below W2.heap.size W2 ((W2.alloc (.cells #[.int .i64 0,.int .i32 0,.int .u8 0,.int .u8 0,.slice none 0 0,.string ⟨#[]⟩,.string ⟨#[]⟩,.bool false] 83)).setCells N 0 (encEx x)):=below_setN (below_allocs (Below.refl _ _) _) (Nat.le_of_eq hNN) (encEx x) 0
       generalize (W2.alloc (.cells #[.int .i64 0,.int .i32 0,.int .u8 0,.int .u8 0,.slice none 0 0,.string ⟨#[]⟩,.string ⟨#[]⟩,.bool false] 83)).setCells N 0 (encEx x) = W5 at hn5 hb5 ⊢
       have hn6:W5.heap[N]? = some (.cells #[.int .i64 x.e.kind,.int .i32 x.e.r,.int .u8 x.e.byte,.int .u8 x.e.pre,.slice x.A x.H.length x.ca,.string (strOfNums x.e.inter),.string (strOfNums x.e.text),.bool x.e.cut] 83 (0,0)):=hn5
       have d0:=(at_ hn6 0 _ rfl).1
       have HRg5:=Hd (range_new (cs:=encEx x) hn5)
       have HB5:=Hd hb5
       have HDr:=Hd (fun W => tdoer_any v.M x.e.kind HKx.out W)
       have hfc:=kindF_enters x.e.kind #[.pointer (some ⟨v.M,0,none⟩),.agg (encEx x).toArray]
       have HDx:Hid (Calls Tryz.prog (kindF x.e.kind) #[.pointer (some ⟨v.M,0,none⟩),.agg #[.int .i64 x.e.kind,.int .i32 x.e.r,.int .u8 x.e.byte,.int .u8 x.e.pre,.slice x.A x.H.length x.ca,.string (strOfNums x.e.inter),.string (strOfNums x.e.text),.bool x.e.cut]] W5 (TmPost base W5 v2 (ev (evsG ev { tk with pz:=p1 } (evs.take j)) x.e))):=Hd (by
        have:=HDo.out W5 W1.heap.size v2 _ x (HO2.out.below hb5) (HXo.out.below hb5) (HEo.out j x.e HXe.out)
        rw [HV2.out.M] at this
        exact this)
       clear hn5 hn6 hb5 hNN
       have hnq:=fun W => neq_nilF (kindF x.e.kind) #[.pointer (some ⟨v.M,0,none⟩)] W
       go_upto_region 9 with (go_at_call 38;(with_reducible refine (HDr.out _).mono ?_);rintro e w6 ⟨rfl,rfl⟩)
       refine wp_region_lit ?_
       refine wpList_valG (.func (.func (kindF x.e.kind)) #[.pointer (some ⟨v.M,0,none⟩)] #[]) (by rfl) (by rfl) ?_
       simp only [Act.put,List.setIfInBounds_toArray,List.set_cons_zero,List.set_cons_succ]
       refine load_mid_g (by rfl) 83 (.tmp 7) rfl (N) (0) rfl (encEx x) _ (HRg5.out) Tryz.underlying83 rfl info_event8 ?_
       simp only [Act.put,List.setIfInBounds_toArray,List.set_cons_zero,List.set_cons_succ]
       refine wpList_callZ rfl (kindF x.e.kind) #[.pointer (some ⟨v.M,0,none⟩),.agg (encEx x).toArray] (by go_simp) (R:=fun u w' => u = .tuple #[]∧TmRes base W5 v2 (ev (evsG ev { tk with pz:=p1 } (evs.take j)) x.e) w') (HDx.out.mono (fun e w' ⟨he,hr⟩ => ⟨_,he,rfl,hr⟩)) ?_
       rintro u7 w7 ⟨rfl,hr⟩
       simp only [Act.put,List.setIfInBounds_toArray,List.set_cons_zero,List.set_cons_succ]
       have HI2:Hid (FdI base w v ev { tk with pz:=p1 } W1.heap.size (.slice (some ⟨eb,0,none⟩) m ce) L evs w7 (j + 1)):=Hd (by
        refine ⟨?_,?_⟩
        · have ht:evs.take (j + 1) = evs.take j ++ [x.e]:=by
           obtain ⟨h1,h2⟩:=List.getElem?_eq_some_iff.1 HXe.out
           rw [List.take_succ_eq_append_getElem h1,h2]
          rw [ht,evsG_snoc]
          exact TmRes.trans HV2.out HM2.out (TmRes.pre HB5.out hr)
        · obtain ⟨v3,-,-,hm3⟩:=hr
          exact (HI.out.x.below HB5.out).keepT (HO2.out.below HB5.out) hm3)
       clear hr
       go_wp2
       go_roundw
       case rel => exact ⟨j + 1,by go_num,by omega,HI2.out⟩
       case measure => simp [intOf];omega
     · have hljI:¬ (j:Int) < (m:Int):=by omega
       obtain rfl:j = m:=by omega
       have hR:TmRes base w v (feedG ev t (bs.take (k + 1))) wr:=by
        have:=HI.out.r
        rw [List.take_of_length_le (by rw [← HLn.out,HM.out];exact Nat.le_refl _)] at this
        rw [HTk.out]
        exact this
       have HR2:=Hd hR
       clear hR
       go_wp2
       go_roundw
       case rel => exact ⟨k + 1,by go_num,by omega,HR2.out⟩
       case measure => simp [intOf];omega
  · have hltI:¬ (k:Int) < (n:Int):=by omega
    obtain rfl:k = n:=by omega
    have hR:TmRes base w v (feedG ev t bs) W1:=by have:=HR.out;rw [← HN.out,List.take_length] at this;exact this
    have HR2:=Hd hR
    clear hR
    go_wp2
    go_end0
    exact ⟨rfl,HR2.out⟩
end
def placeI (priv:Bool) (n:Int):Int:=if knownM priv n then placeM priv n else -1
theorem placeI_at:∀ i,i < 18→placeI (decide (2 ≤ i)) (modesT.getD i 0) = i:=by decide
theorem placeI_none (priv:Bool) (n:Int) (h:∀ j,j < 18→¬ (modesT.getD j 0 = n∧priv = decide (2 ≤ j))):placeI priv n = -1:=by
 unfold placeI knownM placeM
 cases priv with
 | true =>
   have e:(modesT.drop 2).findIdx (· == n) = 16:=List.findIdx_eq_length_of_false (xs:=modesT.drop 2) (fun x hx => by
    obtain ⟨i,hi,he⟩:=List.getElem_of_mem hx
    have hi2:i < 16:=hi
    have:=h (i + 2) (by omega)
    rw [List.getElem_drop] at he
    have e2:modesT.getD (i + 2) 0 = x:=by
     rw [List.getD_eq_getElem?_getD,List.getElem?_eq_getElem (by show i + 2 < 18;omega),Option.getD_some,← he]
     congr 1
     omega
    rw [e2] at this
    simp only [decide_eq_true (show 2 ≤ i + 2 by omega),and_true] at this
    simpa using this)
   simp [e]
 | false =>
   have e:(modesT.take 2).findIdx (· == n) = 2:=List.findIdx_eq_length_of_false (xs:=modesT.take 2) (fun x hx => by
    have h0:=h 0 (by omega)
    have h1:=h 1 (by omega)
    simp [modesT] at h0 h1 hx
    rcases hx with rfl | rfl
    · simpa using h0
    · simpa using h1)
   simp [e]
theorem info_nums:(Tryz.prog.info? 207).map (·.size) = some 18:=by kernel_rfl
def numsV:Value:=.agg #[.int .i64 4,.int .i64 20,.int .i64 1,.int .i64 5,.int .i64 6,.int .i64 7,.int .i64 25,.int .i64 47,.int .i64 66,.int .i64 1000,.int .i64 1002,.int .i64 1003,.int .i64 1004,.int .i64 1006,.int .i64 1047,.int .i64 1048,.int .i64 1049,.int .i64 2004]
set_option maxHeartbeats 1600000 in
theorem numbers_any (w:World):Calls Tryz.prog 154 #[] w fun e w' => e = .returned numsV∧Below w.heap.size w w':=by
 go_enter Tryz.func154,Tryz.ntmps154
 go_wp2
 exact bodyPost_ret (ret_agg rfl _ _ w.heap.size [.int .i64 4,.int .i64 20,.int .i64 1,.int .i64 5,.int .i64 6,.int .i64 7,.int .i64 25,.int .i64 47,.int .i64 66,.int .i64 1000,.int .i64 1002,.int .i64 1003,.int .i64 1004,.int .i64 1006,.int .i64 1047,.int .i64 1048,.int .i64 1049,.int .i64 2004] rfl (range_new (hp_new rfl)) Tryz.underlying207 rfl info_nums) rfl ⟨rfl,below_allocs (Below.refl _ _) _⟩
def numsL:List Value:=[.int .i64 4,.int .i64 20,.int .i64 1,.int .i64 5,.int .i64 6,.int .i64 7,.int .i64 25,.int .i64 47,.int .i64 66,.int .i64 1000,.int .i64 1002,.int .i64 1003,.int .i64 1004,.int .i64 1006,.int .i64 1047,.int .i64 1048,.int .i64 1049,.int .i64 2004]
theorem numsL_at:∀ i,i < 18→numsL[i]? = some (.int .i64 (modesT.getD i 0)):=fun i hi => by
 have:numsL = modesT.map (Value.int .i64):=rfl
 rw [this,List.getElem?_map,List.getElem?_eq_getElem (by show i < 18;exact hi),Option.map_some,List.getD_eq_getElem?_getD,List.getElem?_eq_getElem (by show i < 18;exact hi),Option.getD_some]
set_option maxHeartbeats 1600000 in
theorem place_any (priv:Bool) (n:Int) (w:World):Calls Tryz.prog 83 #[.bool priv,.int .i64 n] w fun e w' => e = .returned (.int .i64 (placeI priv n))∧Below w.heap.size w w':=by
 obtain ⟨NA,hNA⟩:∃ NA,NA = numsL.toArray:=⟨_,rfl⟩
 have HN:Hid (Calls Tryz.prog 154 #[] w fun e w' => e = .returned (.agg NA)∧Below w.heap.size w w'):=Hd (by rw [hNA];exact numbers_any w)
 have HIX:Hid (∀ (i:Nat),i < 18→∀ w',(Instr.index 207 (.agg NA) (.int .i64 i)).run Tryz.prog w' = .ok (.int .i64 (modesT.getD i 0)) w'):=Hd (fun i hi w' => run_index_cell w' _ _ 18 NA _ _ _ Tryz.underlying207 (by omega) (by omega) (Tryz.sizeOf3 _) (Tryz.isAgg3 _) (by rw [hNA];exact numsL_at i hi))
 clear hNA
 go_enter Tryz.func83,Tryz.ntmps83
 go_wp2_with (go_at_call 154;(with_reducible refine HN.out.mono ?_);rintro e w1 ⟨rfl,hb⟩;have HB:=Hd hb;clear hb)
 go_loopw [8] (fun s8 wr => ∃ i:Nat,s8 = .int .i64 i∧i ≤ 18∧(∀ j,j < i→¬ (modesT.getD j 0 = n∧priv = decide (2 ≤ j)))∧wr = w1) (fun s8 _ => 18 - (intOf s8).toNat)
 case atStart => exact ⟨0,rfl,by omega,fun j hj => absurd hj (by omega),rfl⟩
 case round =>
  obtain ⟨i,rfl,hi,hno,rfl⟩:=hrel
  have HNO:=Hd hno
  clear hno
  by_cases hlt:i < 18
  · have hltI:(i:Int) < 18:=by omega
    have hix:=HIX.out i hlt
    have HAT:=Hd (placeI_at i hlt)
    have HNX:Hid (¬ (modesT.getD i 0 = n∧priv = decide (2 ≤ i))→∀ j,j < i + 1→¬ (modesT.getD j 0 = n∧priv = decide (2 ≤ j))):=Hd (fun h j hj => by
     rcases Nat.lt_or_ge j i with h1 | h1
     · exact HNO.out j h1
     · obtain rfl:j = i:=by omega
       exact h)
    have hd:decide ((2:Int) ≤ i) = decide (2 ≤ i):=decide_eq_decide.2 (by omega)
    generalize modesT.getD i 0 = x at hix HAT HNX
    have hw:IntKind.i64.wrap ((i:Int) + 1) = (i:Int) + 1:=IntWalk.i64_in _ (by omega)
    by_cases hx:x = n
    · have hxb:(x == n) = true:=by simpa using hx
      by_cases hp:priv = decide (2 ≤ i)
      · have hpb:(priv == decide ((2:Int) ≤ i)) = true:=by rw [hd];simpa using hp
        have HHX:=Hd hx
        have HHP:=Hd hp
        clear hx hp hd
        go_wp2
        go_ret
        exact ⟨(congrArg (fun k:Int => Ending.returned (Value.int .i64 k)) (show placeI priv n = i from by rw [HHP.out,← HHX.out,HAT.out])).symm,HB.out⟩
      · have hpb:(priv == decide ((2:Int) ≤ i)) = false:=by rw [hd];simpa using hp
        have HHP:=Hd hp
        clear hp hx hd
        go_wp2
        exact ⟨⟨i + 1,by go_num,by omega,HNX.out (fun h => HHP.out h.2),trivial⟩,by simp [intOf];omega⟩
    · have hxb:(x == n) = false:=by simpa using hx
      have HHX:=Hd hx
      clear hx hd
      go_wp2
      exact ⟨⟨i + 1,by go_num,by omega,HNX.out (fun h => HHX.out h.1),trivial⟩,by simp [intOf];omega⟩
  · have hltI:¬ (i:Int) < 18:=by omega
    obtain rfl:i = 18:=by omega
    go_wp2
    go_ret
    exact ⟨congrArg (fun k:Int => Ending.returned (Value.int .i64 k)) (placeI_none priv n HNO.out).symm,HB.out⟩
theorem info_set:(Tryz.prog.info? 40).map (·.size) = some 1:=by kernel_rfl
theorem or_bit {b:Int} {k:Nat} (hb:0 ≤ b∧b < 4294967296) (hk:k < 18):bits .or .u32 b (2 ^ k) = ((b.toNat ||| 2 ^ k:Nat):Int):=by
 obtain ⟨a,rfl⟩:=Int.eq_ofNat_of_zero_le hb.1
 have h1:2 ^ k < 4294967296:=Nat.lt_of_lt_of_le (Nat.pow_lt_pow_right (by omega) hk) (by decide)
 have ha:a < 4294967296:=by omega
 have hlt:a ||| 2 ^ k < 4294967296:=Nat.or_lt_two_pow (n:=32) ha h1
 have key:(BitVec.ofInt 32 (a:Int) ||| BitVec.ofInt 32 (2 ^ k:Int)).toNat = a ||| 2 ^ k:=by
  rw [show ((2:Int) ^ k) = ((2 ^ k:Nat):Int) by simp,BitVec.ofInt_natCast,BitVec.ofInt_natCast,BitVec.toNat_or,BitVec.toNat_ofNat,BitVec.toNat_ofNat,Nat.mod_eq_of_lt (by omega),Nat.mod_eq_of_lt (by omega)]
 have e2:bits .or .u32 (a:Int) (2 ^ k) = IntKind.u32.wrap (((BitVec.ofInt 32 (a:Int) ||| BitVec.ofInt 32 (2 ^ k:Int)).toNat:Nat):Int):=rfl
 rw [e2,key]
 have:IntKind.u32.wrap ((a ||| 2 ^ k:Nat):Int) = ((a ||| 2 ^ k:Nat):Int):=by
  show ((a ||| 2 ^ k:Nat):Int) % 4294967296 = _
  omega
 rw [this]
 simp
theorem withM_on {b:Int} {priv:Bool} {n:Int} {k:Nat} (hk:placeI priv n = k):withM b priv n true = ((b.toNat ||| 2 ^ k:Nat):Int):=by
 unfold placeI at hk
 split at hk
 · rename_i h
   unfold withM
   rw [if_pos h,if_pos rfl,show placeM priv n = k by omega]
 · omega
set_option maxHeartbeats 1600000 in
theorem mwith_on (b:Int) (priv:Bool) (n:Int) (k:Nat) (hk:placeI priv n = k) (h5:k < 18) (hb0:0 ≤ b∧b < 4294967296) (w:World):Calls Tryz.prog 41 #[.agg #[.int .u32 b],.bool priv,.int .i64 n,.bool true] w fun e w' => e = .returned (.agg #[.int .u32 (withM b priv n true)])∧Below w.heap.size w w':=by
 have HP:=Hd (fun w => place_any priv n w)
 rw [hk] at HP
 have hk0:¬ (k:Int) < 0:=by omega
 go_enter Tryz.func41,Tryz.ntmps41
 go_upto_region 5 with (go_at_call 83;(with_reducible refine (HP.out _).mono ?_);rintro e w1 ⟨rfl,hb⟩;have HB:=Hd hb;clear hb)
 have hb5:Below w.heap.size w w1:=below_tail (below_allocs (below_allocs (Below.refl _ _) _) _) HB.out
 have hn5:w1.heap[w.heap.size]? = some (.cells #[.int .u32 b] 40 (0,0)):=(HB.out.block _ (by simp;omega)).trans (hp_old (hp_new rfl))
 have hr5:w1.heap[w.heap.size + 1]? = some (.cells #[.int .u32 0] 40 (0,0)):=(HB.out.block _ (by simp)).trans (hp_new (by simp))
 have HB5:=Hd hb5
 have HN5:=Hd hn5
 have HR5:=Hd hr5
 obtain ⟨c0,f0⟩:=at_ hn5 0 (.int .u32 b) rfl
 clear hb5 hn5 hr5
 refine wp_region_u 4 (fun w' => Below w1.heap.size w1 w'∧w'.cell? ⟨w.heap.size,0,none⟩ = some (.int .u32 b)) (by kernel_rfl) (by kernel_rfl) ?_ ?_
 · exact ⟨(Below.refl _ _).drew,c0⟩
 simp only [List.take_succ_cons,List.take_zero,List.drop_succ_cons,List.drop_zero]
 repeat (
  (first
   | refine seqU_skip (by rfl) ?_
   | (refine seqU_val ?_ (by rfl) ?_ ?_;rotate_left;(focus (intro w' hS;obtain ⟨_,_⟩:=hS;go_simp;first | done | with_reducible rfl))))
  simp only [Act.put,List.setIfInBounds_toArray,List.set_cons_zero,List.set_cons_succ])
 refine seqU_nil (fun w' hS => ?_)
 obtain ⟨hb6,c0⟩:=hS
 have hn6:=(hb6.block _ (lt_of_heap HN5.out)).trans HN5.out
 have hr6:=(hb6.block _ (lt_of_heap HR5.out)).trans HR5.out
 obtain ⟨-,f0⟩:=at_ hn6 0 (.int .u32 b) rfl
 obtain ⟨r0,rf0⟩:=at_ hr6 0 (.int .u32 0) rfl
 have HB6:=Hd (below_tail HB5.out hb6)
 have HN6:=Hd hn6
 have HR6:=Hd hr6
 have hpw:IntKind.u32.wrap (2 ^ k) = 2 ^ k:=by
  have:∀ k,k < 18→IntKind.u32.wrap (2 ^ k) = 2 ^ k:=by decide
  exact this k h5
 clear hb6 hn6 hr6
 go_wp2
 have hz:=whole_set (cs:=[.int .u32 0]) (w:=w'.setCell ⟨w.heap.size,0,none⟩ (.int .u32 (bits .or .u32 b (2 ^ k)))) ((((Mod.refl [w.heap.size] w').setCell (a:=⟨w.heap.size,0,none⟩) (.inl (by simp)) _).block (w.heap.size + 1) (lt_of_heap HR6.out) (by simp)).trans HR6.out) 0 (.int .u32 (bits .or .u32 b (2 ^ k))) rfl
 exact bodyPost_ret (ret_agg rfl _ _ (w.heap.size + 1) [.int .u32 (bits .or .u32 b (2 ^ k))] rfl (range_new hz) Tryz.underlying40 rfl info_set) rfl ⟨by rw [withM_on hk,or_bit hb0 h5],below_set (below_set HB6.out (Nat.le_refl _) _) (by omega) _⟩
theorem mnew_any (w:World):Calls Tryz.prog 15 #[] w fun e w' => e = .returned (.agg #[.int .u32 newM])∧Below w.heap.size w w':=by
 have H1:Hid (∀ w,Calls Tryz.prog 41 #[.agg #[.int .u32 0],.bool true,.int .i64 7,.bool true] w fun e w' => e = .returned (.agg #[.int .u32 32])∧Below w.heap.size w w'):=Hd (fun w => by
  have:=mwith_on 0 true 7 5 (by decide) (by omega) (by omega) w
  rw [show withM 0 true 7 true = 32 by decide] at this
  exact this)
 have H2:Hid (∀ w,Calls Tryz.prog 41 #[.agg #[.int .u32 32],.bool true,.int .i64 25,.bool true] w fun e w' => e = .returned (.agg #[.int .u32 96])∧Below w.heap.size w w'):=Hd (fun w => by
  have:=mwith_on 32 true 25 6 (by decide) (by omega) (by omega) w
  rw [show withM 32 true 25 true = 96 by decide] at this
  exact this)
 rw [show newM = 96 by decide]
 obtain ⟨W,hW⟩:∃ W,w.alloc (.cells #[.int .u32 0] 40) = W:=⟨_,rfl⟩
 have HB0:Hid (Below w.heap.size w W):=Hd (by rw [← hW];exact below_allocs (Below.refl _ _) _)
 have HN0:Hid (W.heap[w.heap.size]? = some (.cells #[.int .u32 0] 40 (0,0))):=Hd (by rw [← hW];exact hp_new rfl)
 go_enter Tryz.func15,Tryz.ntmps15
 go_wp2_with (first
  | (go_at_call 41;(with_reducible refine (H1.out _).mono ?_);rintro e w1 ⟨rfl,hb⟩;have HB1:=Hd (below_tail HB0.out hb);have HN1:=Hd ((hb.block _ (lt_of_heap HN0.out)).trans HN0.out);clear hb)
  | (go_at_call 41;(with_reducible refine (H2.out _).mono ?_);rintro e w2 ⟨rfl,hb⟩;have HB2:=Hd (below_tail HB1.out hb);have HN2:=Hd ((hb.block _ (lt_of_heap HN1.out)).trans HN1.out);clear hb;obtain ⟨r0,rf0⟩:=at_ HN2.out 0 (.int .u32 0) rfl))
 exact bodyPost_ret (ret_agg rfl _ _ w.heap.size [.int .u32 96] rfl (range_new (whole_set (cs:=[.int .u32 0]) HN2.out 0 (.int .u32 96) rfl)) Tryz.underlying40 rfl info_set) rfl ⟨rfl,below_set HB2.out (Nat.le_refl _) _⟩
theorem size_builderG:(Tryz.prog.info? 76).map (·.size) = some 2:=by kernel_rfl
structure BuB (w:World) (b o:Nat) (ba bf:Value):Prop where
 h0:w.cell? ⟨b,o,none⟩ = some ba∧w.frozen? ⟨b,o,none⟩ = false
 h1:w.cell? ⟨b,o + 1,none⟩ = some bf∧w.frozen? ⟨b,o + 1,none⟩ = false
 ad:ba = .pointer none ∨ ba = .pointer (some ⟨b,o,none⟩)
def LiesB (w:World) (b o:Nat):Prop:=∃ ty n,w.shape? b = some (ty,n)∧o < n∧liesAt Tryz.prog Tryz.prog.depth ty (n / Tryz.prog.cellsOf ty) o 76 1 = true
theorem BuB.set0 {w:World} {b o:Nat} {ba bf:Value} (h:BuB w b o ba bf):BuB (w.setCell ⟨b,o,none⟩ (.pointer (some ⟨b,o,none⟩))) b o (.pointer (some ⟨b,o,none⟩)) bf :=
 ⟨set_self h.h0,hold_set h.h1 (.inr (by omega)),.inr rfl⟩
def BcPost (b o:Nat) (bf:Value) (w:World) (e:Ending) (w':World):Prop:=e = .returned (.tuple #[])∧(w' = w ∨ w' = w.setCell ⟨b,o,none⟩ (.pointer (some ⟨b,o,none⟩)))∧BuB w' b o (.pointer (some ⟨b,o,none⟩)) bf
set_option maxHeartbeats 1600000 in
theorem bcopyG (b o:Nat) (ba bf:Value) (w:World) (hl:LiesB w b o) (h:BuB w b o ba bf) :
 Calls Tryz.prog 168 #[.pointer (some ⟨b,o,none⟩)] w (BcPost b o bf w):=by
 obtain ⟨j,hj,hjs⟩:=Option.map_eq_some_iff.1 size_builderG
 obtain ⟨ty,n,hsh,hon,hli⟩:=hl
 have HB:=Hd h
 obtain ⟨⟨c0,f0⟩,-,had⟩:=h
 rcases had with rfl | rfl
 · have hcv1:=Lib.run_to_unsafe (P:=Tryz.prog) w ⟨b,o,none⟩ Tryz.underlying74 Tryz.underlying280 hj (by rw [hjs];decide) hsh hon
   have hcv2:=Lib.run_from_unsafe (P:=Tryz.prog) w ⟨b,o,none⟩ Tryz.underlying280 Tryz.underlying74 hj hsh hli
   have HB2:=Hd HB.out.set0
   go_enter Tryz.func168,Tryz.ntmps168
   go_wp2
   rw [run_callFunc_extern Tryz.func260 (by kernel_rfl) (by kernel_rfl) (by kernel_rfl) (e:=Extern.AbiNoEscape.same) (by kernel_rfl)]
   rw [Lib.run_noEscape]
   try simp only [Result.andThen]
   rw [Oper.upon_value]
   go_wp2
   go_end0
   exact ⟨rfl,.inr rfl,HB2.out⟩
 · have hq:=Lib.run_neq_ptr_same (P:=Tryz.prog) w ⟨b,o,none⟩ Tryz.underlying74 hj
   go_enter Tryz.func168,Tryz.ntmps168
   go_wp2
   go_end0
   exact ⟨rfl,.inl rfl,HB.out⟩
theorem info_u8B:(Tryz.prog.info? 5).map (fun i => (i.zero,i.size,i.bytes)) = some (some (.int .u8 0),1,1):=by kernel_rfl
section
variable {P:Program}
theorem run_append_strG (w:World) (base:Nat) (t u ty e:TypeId) (i:TypeInfo) (ht:P.underlying t = some (.slice e)) (hu:P.underlying u = some .string) (hi:P.info? e = some i) (hz:i.zero = some (.int .u8 0)) (hsize:i.size = 1) (hby:i.bytes = 1)
 (v:Value) (n:Nat) (xs:List Value) (hown:w.ownsRow base e 1 v n xs) (s:ByteArray) (h63:n + s.size ≤ maxLen) (hbytes:n + s.size ≤ 140737488355328) (hbase:base ≤ w.heap.size) :
 ∃ v' w',(Builtin.append_ #[t,u] ty #[v,.string s]).run P w = .ok v' w'∧w'.ownsRow base e 1 v' (n + s.size) (xs ++ Lib.strCells s)∧w.grownBy w' v.ownBlock∧∀ g,v'.ownBlock = some g→v.ownBlock = some g ∨ w.heap.size ≤ g:=by
 have hsmall:n + s.size ≤ 9223372036854775807:=by simp only [maxLen] at h63;omega
 have hxl:xs.length = n:=by simpa using hown.1
 rcases hown.2 with ⟨rfl,rfl⟩ | ⟨g,cap,cur,rfl,hbg,hg,hnc,hcm,hcs,htake⟩
 · have hx:xs = []:=List.eq_nil_of_length_eq_zero hxl
   subst hx
   obtain ⟨v',w',h1,h2,h3,-⟩:=Lib.run_append_own_string (P:=P) w w.heap.size t u ty e i ht hu hi hz hsize hby (.slice none 0 0) 0 [] (World.ownsRow_nil w _ e 1) s h63 hbytes (Nat.le_refl _)
   exact ⟨v',w',h1,owns_weaken h2 hbase,h3,fun g hg => .inr (h2.lt g hg).1⟩
 · obtain ⟨v',w',h1,h2,h3,-⟩:=Lib.run_append_own_string (P:=P) w base t u ty e i ht hu hi hz hsize hby _ n xs hown s h63 hbytes hbase
   refine ⟨v',w',h1,h2,h3,fun b hb => ?_⟩
   by_cases hroom:n + s.size ≤ cap
   · have hr:=Lib.run_append_room_string (P:=P) w t u ty e i ht hu hi hsize g n cap cur hg s hroom (by omega)
     rw [h1] at hr
     injection hr with hr _
     rw [hr] at hb
     exact .inl hb
   · have hr:=Lib.run_append_grow_string (P:=P) w t u ty e i (.int .u8 0) ht hu hi hz ⟨g,0,none⟩ n cap xs (by rw [hsize];simpa using hxl) (hown.cells (g:=g) rfl) s (by omega) (by omega) (by rw [hby];exact growslice_fits (by omega) (by omega))
     rw [h1] at hr
     injection hr with hr _
     rw [hr] at hb
     obtain rfl:w.heap.size = b:=by simpa [Value.ownBlock] using hb
     exact .inr (Nat.le_refl _)
theorem wpList_append_strG {w:World} {ops:Array Oper} {rest:List Oper} {o:Oper} {a:Act} {Q:Exit→Act→World→Prop} (hgd:o.guard = none) (sl x:Operand) (t u:TypeId) (ho:o.op = .call { callee:=.builtin .append,args:=#[sl,x],argTypes:=#[t,u] })
 (base:Nat) (e:TypeId) (i:TypeInfo) (ht:P.underlying t = some (.slice e)) (hu:P.underlying u = some .string) (hi:P.info? e = some i) (hz:i.zero = some (.int .u8 0)) (hsize:i.size = 1) (hby:i.bytes = 1)
 (v:Value) (n:Nat) (xs:List Value) (hs:a.eval sl = v) (hown:w.ownsRow base e 1 v n xs) (s:ByteArray) (hx:a.eval x = .string s) (h63:n + s.size ≤ maxLen) (hbytes:n + s.size ≤ 140737488355328) (hbase:base ≤ w.heap.size)
 (h:∀ v' w',w'.ownsRow base e 1 v' (n + s.size) (xs ++ Lib.strCells s)→w.grownBy w' v.ownBlock→(∀ g,v'.ownBlock = some g→v.ownBlock = some g ∨ w.heap.size ≤ g)→wpList P ops Q rest (a.put o.dst v') w'):wpList P ops Q (o :: rest) a w:=by
 refine wpList_plain hgd fun K hK => ?_
 obtain ⟨v',w',hr,h2,h3,h4⟩:=run_append_strG (P:=P) w base t u o.type e i ht hu hi hz hsize hby v n xs hown s h63 hbytes hbase
 unfold Oper.wp execOp
 simp only [ho,resolve,invoke,builtin,Sem.run_bind,Sem.run_pure,Result.andThen_ok,List.map_toArray,List.map_cons,List.map_nil,hs,hx,hr]
 exact hK _ _ (h v' w' h2 h3 h4)
end
def BwPost (base b o n:Nat) (bf:Value) (xs:List Value) (s:ByteArray) (w:World) (e:Ending) (w':World):Prop :=
 e = .returned (.tuple #[.int .i64 s.size,.nilIface])∧∃ v' w1 w2,(w1 = w ∨ w1 = w.setCell ⟨b,o,none⟩ (.pointer (some ⟨b,o,none⟩)))∧w1.grownBy w2 bf.ownBlock∧w2.ownsRow base 5 1 v' (n + s.size) (xs ++ Lib.strCells s)∧(∀ g,v'.ownBlock = some g→bf.ownBlock = some g ∨ w.heap.size ≤ g)∧BuB w2 b o (.pointer (some ⟨b,o,none⟩)) bf∧w' = w2.setCell ⟨b,o + 1,none⟩ v'
theorem BuB.grown {w w':World} {b o:Nat} {ba bf:Value} {r:Option Nat} (h:BuB w b o ba bf) (hg:w.grownBy w' r) (hr:r ≠ some b):BuB w' b o ba bf:=by
 have hb:=hg.block b (lt_of_cell h.h0.1) (fun e => hr e.symm)
 exact ⟨⟨(World.cell?_of_block hb).trans h.h0.1,(World.frozen?_of_block hb).trans h.h0.2⟩,⟨(World.cell?_of_block hb).trans h.h1.1,(World.frozen?_of_block hb).trans h.h1.2⟩,h.ad⟩
set_option maxHeartbeats 1600000 in
theorem bwriteG (base b o n:Nat) (ba bf:Value) (xs:List Value) (s:ByteArray) (w:World) (hl:LiesB w b o) (h:BuB w b o ba bf) (hown:w.ownsRow base 5 1 bf n xs) (hb:bf.ownBlock ≠ some b) (hs:n + s.size ≤ 100000000) (hbase:base ≤ w.heap.size) :
 Calls Tryz.prog 101 #[.pointer (some ⟨b,o,none⟩),.string s] w (BwPost base b o n bf xs s w):=by
 obtain ⟨i0,hi,hz0,hz1,hz2⟩:=info_parts info_u8B
 have HC:=Hd (bcopyG b o ba bf w hl h)
 have HN:=Hd hb
 have HO:=Hd hown
 have hlt:=lt_of_cell h.h0.1
 obtain ⟨A,cap,rfl⟩:=row_form hown
 clear h hl hb hown
 go_enter Tryz.func101,Tryz.ntmps101
 go_upto_region 2 with (go_at_call 168;(with_reducible refine HC.out.mono ?_);rintro e w2 ⟨rfl,hw2,hB2⟩)
 have HW:=Hd hw2
 have HB2:=Hd hB2
 have hsz:w2.heap.size = w.heap.size:=by rcases HW.out with rfl | rfl <;> simp [World.setCell]
 have HO2:Hid (w2.ownsRow base 5 1 (.slice A n cap) n xs):=Hd (by
  rcases HW.out with rfl | rfl
  · exact HO.out
  · exact owns_mod HO.out ((Mod.refl [b] _).setCell (a:=⟨b,o,none⟩) (.inl (by simp)) _) (fun g hg hx => HN.out (by rw [← List.mem_singleton.1 hx];exact hg)))
 obtain ⟨c1,f1⟩:=hB2.h1
 clear hw2 hB2
 go_wp2_with (at_builtin;refine wpList_append_strG rfl _ _ 23 9 rfl base 5 i0 Tryz.underlying23 Tryz.underlying9 hi hz0 hz1 hz2 _ n xs rfl HO2.out s rfl (by unfold maxLen;omega) (by omega) (by omega) ?_;intro v' w3 hown' hgrow hv;obtain ⟨A',c',rfl⟩:=row_form hown';have HB3:=Hd (HB2.out.grown hgrow HN.out);have HO3:=Hd hown';have HG3:Hid (w2.grownBy w3 (Value.slice A n cap).ownBlock):=Hd hgrow;have HV3:Hid (∀ g,(Value.slice A' (n + s.size) c').ownBlock = some g→(Value.slice A n cap).ownBlock = some g ∨ w2.heap.size ≤ g):=Hd hv;have d1:=HB3.out.h1.1;have e1:=HB3.out.h1.2;clear hown' hgrow hv)
 go_ret2
 exact ⟨rfl,_,_,_,HW.out,HG3.out,HO3.out,fun g hg => (HV3.out g hg).imp id (fun h => by omega),HB3.out,rfl⟩
end Go.Proofs.YtaefcahblmopfaaGreatDoor
