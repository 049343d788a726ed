/- Joined by a tool of this claim out of smaller texts. Conditions: as stated. -/
import Derived.Test.YtffdblmdelgkaaaGreatRt01
import Derived.Deep.Slices
import Derived.Deep.Fields
import Derived.ChangeSame
import Derived.OpenShut
import Derived.Lib.SmallJoins
import Derived.Below
import Derived.Carry
import Derived.Shelf.SlSorted.Search
import Derived.Ground.SlsoProg
import Derived.Test.YtffdblmdelgkaaaGreatProg
import Derived.LoopN
import Derived.Deep.OwnRows
import Derived.Deep.LoopGhost
import Derived.Laws.BytesArg
import Derived.Laws.BitsAllLaws
import Derived.Deep.CutBlock
import Derived.Deep.DeepCutAuto
import Derived.Laws.ResultCell
import Derived.Deep.MidRow
import Derived.Laws.IdiomCopy
set_option linter.unusedVariables false
set_option linter.unusedSimpArgs false
set_option maxRecDepth 100000
open Go.Lib renaming hid → Hd
namespace Go.Proofs.YtffdblmdelgkaaaGreat
open Go.RowKit Go.ChangeShapes Go.WideShapes Go.Deep
section
variable {H:Type} {enc:TypeId × Value→H} {P:Program} {w:World} {base:Nat} {spare:Nat→Bool} {held:Bool}
theorem list_of_forall {α:Type} {Q:Nat→α→Prop}:∀ (n:Nat),(∀ i,i < n→∃ s,Q i s)→∃ l:List α,l.length = n∧∀ i s,l[i]? = some s→Q i s
 | 0,_ => ⟨[],rfl,fun i s h => by simp at h⟩
 | n + 1,h => by
   obtain ⟨l,hl,hq⟩:=list_of_forall n (fun i hi => h i (by omega))
   obtain ⟨s,hs⟩:=h n (by omega)
   refine ⟨l ++ [s],by simp [hl],fun i u hu => ?_⟩
   by_cases hi:i < l.length
   · rw [List.getElem?_append_left hi] at hu
     exact hq i u hu
   · rw [List.getElem?_append_right (by omega)] at hu
     have:i - l.length = 0:=by
      rcases Nat.eq_zero_or_pos (i - l.length) with h0 | h0
      · exact h0
      · rw [List.getElem?_eq_none (by simp;omega)] at hu;cases hu
     rw [this] at hu
     obtain rfl:s = u:=by simpa using hu
     have e:i = n:=by omega
     rw [e];exact hs
end
section
variable {H:Type} {enc:TypeId × Value→H} {P:Program} {w:World} {base:Nat} {spare:Nat→Bool} {held:Bool}
theorem open_elems {b0:Nat} {r:Reach} {t e:TypeId} {v:Value} {d:DataW H} {p:List MemPlace} (ht:P.underlying t = some (.slice e)) (hpos:0 < P.cellsOf e)
 (hv:Value.okWide P w r b0 t v) (h:DataW.Trod enc P w base spare held t v d p) :
 ∃ (A:Option Addr) (len cap:Nat),v = .slice A len cap∧len ≤ cap∧cap ≤ maxLen ∧
  (0 < len→∃ b off,A = some ⟨b,off,none⟩∧∀ i,i < len→∃ (cs:List Value) (y:DataW H × List MemPlace) (n:Nat),cs.length = P.cellsOf e∧(∀ j,j < P.cellsOf e→w.cell? ⟨b,off + i * P.cellsOf e + j,none⟩ = cs[j]?)∧DataW.trod enc P w base spare held n e cs = some y):=by
 obtain ⟨a0,len,cap,rfl⟩:=okWide_slice ht hv
 obtain ⟨fuel,hf⟩:=h
 rcases open_slice ht hf with ⟨hcs,hx⟩ | ⟨a,len',cap',m,n,D,Pl,hcs,_,hl,hm,hmm,hx,hi⟩
 · simp only [Value.cells,List.cons.injEq,and_true,Value.slice.injEq] at hcs
   obtain ⟨rfl,rfl,rfl⟩:=hcs
   exact ⟨none,0,0,rfl,Nat.le_refl _,Nat.zero_le _,fun h => absurd h (by omega)⟩
 · simp only [Value.cells,List.cons.injEq,and_true,Value.slice.injEq] at hcs
   obtain ⟨rfl,rfl,rfl⟩:=hcs
   refine ⟨some a,len,cap,rfl,hl,hm,fun h0 => ?_⟩
   have hlm:len ≤ m:=by rw [hmm];split <;> omega
   have hspot:a.spot = none:=by
    obtain ⟨cs',hc,_⟩:=hi 0 (by omega)
    obtain ⟨_,hcl,hat⟩:=World.cells?_some hc
    have h1:=hat 0 hpos
    have h2:cs'[0]? = some (cs'[0]'(by omega)):=List.getElem?_eq_getElem (by omega)
    rw [h2] at h1
    have h3:=World.cell?_spot h1
    simpa [Addr.add] using h3
   obtain ⟨b,off,spot⟩:=a
   simp only at hspot
   subst hspot
   refine ⟨b,off,rfl,fun i hil => ?_⟩
   obtain ⟨cs',hc,htr⟩:=hi i (by omega)
   obtain ⟨_,hcl,hat⟩:=World.cells?_some hc
   refine ⟨cs',_,n,hcl,fun j hj => ?_,htr⟩
   rw [← hat j hj,Go.Deep.add_add]
   congr 1
   unfold Addr.add
   by_cases hz:i * P.cellsOf e + j = 0
   · rw [if_pos hz]
     have h1:i * P.cellsOf e = 0:=by omega
     have h2:j = 0:=by omega
     simp
   · rw [if_neg hz]
     simp [Nat.add_assoc]
end
open Go.ChangeShapes Go.WideShapes Go.ChangeAt Go.RowKit Go.Joins
theorem own:ownKnob Tryz.prog.godebug = none:=by kernel_rfl
theorem laidOut:laidOutB Tryz.prog = true:=by kernel_rfl
section
variable {H:Type} {enc:TypeId × Value→H} {P:Program}
theorem post_of_below {f:Func} {s:ChangeSpec} {apart fresh handsOn again:Bool} {W W':World} {args:Array Value} {v:Value} {ds gs:List (DataW H)} {before pa pv:List MemPlace}
 (hW:DataW.Whole enc P f.params.toList s.vars apart W args.toList ds gs before)
 (hres:∀ (b:Nat) (sp:Nat→Bool) (hd:Bool),DataW.TrodAll enc P W' b sp hd f.resultTypes.toList (v.resultList f.resultTypes.size) (s.fn H (ds ++ gs)).results [])
 (hargs:∀ sp:Nat→Bool,(∀ p ∈ before,sp p.block = true)→DataW.TrodAll enc P W' 0 sp true f.params.toList args.toList (s.fn H (ds ++ gs)).args pa)
 (hvars:∀ sp:Nat→Bool,(∀ p ∈ before,sp p.block = true)→DataW.TrodVars enc P W' sp s.vars (s.fn H (ds ++ gs)).vars pv)
 (hps:before = pa ++ pv) (hb:Below W.heap.size W W')
 (hok:∀ (j:Nat) (t:TypeId) (r:Value),f.resultTypes[j]? = some t→(v.resultList f.resultTypes.size)[j]? = some r→Value.okWide P W' .any 0 t r) :
 s.post enc P f apart fresh handsOn again W args v W':=by
 have hlt:∀ p ∈ before,p.block < W.heap.size:=fun p hp => hW.lt p hp
 have hold:∀ p ∈ before,(fun b => decide (b < W.heap.size)) p.block = true:=fun p hp => by simpa using hlt p hp
 refine ⟨ds,gs,before,[],pa,pv,hW,hres _ _ _,hargs _ hold,hvars _ hold,World.keptBut_mono (fun p hp => ⟨hp,?_⟩) (hb.frame (· ∈ before)),fun _ => ?_⟩
 · rw [hps,List.mem_append] at hp
   exact Or.inr hp
 · obtain ⟨_,_,_,_,_,hz,hn⟩:=hW
   refine ⟨hok,_,_,([] ++ pa) ++ pv,⟨[] ++ pa,pv,trodAll_append (hargs _ (fun _ _ => rfl)) (hres _ _ _),hvars _ (fun _ _ => rfl),rfl,?_,?_⟩,?_⟩
   · intro b off hp
     have hin:MemPlace.cell b off ∈ before:=by rw [hps];simpa using hp
     rw [hb.frozen (hlt _ hin)]
     exact hz b off hin
   · intro ha
     have:=hn ha
     rw [hps] at this
     simpa using this
   · intro p hp _
     rw [hps]
     simpa using hp
theorem stays {t:TypeId} (hl:laidOutB P = true) (hr:P.readableRec t = true) (hrow:t < P.types.size) {W W':World} {v:Value} {d:DataW H} {ps before:List MemPlace} {sp:Nat→Bool}
 (h:DataW.Trod enc P W 0 (fun _ => true) true t v d ps) (hb:Below W.heap.size W W') (hlt:∀ x ∈ before,x.block < W.heap.size) (hin:∀ x ∈ ps,x ∈ before) (hsp:∀ x ∈ before,sp x.block = true) :
 DataW.Trod enc P W' 0 sp true t v d ps :=
 WideElems.Trod_stays hl hr hrow h (fun x hx => hb.same (hlt x (hin x hx))) (fun x hx => hsp x (hin x hx))
end
def okI (x:Int):Prop:=-9223372036854775808 ≤ x∧x ≤ 9223372036854775807
theorem okI_of_wf {x:Int} (h:(Lit.int .i64 x).wf = true):okI x:=by
 unfold okI
 simp [Lit.wf,IntKind.min,IntKind.max,IntKind.signed,IntKind.bits] at h
 omega
theorem u8_of_wf {x:Int} (h:(Lit.int .u8 x).wf = true):0 ≤ x∧x ≤ 255:=by
 simp [Lit.wf,IntKind.min,IntKind.max,IntKind.signed,IntKind.bits] at h
 omega
end Go.Proofs.YtffdblmdelgkaaaGreat
namespace Go.Proofs
open Go.Shelf
def Tryz.search_ren:Go.Shelf.Ren:=⟨fun | 16 => 135 | n => n,fun | 3 => 3 | 35 => 77 | 4 => 4 | 38 => 150 | n => n,fun | n => n⟩
theorem Tryz.search:Go.Proofs.SlLaysO.n16 Tryz.prog Tryz.search_ren:={
 mixed:=by kernel_rfl
 f16:=Tryz.func135.trans (congrArg some (by kernel_rfl))
 t3:=Tryz.underlying3
 a3:=Tryz.isAgg3
 z3:=Tryz.sizeOf3
 v3:=Tryz.zeroValue3
 t4:=Tryz.underlying4
 a4:=Tryz.isAgg4
 z4:=Tryz.sizeOf4
 v4:=Tryz.zeroValue4
 t35:=Tryz.underlying77
 a35:=Tryz.isAgg77
 z35:=Tryz.sizeOf77
 v35:=Tryz.zeroValue77
 t38:=Tryz.underlying150
 a38:=Tryz.isAgg150
 z38:=Tryz.sizeOf150
 v38:=Tryz.zeroValue150 }
end Go.Proofs
namespace Go.Proofs.YtffdblmdelgkaaaGreat
open Go.RowKit Go.ChangeShapes Go.WideShapes Go.Deep
theorem coOpenPp_i32:Tryz.prog.cellsOf 21 = 1:=by kernel_rfl
theorem coOpenPp_int:Tryz.prog.cellsOf 3 = 1:=by kernel_rfl
theorem coOpenPp_Cq:Tryz.prog.cellsOf 32 = 2:=by kernel_rfl
theorem coOpenPp_Aq:Tryz.prog.cellsOf 34 = 5:=by kernel_rfl
theorem coOpenPp_O7:Tryz.prog.cellsOf 36 = 9:=by kernel_rfl
theorem coOpenPp_Oq:Tryz.prog.cellsOf 38 = 12:=by kernel_rfl
structure Cq where
 k:Int
 n:Int
def encCq (c:Cq):List Value:=[.int .i64 c.k,.int .i64 c.n]
def okCq (c:Cq):Prop:=okI c.k∧okI c.n
structure Aq where
 f_k:Int
 f_n:Int
 b_k:Int
 b_n:Int
 fl:Int
def encAq (c:Aq):List Value:=[.int .i64 c.f_k,.int .i64 c.f_n,.int .i64 c.b_k,.int .i64 c.b_n,.int .i64 c.fl]
def okAq (c:Aq):Prop:=okI c.f_k∧okI c.f_n∧okI c.b_k∧okI c.b_n∧okI c.fl
structure O7 where
 kind:Int
 x:Int
 n:Int
 r:Int
 at_f_k:Int
 at_f_n:Int
 at_b_k:Int
 at_b_n:Int
 at_fl:Int
def encO7 (c:O7):List Value:=[.int .i64 c.kind,.int .i64 c.x,.int .i64 c.n,.int .i32 c.r,.int .i64 c.at_f_k,.int .i64 c.at_f_n,.int .i64 c.at_b_k,.int .i64 c.at_b_n,.int .i64 c.at_fl]
def okO7 (c:O7):Prop:=okI c.kind∧okI c.x∧okI c.n∧okI c.at_f_k∧okI c.at_f_n∧okI c.at_b_k∧okI c.at_b_n∧okI c.at_fl
structure Oq where
 o_kind:Int
 o_x:Int
 o_n:Int
 o_r:Int
 o_at_f_k:Int
 o_at_f_n:Int
 o_at_b_k:Int
 o_at_b_n:Int
 o_at_fl:Int
 y:Int
 top:Int
 bottom:Int
def encOq (c:Oq):List Value:=[.int .i64 c.o_kind,.int .i64 c.o_x,.int .i64 c.o_n,.int .i32 c.o_r,.int .i64 c.o_at_f_k,.int .i64 c.o_at_f_n,.int .i64 c.o_at_b_k,.int .i64 c.o_at_b_n,.int .i64 c.o_at_fl,.int .i64 c.y,.int .i64 c.top,.int .i64 c.bottom]
theorem encOq_len:∀ c,(encOq c).length = 12:=fun _ => rfl
def okOq (c:Oq):Prop:=okI c.o_kind∧okI c.o_x∧okI c.o_n∧okI c.o_at_f_k∧okI c.o_at_f_n∧okI c.o_at_b_k∧okI c.o_at_b_n∧okI c.o_at_fl∧okI c.y∧okI c.top∧okI c.bottom
section
variable {H:Type} {enc:TypeId × Value→H} {w:World} {base:Nat} {spare:Nat→Bool} {held:Bool}
theorem Cq_of_trod {n:Nat} {cs:List Value} {x:DataW H × List MemPlace} (h:DataW.trod enc Tryz.prog w base spare held n 32 cs = some x):∃ c:Cq,cs = encCq c∧okCq c:=by
 obtain ⟨xs,m,_,_,hl,hlen,hf⟩:=DataW.trod_struct Tryz.underlying32 h
 rw [coOpenPp_Cq] at hl
 match cs,hl with
 | [v0,v1],_ =>
   match xs,hlen with
   | [y0,y1],_ =>
     have h0:=hf 0 _ rfl
     have h1:=hf 1 _ rfl
     simp [coOpenPp_int] at h0 h1
     obtain ⟨z0,e0,-,hw0⟩:=DataW.trod_int Tryz.underlying3 h0
     simp at e0
     subst e0
     obtain ⟨z1,e1,-,hw1⟩:=DataW.trod_int Tryz.underlying3 h1
     simp at e1
     subst e1
     exact ⟨⟨z0,z1⟩,rfl,⟨okI_of_wf hw0,okI_of_wf hw1⟩⟩
theorem Aq_of_trod {n:Nat} {cs:List Value} {x:DataW H × List MemPlace} (h:DataW.trod enc Tryz.prog w base spare held n 34 cs = some x):∃ c:Aq,cs = encAq c∧okAq c:=by
 obtain ⟨xs,m,_,_,hl,hlen,hf⟩:=DataW.trod_struct Tryz.underlying34 h
 rw [coOpenPp_Aq] at hl
 match cs,hl with
 | [v0,v1,v2,v3,v4],_ =>
   match xs,hlen with
   | [y0,y1,y2],_ =>
     have h0:=hf 0 _ rfl
     have h1:=hf 1 _ rfl
     have h2:=hf 2 _ rfl
     simp [coOpenPp_Cq,coOpenPp_int] at h0 h1 h2
     obtain ⟨s0,e0,k0⟩:=Cq_of_trod h0
     simp only [encCq,List.cons.injEq,and_true] at e0
     obtain ⟨rfl,rfl⟩:=e0
     obtain ⟨s1,e1,k1⟩:=Cq_of_trod h1
     simp only [encCq,List.cons.injEq,and_true] at e1
     obtain ⟨rfl,rfl⟩:=e1
     obtain ⟨z2,e2,-,hw2⟩:=DataW.trod_int Tryz.underlying3 h2
     simp at e2
     subst e2
     exact ⟨⟨s0.k,s0.n,s1.k,s1.n,z2⟩,rfl,⟨k0.1,k0.2,k1.1,k1.2,okI_of_wf hw2⟩⟩
theorem O7_of_trod {n:Nat} {cs:List Value} {x:DataW H × List MemPlace} (h:DataW.trod enc Tryz.prog w base spare held n 36 cs = some x):∃ c:O7,cs = encO7 c∧okO7 c:=by
 obtain ⟨xs,m,_,_,hl,hlen,hf⟩:=DataW.trod_struct Tryz.underlying36 h
 rw [coOpenPp_O7] at hl
 match cs,hl with
 | [v0,v1,v2,v3,v4,v5,v6,v7,v8],_ =>
   match xs,hlen with
   | [y0,y1,y2,y3,y4],_ =>
     have h0:=hf 0 _ rfl
     have h1:=hf 1 _ rfl
     have h2:=hf 2 _ rfl
     have h3:=hf 3 _ rfl
     have h4:=hf 4 _ rfl
     simp [coOpenPp_Aq,coOpenPp_i32,coOpenPp_int] at h0 h1 h2 h3 h4
     obtain ⟨z0,e0,-,hw0⟩:=DataW.trod_int Tryz.underlying3 h0
     simp at e0
     subst e0
     obtain ⟨z1,e1,-,hw1⟩:=DataW.trod_int Tryz.underlying3 h1
     simp at e1
     subst e1
     obtain ⟨z2,e2,-,hw2⟩:=DataW.trod_int Tryz.underlying3 h2
     simp at e2
     subst e2
     obtain ⟨z3,e3,-,-⟩:=DataW.trod_int Tryz.underlying21 h3
     simp at e3
     subst e3
     obtain ⟨s4,e4,k4⟩:=Aq_of_trod h4
     simp only [encAq,List.cons.injEq,and_true] at e4
     obtain ⟨rfl,rfl,rfl,rfl,rfl⟩:=e4
     exact ⟨⟨z0,z1,z2,z3,s4.f_k,s4.f_n,s4.b_k,s4.b_n,s4.fl⟩,rfl,⟨okI_of_wf hw0,okI_of_wf hw1,okI_of_wf hw2,k4.1,k4.2.1,k4.2.2.1,k4.2.2.2.1,k4.2.2.2.2⟩⟩
theorem Oq_of_trod {n:Nat} {cs:List Value} {x:DataW H × List MemPlace} (h:DataW.trod enc Tryz.prog w base spare held n 38 cs = some x):∃ c:Oq,cs = encOq c∧okOq c:=by
 obtain ⟨xs,m,_,_,hl,hlen,hf⟩:=DataW.trod_struct Tryz.underlying38 h
 rw [coOpenPp_Oq] at hl
 match cs,hl with
 | [v0,v1,v2,v3,v4,v5,v6,v7,v8,v9,v10,v11],_ =>
   match xs,hlen with
   | [y0,y1,y2,y3],_ =>
     have h0:=hf 0 _ rfl
     have h1:=hf 1 _ rfl
     have h2:=hf 2 _ rfl
     have h3:=hf 3 _ rfl
     simp [coOpenPp_O7,coOpenPp_int] at h0 h1 h2 h3
     obtain ⟨s0,e0,k0⟩:=O7_of_trod h0
     simp only [encO7,List.cons.injEq,and_true] at e0
     obtain ⟨rfl,rfl,rfl,rfl,rfl,rfl,rfl,rfl,rfl⟩:=e0
     obtain ⟨z1,e1,-,hw1⟩:=DataW.trod_int Tryz.underlying3 h1
     simp at e1
     subst e1
     obtain ⟨z2,e2,-,hw2⟩:=DataW.trod_int Tryz.underlying3 h2
     simp at e2
     subst e2
     obtain ⟨z3,e3,-,hw3⟩:=DataW.trod_int Tryz.underlying3 h3
     simp at e3
     subst e3
     exact ⟨⟨s0.kind,s0.x,s0.n,s0.r,s0.at_f_k,s0.at_f_n,s0.at_b_k,s0.at_b_n,s0.at_fl,z1,z2,z3⟩,rfl,⟨k0.1,k0.2.1,k0.2.2.1,k0.2.2.2.1,k0.2.2.2.2.1,k0.2.2.2.2.2.1,k0.2.2.2.2.2.2.1,k0.2.2.2.2.2.2.2,okI_of_wf hw1,okI_of_wf hw2,okI_of_wf hw3⟩⟩
theorem open_Oqs {b0:Nat} {r:Reach} {v:Value} {d:DataW H} {p:List MemPlace} (hv:Value.okWide Tryz.prog w r b0 24 v) (h:DataW.Trod enc Tryz.prog w base spare held 24 v d p) :
 ∃ (A:Option Addr) (l:List Oq) (cap:Nat),v = .slice A l.length cap∧l.length ≤ 9223372036854775807∧GrAt encOq 12 w A l∧(∀ c ∈ l,okOq c)∧l.length ≤ cap∧cap ≤ 9223372036854775807:=by
 obtain ⟨A,len,cap,rfl,hl,hm,hc⟩:=open_elems Tryz.underlying24 (by rw [coOpenPp_Oq];decide) hv h
 unfold maxLen at hm
 rw [coOpenPp_Oq] at hc
 rcases Nat.eq_zero_or_pos len with h0 | h0
 · subst h0
   exact ⟨A,[],cap,rfl,Nat.zero_le _,fun h => absurd h (by simp),fun c hc => (by cases hc),hl,by omega⟩
 · obtain ⟨b,off,rfl,hc2⟩:=hc h0
   obtain ⟨l,hll,hq⟩:=list_of_forall (Q:=fun i (c:Oq) => (∀ j v,(encOq c)[j]? = some v→w.cell? ⟨b,off + i * 12 + j,none⟩ = some v)∧okOq c) len (fun i hi => by
    obtain ⟨cs,y,n,hcl,hat,htr⟩:=hc2 i hi
    obtain ⟨c,rfl,hk⟩:=Oq_of_trod htr
    refine ⟨c,fun j v hj => ?_,hk⟩
    have hj':=(List.getElem?_eq_some_iff.1 hj).1
    rw [encOq_len] at hj'
    rw [hat j hj'];exact hj)
   subst hll
   refine ⟨_,l,cap,rfl,by omega,fun _ => ⟨b,off,rfl,fun i x hx => (hq i x hx).1⟩,fun c hc => ?_,hl,by omega⟩
   obtain ⟨i,hi⟩:=List.mem_iff_getElem?.1 hc
   exact (hq i c hi).2
end
end Go.Proofs.YtffdblmdelgkaaaGreat
