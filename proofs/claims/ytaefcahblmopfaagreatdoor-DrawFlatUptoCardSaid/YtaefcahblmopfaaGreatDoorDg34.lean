/- Joined by a tool of this claim out of smaller texts. Conditions: as stated. -/
import Derived.Test.YtaefcahblmopfaaGreatDoorDg33
import Derived.Laws.AppendOwn
set_option linter.unusedVariables false
set_option linter.unusedSimpArgs false
set_option maxRecDepth 100000
open Go.Lib renaming hid → Hd
open List renaming setIfInBounds_toArray → jZ, set_cons_zero → jX, set_cons_succ → jY, mem_singleton → jW, getElem?_eq_getElem → jN, getElem?_eq_some_iff → jP, length_append → jC, mem_cons → kJ, take_succ_eq_append_getElem → kY, mem_append → kM, length_take → kS, getElem?_append_right → kT, length_set → kI, getElem?_map → uV, mem_of_getElem? → uW, map_append → uE, ext_getElem? → gU, getElem?_drop → gH
open Go.Proofs.Tryz renaming prog → jG
open Go.RowKit.Below renaming refl → jU
open Nat renaming le_refl → jD, le_trans → jI, zero_le → kB, zero_add → kP, add_zero → uS
open Go.IntWalk renaming i64_in → jF
open Option renaming mem_toList → jT
open Go.IntKind renaming i64 → jE
open ByteArray renaming empty → kU
open Array renaming getElem?_eq_some_iff → kN
open Go.World renaming ownsRow_nil → kD
namespace Go.Proofs.YtaefcahblmopfaaGreatDoor
open Go.RowKit
def exC(r:Int):Cl:=⟨r,kU,0,0,0,0,0,0⟩
def exR(g:Nat):Rw:=⟨some ⟨g,0,none⟩,[exC 97,exC 98],2,false⟩
theorem qJ7{r:Int}(h:r=97∨r=98):gL (exC r):=by
 refine⟨.inr ⟨?_,⟨[],fun r hr=>(by cases hr),rfl,(show 0≤32 by decide)⟩,.inl ⟨rfl,?_⟩⟩,?_,fun h0=>?_⟩
 · show r≠0;omega
 · rcases h with rfl|rfl<;>kernel_rfl
 · show iL 0 0 0 0 0=true
   decide
 · exact⟨rfl,rfl,rfl⟩
theorem exR_ok(g:Nat):rU [exR g] 2:=by
 refine⟨(show 0<1 by decide),(show 1≤400 by decide),by decide,by decide,fun r hr=>?_⟩;rw[jW.1 hr];refine⟨rfl,?_,fun c hc=>?_⟩
 · kernel_rfl
 · rcases kJ.1 hc with rfl|hc
   · exact qJ7 (.inl rfl)
   · rw[jW.1 hc];exact qJ7 (.inr rfl)
theorem exR_tx(g:Nat):TxOk [exR g]:=fun r hr=>by
 rw[jW.1 hr];refine⟨by show 2≤2;decide,by show 2≤1000000;decide,?_⟩;have :((exR g).cs.flatMap cP).length=2:=by kernel_rfl
 omega
theorem J5(g:Nat):(⟨(Xe [exR g]).toArray⟩:ByteArray)=⟨#[97,98]⟩:=by kernel_rfl
theorem exR_at{w:World}{g:Nat}(h0:w.heap[g]? =some (.cells #[.int .i32 97,.string kU,.int .i64 0,.int .i64 0,.int .i64 0,.int .i64 0,.int .i64 0,.int .i64 0,.int .i32 98,.string kU,.int .i64 0,.int .i64 0,.int .i64 0,.int .i64 0,.int .i64 0,.int .i64 0] 65 (0,0)))
 (h1:w.heap[g+1]? =some (.cells #[.slice (some ⟨g,0,none⟩) 2 2,.bool false] 52 (0,0))):bM w (some ⟨g+1,0,none⟩) [exR g]:=fun _=>by
 refine⟨g+1,0,rfl,fun i r hi=>?_⟩;rcases i with _|i
 · obtain rfl:exR g=r:=by simpa using hi
   refine⟨⟨(at_ h1 0 _ rfl).1,(at_ h1 1 _ rfl).1⟩,fun _=>⟨g,0,rfl,fun j c hj=>?_⟩,by show 2≤_;omega⟩;rcases j with _|_|j
   · obtain rfl:exC 97=c:=by simpa[exR]using hj
     exact⟨(at_ h0 0 _ rfl).1,(at_ h0 1 _ rfl).1,(at_ h0 2 _ rfl).1,(at_ h0 3 _ rfl).1,(at_ h0 4 _ rfl).1,(at_ h0 5 _ rfl).1,(at_ h0 6 _ rfl).1,(at_ h0 7 _ rfl).1⟩
   · obtain rfl:exC 98=c:=by simpa[exR]using hj
     exact⟨(at_ h0 8 _ rfl).1,(at_ h0 9 _ rfl).1,(at_ h0 10 _ rfl).1,(at_ h0 11 _ rfl).1,(at_ h0 12 _ rfl).1,(at_ h0 13 _ rfl).1,(at_ h0 14 _ rfl).1,(at_ h0 15 _ rfl).1⟩
   · simp[exR]at hj
 · simp at hi
set_option maxHeartbeats 1600000 in
theorem Zc(w:World)(ht:fA w):Calls jG 22 #[] w fun e w'=>e=.returned (.bool true)∧Below w.heap.size w w':=by
 have HT:=Hd ht;clear ht
 go_enter Tryz.func22,Tryz.ntmps22
 go_upto_region 2 with fail
 obtain⟨W,hW⟩:∃W,(w.alloc (.cells #[.int .i32 97,.string kU,.int .i64 0,.int .i64 0,.int .i64 0,.int .i64 0,.int .i64 0,.int .i64 0,.int .i32 98,.string kU,.int .i64 0,.int .i64 0,.int .i64 0,.int .i64 0,.int .i64 0,.int .i64 0] 65)).alloc (.cells #[.slice (some ⟨w.heap.size,0,none⟩) 2 2,.bool false] 52)=W:=⟨_,rfl⟩;have hx1:W.heap[w.heap.size+1]? =some (.cells #[.slice (some ⟨w.heap.size,0,none⟩) 2 2,.bool false] 52 (0,0)):=by rw[←hW];exact jA (by rw[World.size_alloc])
 have hx0:W.heap[w.heap.size]? =some (.cells #[.int .i32 97,.string kU,.int .i64 0,.int .i64 0,.int .i64 0,.int .i64 0,.int .i64 0,.int .i64 0,.int .i32 98,.string kU,.int .i64 0,.int .i64 0,.int .i64 0,.int .i64 0,.int .i64 0,.int .i64 0] 65 (0,0)):=by rw[←hW];exact((jH (jU _ _) _).block _ qV1).trans (jA rfl)
 have hb:Below w.heap.size w W:=by rw[←hW];exact jH (jH (jU _ _) _) _
 change Code.wp _ _ _ _ ((w.alloc (.cells #[.int .i32 97,.string kU,.int .i64 0,.int .i64 0,.int .i64 0,.int .i64 0,.int .i64 0,.int .i64 0,.int .i32 98,.string kU,.int .i64 0,.int .i64 0,.int .i64 0,.int .i64 0,.int .i64 0,.int .i64 0] 65)).alloc (.cells #[.slice (some ⟨w.heap.size,0,none⟩) 2 2,.bool false] 52));rw[hW];have hrw:=exR_at hx0 hx1;have HDR:Hid (Calls jG 48 #[.slice (some ⟨w.heap.size+1,0,none⟩) 1 1,.agg #[.int .i64 0,.int .i64 1]] W fun e w'=>e=.returned (.bool true)∧Below W.heap.size W w'):=Hd (K5 _ [exR w.heap.size] 1 2 0 1 W hrw (exR_ok _) (fun r hr=>by rw[jW.1 hr];exact jD 2) (show 0<1 by decide) qZ (HT.o.below hb));have HPL:Hid (∀w',Below W.heap.size W w'→Calls jG 27 #[.slice (some ⟨w.heap.size+1,0,none⟩) 1 1] w' fun e w2=>e=.returned (.string ⟨#[97,98]⟩)∧Below w'.heap.size w' w2):=Hd (fun w' hb2=>by
  have :=YA _ [exR w.heap.size] 1 w' (hrw.below hb2) (show 0<1 by decide) (show 1≤400 by decide) (exR_tx _);rw[J5]at this;exact this)
 have HB:=Hd hb;clear hx0 hx1 hb hrw hW
 go_wp2_with(first
  |(go_at_call 48;(with_reducible refine HDR.o.mono ?_);rintro e w1 ⟨rfl,hb⟩;have HB1:=Hd hb;clear hb)
  |(go_at_call 27;(with_reducible refine(HPL.o _ HB1.o).mono ?_);rintro e w2 ⟨rfl,hb⟩;have HB2:=Hd (jM HB1.o hb);clear hb))
 go_ret
 exact⟨rfl,HB.o.trans (HB2.o.mono HB.o.size)⟩
def GreatQ(l:List Rw)(w:World)(e:Ending)(w':World):Prop:=∃b:Bool,e=.returned (.bool b)∧(b=false→l.length≤400∧∀r∈l,r.cs.length≤400)∧Below w.heap.size w w'
theorem takeQ{l:List Rw}{k:Nat}{r:Rw}{s:Int}(hr:l[k]? =some r)(h0:0≤s)(h:∀r∈l.take k,(r.cs.length:Int)≤s):∀q∈l.take (k+1),(q.cs.length:Int)≤s+r.cs.length:=fun q hq=>by
 obtain⟨hk,rfl⟩:=jP.1 hr;rw[kY hk]at hq;rcases kM.1 hq with h1|h1
 · have :=h q h1;omega
 · rw[jW.1 h1];omega
set_option maxHeartbeats 1600000 in
theorem ZH(A:Option Addr)(l:List Rw)(ca:Nat)(w:World)(hl:bM w A l)(hz:l.length≤1048576)(hcz:∀r∈l,r.cs.length≤1048576):
 Calls jG 21 #[.slice A l.length ca] w (GreatQ l w):=by
 have HL:=Hd hl;have HC:=Hd hcz;obtain⟨L,hL⟩:∃L,l.length=L:=⟨_,rfl⟩;have HLL:=Hd hL;rw[hL]at hz ⊢;clear hl hcz hL
 go_enter Tryz.func21,Tryz.ntmps21
 go_wp2_with fail
 go_loopw [3,4] (fun n i wr=>∃(k:Nat) (s:Int),k≤L∧i=.int .i64 k∧n=.int .i64 s∧(L:Int)≤s∧s≤3000000∧(∀r∈l.take k,(r.cs.length:Int)≤s)∧Below w.heap.size w wr) (fun _ i _=>L-(intOf i).toNat)
 case atStart=>exact⟨0,_,kB _,rfl,rfl,by omega,by omega,(fun r hr=>by simp at hr),jU _ _⟩
 case round=>
  obtain⟨k,s,hk,rfl,rfl,hs1,hs2,hs3,hB⟩:=hrel;have HS3:=Hd hs3;have HB:=Hd hB;clear hs3 hB
  by_cases hlt:k<L
  rotate_left
  · obtain rfl:k=L:=by omega
    go_wp2
    go_ret
    refine⟨_,rfl,fun h=>?_,HB.o⟩;have h:=of_decide_eq_false h;refine⟨by have :=HLL.o;omega,fun r hr=>?_⟩;have :=HS3.o r (by rw[←HLL.o,List.take_length];exact hr);omega
  · by_cases hg:s≤400
    · obtain⟨b,off,r,rfl,hr,cr,cc,cz⟩:=HL.o.at_ (k:=k) qV2;have c0:=kZ HB.o cr.1;have hrz:=HC.o r (uW hr);have HT:=Hd (takeQ hr qJ HS3.o);obtain⟨rA,cs,cap,cont⟩:=r;simp only at c0 hrz HT;generalize cs.length=n at c0 hrz HT;obtain⟨q,hq⟩:∃q:Int,s+n=q:=⟨_,rfl⟩;rw[hq]at HT;have hwq:jE.wrap q=q:=jF _ qJ;have hq1:(L:Int)≤q:=by omega
      have hq2:q≤3000000:=by omega
      clear hr cr cc
      go_wp2
      go_roundw
      case rel=>exact⟨k+1,q,by omega,by go_num,rfl,hq1,hq2,HT.o,HB.o⟩
      case measure=>simp[intOf];omega
    · go_wp2
      go_ret
      exact⟨_,rfl,fun h=>absurd h qV,HB.o⟩
def fM(c:Cl):Cl:=if c.r=0∨c.half=3 then vE ⟨c.bk,c.bn⟩else c
def eL(l:List Cl):List Cl:=(uQ l).map fM
theorem iW(l:List Cl):(eL l).length=l.length:=by unfold eL;rw[List.length_map,uN]
def flI(l:List Cl)(i:Nat):List Cl:=(l.take i).map fM++l.drop i
theorem bD(l:List Cl)(i:Nat):(flI l i).length=l.length:=by unfold flI;simp;omega
theorem ZD(l:List Cl):flI l 0=l:=by simp[flI]
theorem UI{l:List Cl}{n:Nat}(h:l.length=n):flI l n=l.map fM:=by subst h;simp[flI]
theorem YN{l:List Cl}{i:Nat}{c:Cl}(h:l[i]? =some c):(flI l i)[i]? =some c:=by
 have hi:=(jP.1 h).1;unfold flI;rw[kT qY,gH,List.length_map,kS,show i+(i-min i l.length)=i by omega];exact h
theorem aE{l:List Cl}{i:Nat}{c:Cl}(h:l[i]? =some c):flI l (i+1)=(flI l i).set i (fM c):=by
 have hi:=(jP.1 h).1;have hc:=(jP.1 h).2;unfold flI;rw[List.set_append_right _ _ qY,List.length_map,kS,show i-min i l.length=0 by omega,List.drop_eq_getElem_cons hi,jX,List.take_add_one,h];simp
theorem ZF{l:List Cl}{i:Nat}{c:Cl}(h:l[i]? =some c)(hh:¬(c.r=0∨c.half=3)):flI l (i+1)=flI l i:=by
 rw[aE h,show fM c=c from if_neg hh];refine gU fun j=>?_;rw[List.getElem?_set]
 split
 · next e=>
   subst e;rw[if_pos (by rw[bD];exact(jP.1 h).1),YN h]
 · rfl
theorem fW{c:Cl}(h:c.r=0∨c.half=3):fM c=vE ⟨c.bk,c.bn⟩:=if_pos h
theorem fH{c:Cl}(h:¬(c.r=0∨c.half=3)):fM c=c:=if_neg h
theorem X8{fk fn bk bn fl:Int}(h:iL fk fn bk bn fl=true):iL 0 0 bk bn 0=true:=by
 unfold iL at h ⊢;simp only[Bool.and_eq_true]at h;rw[h.1.1.1.2];rfl
theorem Q8{c:Cl}(h:Ok7 c)(ha:iL c.fk c.fn c.bk c.bn c.fl=true):gL (fM c):=by
 by_cases hb:c.r=0∨c.half=3
 · rw[fW hb];exact⟨.inl ⟨rfl,rfl,rfl⟩,X8 ha,fun _=>⟨rfl,rfl,rfl⟩⟩
 · rw[fH hb];refine⟨?_,ha,fun h0=>absurd (.inl h0) hb⟩;rcases h with h3|h
   · exact absurd (.inr h3) hb
   · exact h
theorem YX{c:Cl}(h:c.half=0):(fM c).half=0:=by
 unfold fM
 split
 · rfl
 · exact h
theorem qJq{c:Cl}(h:Ok7 c)(hr:c.r=0)(h3:c.half≠3):c.half=0:=by
 rcases h with h|h|h
 · exact absurd h h3
 · exact h.2.2
 · exact absurd hr h.1
theorem tH:∀{l:List Cl},uQ l=l→(∀c∈l,Ok7 c)→uQ (l.map fM)=l.map fM
 |[],_,_=>rfl
 |[c],hm,hok=>by
  rw[List.map_cons,List.map_nil,cY]
  by_cases hb:c.r=0∨c.half=3
  · rw[fW hb,if_pos (.inl rfl)]
  · rw[fH hb];rw[cY]at hm
    split at hm
    · next h=>rw[if_pos h]
    · simp only[List.cons.injEq,and_true]at hm;exact absurd (.inl (by rw[←hm];rfl)) hb
 |c::d::l,hm,hok=>by
  by_cases h0:c.half=0
  · rw[zG h0]at hm;rw[List.map_cons,zG (YX h0),tH (List.cons.inj hm).2 (fun x hx=>hok x (List.mem_cons_of_mem _ hx))]
  · by_cases hp:yR c d=true
    · rw[iI hp]at hm;have hc:=hok c (List.mem_cons_self ..);have hp':=hp;unfold yR at hp';simp only[Bool.and_eq_true,decide_eq_true_eq]at hp';obtain⟨⟨p1,p2⟩,p3⟩:=hp';have hr:c.r=d.r:=by rw[p3]
      have hcr:¬(c.r=0∨c.half=3):=fun h=>by
       rcases h with h|h
       · exact h0 (qJq hc h qJ)
       · omega
      have hdr:¬(d.r=0∨d.half=3):=fun h=>by
       rcases h with h|h
       · exact hcr (.inl qJ)
       · omega
      rw[List.map_cons,List.map_cons,fH hcr,fH hdr,iI hp,tH (List.cons.inj (List.cons.inj hm).2).2 (fun x hx=>hok x (List.mem_cons_of_mem _ (List.mem_cons_of_mem _ hx)))]
    · rw[bW,if_neg h0,if_neg hp]at hm;have :=(List.cons.inj hm).1;exact absurd (by rw[←this];rfl) h0
theorem YZ{l:List Cl}(hm:uQ l=l)(hok:∀c∈l,Ok7 c)(ha:∀c∈l,iL c.fk c.fn c.bk c.bn c.fl=true):uQ (eL l)=eL l∧∀c∈eL l,gL c:=by
 unfold eL;rw[hm];refine⟨tH hm hok,fun c hc=>?_⟩;obtain⟨x,hx,rfl⟩:=List.mem_map.1 hc;exact Q8 (hok x hx) (ha x hx)
def rG(w:World)(r:Rh):Prop:=
 r.cs.length≤10000∧pZ kQ 8 w r.A r.cs∧(0<r.cs.length→∃b off cs f,r.A=some ⟨b,off,none⟩∧w.heap[b]? =some (.cells cs 65 f))
theorem rG.mod{X:List Nat}{w w':World}{r:Rh}(h:rG w r)(hm:Mod X w w')(hX:yH w X):rG w' r:=by
 obtain⟨h1,h3,h4⟩:=h
 by_cases h0:0<r.cs.length
 · obtain⟨b,off,cs,f,hA,hb⟩:=h4 h0;have hbX:b∉X:=fun hx=>hX b hx cs f hb;refine⟨h1,?_,fun _=>⟨b,off,cs,f,hA,(hm.block b (kN.1 hb).1 hbX).trans hb⟩⟩;rw[hA]at h3 ⊢;exact oO h3 hm hbX
 · exact⟨h1,fun h=>absurd h h0,fun h=>absurd h h0⟩
theorem rG.below{w w':World}{r:Rh}(h:rG w r)(hb:Below w.heap.size w w'):rG w' r:=h.mod (Mod.of_below (X:=[]) hb) (yH.nil w)
theorem rG.weak{w:World}{r:Rh}(h:rG w r):RcW w r:=⟨h.1,rV h.2.1⟩
def eE(base:Nat)(w:World)(v:Value)(L:List Rh):Prop:=w.ownsRow base 52 2 v L.length (uY gI L)∧∀r∈L,rG w r
theorem eE.below{base:Nat}{w w':World}{v:Value}{L:List Rh}(h:eE base w v L)(hb:Below w.heap.size w w'):eE base w' v L:=⟨kC h.1 (Mod.of_below (X:=[]) hb) (fun _ _ h=>by cases h),fun r hr=>(h.2 r hr).below hb⟩
theorem eE.push{base:Nat}{w w1:World}{v v':Value}{L:List Rh}{r:Rh}(h:eE base w v L)(ho:w1.ownsRow base 52 2 v' (L.length+1) (uY gI L++gI r))(hg:w.grownBy w1 v.ownBlock)(hr:rG w r):eE base w1 v' (L++[r]):=by
 have hm:Mod v.ownBlock.toList w w1:=Mod.of_grown hg (fun b hb=>by simp[hb]);have hn:yH w v.ownBlock.toList:=fun b hb cs f he=>by
  obtain⟨cur,hc⟩:=uD h.1 (jT.1 hb);exact vX hc he qZ rfl
 refine⟨by rw[uR,jC];exact ho,fun x hx=>?_⟩;rcases kM.1 hx with hx|hx
 · exact(h.2 x hx).mod hm hn
 · rw[jW.1 hx];exact hr.mod hm hn
theorem eE.nil(base:Nat)(w:World):eE base w (.slice none 0 0) []:=⟨kD _ _ _ _,fun r hr=>by cases hr⟩
theorem eE.form{base:Nat}{w:World}{v:Value}{L:List Rh}(h:eE base w v L):∃A c,v=.slice A L.length c∧pZ gI 2 w A L:=by
 rcases Nat.eq_zero_or_pos L.length with h0|h0
 · rcases h.1.2 with⟨e,-⟩|⟨g',c',cur,e,_,_,_⟩
   · exact⟨none,0,by rw[e,h0],fun h=>by omega⟩
   · exact⟨_,c',e,fun h=>by omega⟩
 · obtain⟨g,c,hv⟩:=gV h.1 h0;subst hv;exact⟨_,c,rfl,Kj zM h.1⟩
def rwOf(r:Rh):Rw:=⟨r.A,r.cs,r.cap,r.cont⟩
theorem WB{w:World}{A:Option Addr}{L:List Rh}(h:pZ gI 2 w A L)(hr:∀r∈L,rG w r):bM w A (L.map rwOf):=fun h0=>by
 rw[List.length_map]at h0;obtain⟨b,off,hA,hc⟩:=h h0;refine⟨b,off,hA,fun i q hq=>?_⟩;rw[uV]at hq;obtain⟨r,hg,rfl⟩:=Option.map_eq_some_iff.1 hq;have h1:=hr r (uW hg);exact⟨⟨hc i r hg 0 _ rfl,hc i r hg 1 _ rfl⟩,rV h1.2.1,by show r.cs.length≤_;have :=h1.1;omega⟩
def bZ(rows:List Rw):List Ro:=rows.map fun r=>mkR (eL r.cs)
theorem nI{rows:List Rw}{k:Nat}{r:Rw}(h:rows[k]? =some r):bZ (rows.take (k+1))=bZ (rows.take k)++[mkR (eL r.cs)]:=by
 unfold bZ;rw[List.take_add_one,h,uE];rfl
theorem ZB{rows:List Rw}{L:List Rh}{cols:Nat}(hL:L.map yW=bZ rows)(h0:0<rows.length)(hz:rows.length≤400)(hc:2≤cols)(hc2:cols≤1000)(hr:∀r∈rows,r.cs.length=cols∧uQ r.cs=r.cs∧(∀c∈r.cs,Ok7 c)∧∀c∈r.cs,iL c.fk c.fn c.bk c.bn c.fl=true):rU (L.map rwOf) cols:=by
 have hlen:L.length=rows.length:=by have :=congrArg List.length hL;unfold bZ at this;simpa using this
 refine⟨by rw[List.length_map];omega,by rw[List.length_map];omega,hc,hc2,fun q hq=>?_⟩;obtain⟨x,hx,rfl⟩:=List.mem_map.1 hq;have h1:yW x∈L.map yW:=List.mem_map_of_mem hx;rw[hL]at h1;unfold bZ at h1;obtain⟨r,hr',e⟩:=List.mem_map.1 h1;have e1:x.cs=eL r.cs:=(congrArg Ro.cs e).symm;obtain⟨g1,g2,g3,g4⟩:=hr r hr';have g5:=YZ g2 g3 g4;show x.cs.length=cols∧uQ x.cs=x.cs∧∀c∈x.cs,gL c;rw[e1];exact⟨by rw[iW];exact g1,g5⟩
theorem wT{P:Program}{t ty e:TypeId}{i:TypeInfo}(ht:P.underlying t=some (.slice e))(hi:P.info? e=some i)(X:Option Addr)(c:Nat)(w:World):
 (Builtin.append_ #[t,t] ty #[.slice none 0 0,.slice X 0 c]).run P w=.ok (.slice none 0 0) w:=by
 cases X<;>simp[Builtin.append_,run_underlying ht,sizeOf,typeInfo,hi,Builtin.lenOf,Builtin.firstCells,loadCells,loadCellsFrom]
theorem lC{P:Program}{ops:Array Oper}{rest:List Oper}{o:Oper}{a:Act}{w:World}{Q:Exit→Act→World→Prop}(hgd:o.guard=none)(s x:Operand)(t:TypeId)(ho:o.op=.call {callee:=.builtin .append,args:=#[s,x],argTypes:=#[t,t]})
 {e:TypeId} {i:TypeInfo} (ht:P.underlying t=some (.slice e)) (hi:P.info? e=some i) (X:Option Addr) (c:Nat) (hs:a.eval s=.slice none 0 0) (hx:a.eval x=.slice X 0 c)
 (h:wpList P ops Q rest (a.put o.dst (.slice none 0 0)) w):wpList P ops Q (o::rest) a w:=by
 refine wpList_plain hgd fun K hK=>?_;unfold Oper.wp execOp;simp only[ho,resolve,invoke,builtin,Sem.run_bind,Sem.run_pure,Result.andThen_ok,List.map_toArray,List.map_cons,List.map_nil,hs,hx,wT ht hi X c w];exact hK _ _ h
theorem Zq(w:World):Calls jG 172 #[.slice none 0 0] w (fun e w'=>e=.returned (.tuple #[])∧w=w'):=by
 go_enter Tryz.func172,Tryz.ntmps172
 go_wp2_with fail
 go_loopw [2] (fun s2 wr=>s2=.int .i64 0∧w=wr) (fun _ _=>0)
 case atStart=>exact⟨rfl,rfl⟩
 case round=>
  obtain⟨rfl,rfl⟩:=hrel
  go_wp2
  go_end0
  exact⟨rfl,rfl⟩
theorem Zk(A:Option Addr)(ca:Nat)(w:World):Calls jG 56 #[.slice A 0 ca] w (fun e w'=>e=.returned (.slice none 0 0)∧w=w'):=by
 obtain⟨j0,hj,gz0,gz1,gz2⟩:=info_parts eC;have HM:=Hd (fun w=>Zq w);have HD:Hid (∀w,Calls jG 105 #[.slice none 0 0] w (fun e w'=>e=.returned (.tuple #[])∧w=w')):=Hd (fun w=>JL _ w);have HW:Hid (Calls jG 104 #[.slice A 0 ca,.func (.func 105) #[] #[]] w (fun e w'=>e=.returned (.slice none 0 0)∧w=w')):=Hd (by
  go_enter Tryz.func104,Tryz.ntmps104
  go_upto_region 1 with fail
  refine wp_region_lit ?_;refine jB (.slice A 0 ca) qK qK ?_;simp only[Act.put,jZ,jX,jY];refine lC (P:=jG) rfl (.const (.slice none 0 0)) (.tmp 6) 50 rfl Tryz.underlying50 hj A ca rfl rfl ?_;simp only[Act.put,jZ,jX,jY]
  go_wp2_with(first
   |(go_at_call 172;(with_reducible refine(HM.o _).mono ?_);rintro e w1 ⟨rfl,rfl⟩)
   |((with_reducible refine(HD.o _).mono ?_);rintro e w1 ⟨rfl,rfl⟩))
  go_ret
  exact⟨rfl,rfl⟩)
 go_enter Tryz.func56,Tryz.ntmps56
 go_wp2_with(go_at_call 104;refine HW.o.mono ?_;rintro e w1 ⟨rfl,rfl⟩)
 go_ret
 exact⟨rfl,rfl⟩
def qK1(l:List Cl)(n:Nat)(w:World)(e:Ending)(w':World):Prop:=∃A c,e=.returned (.slice A n c)∧w'.ownsRow w.heap.size 65 8 (.slice A n c) n (uY kQ l)∧Below w.heap.size w w'
theorem Ye(A:Option Addr)(l:List Cl)(n ca:Nat)(w:World)(hn:l.length=n)(hl:pZ kQ 8 w A l)(hz:n≤10000):
 Calls jG 56 #[.slice A n ca] w (qK1 (uQ l) n w):=by
 subst hn
 by_cases h0:0<l.length
 · refine(Jo A l ca w hl h0 hz).mono ?_;rintro e w' ⟨g,cap,rfl,hc,hb⟩;unfold CrO at hc;rw[uN]at hc ⊢;exact⟨_,cap,rfl,hc,hb⟩
 · have :l=[]:=List.length_eq_zero_iff.1 qJ;subst this;refine(Zk A ca w).mono ?_;rintro e w' ⟨rfl,rfl⟩;exact⟨none,0,rfl,kD _ _ _ _,jU _ _⟩
theorem rG.of_owns{w:World}{base n c:Nat}{A:Option Addr}{l:List Cl}(h:w.ownsRow base 65 8 (.slice A n c) n (uY kQ l))(hn:l.length=n)(hz:n≤10000)(b:Bool):rG w ⟨A,l,c,b⟩:=by
 subst hn;refine⟨hz,Kj uF h,fun h0=>?_⟩;obtain⟨g,cap,hv⟩:=gV h h0;simp only[Value.slice.injEq,true_and]at hv;obtain⟨hA,hc⟩:=hv;subst hA;obtain⟨cur,hcur⟩:=uD h (g:=g) rfl;exact⟨g,0,cur,(0,0),rfl,hcur⟩
def Zx(rows:List Rw)(w:World)(e:Ending)(w':World):Prop:=∃v L,e=.returned v∧eE w.heap.size w' v L∧L.map yW=bZ rows∧Below w.heap.size w w'
set_option maxHeartbeats 6400000 in
theorem V3(A:Option Addr)(rows:List Rw)(ca:Nat)(w:World)(hl:bM w A rows)(hz:rows.length≤400)(hcz:∀r∈rows,r.cs.length≤400):
 Calls jG 28 #[.slice A rows.length ca] w (Zx rows w):=by
 obtain⟨i0,hi,hz0,hz1,hz2⟩:=info_parts tU;have HL:=Hd hl;have HC:=Hd hcz;obtain⟨L,hL⟩:∃L,rows.length=L:=⟨_,rfl⟩;have HLL:=Hd hL;rw[hL]at hz ⊢;clear hl hcz hL
 go_enter Tryz.func28,Tryz.ntmps28
 go_wp2_with fail
 go_loopw [3,11] (fun s3 s11 wr=>∃(k:Nat) (R:List Rh),s11=.int .i64 k∧k≤L∧eE w.heap.size wr s3 R∧R.map yW=bZ (rows.take k)∧Below w.heap.size w wr) (fun _ s11 _=>L-(intOf s11).toNat)
 case atStart=>exact⟨0,[],rfl,kB _,eE.nil _ _,rfl,jU _ _⟩
 case round=>
  obtain⟨k,R,rfl,hk,hO,hR,hB⟩:=hrel;obtain⟨bx,rfl⟩:∃bx:Value×Unit,u3=bx.1:=⟨(u3,()),rfl⟩;have HO:=Hd hO;have HR:=Hd hR;have HB:=Hd hB;clear hO hR hB
  by_cases hlt:k<L
  rotate_left
  · obtain rfl:k=L:=by omega
    go_wp2
    go_ret
    exact⟨_,R,rfl,HO.o,by rw[HR.o,←HLL.o,List.take_length],HB.o⟩
  · obtain⟨b,off,r,rfl,hr,cr,cc,cz⟩:=HL.o.at_ (k:=k) (by rw[HLL.o];exact hlt);have HRK:=Hd (nI hr);have hrz:=HC.o r (uW hr);have HRL:Hid (R.length=k):=Hd qL;have c0:=kZ HB.o cr.1;have cq:=kZ HB.o cr.2;have HCC:=Hd (cc.below HB.o);obtain⟨rA,cs,cap,cont⟩:=r;simp only at c0 cq hrz HCC HRK;obtain⟨n,hn⟩:∃n,cs.length=n:=⟨_,rfl⟩;rw[hn]at c0 hrz;have HN:=Hd hn;clear hr cr cc cz hn;obtain⟨wx,hwx⟩:∃wx,wr.alloc (.cells #[.slice rA n cap,.bool cont] 52)=wx:=⟨_,rfl⟩;have hbx:Below wr.heap.size wr wx:=by rw[←hwx];exact jH (jU _ _) _
    have HM:=Hd (Ye rA cs n cap wx HN.o (iX (HCC.o.below hbx)) qJ);have HBX:=Hd (jM HB.o hbx);have HOX:=Hd (HO.o.below hbx);have HMZ:=Hd (show(uQ cs).length=n by rw[uN];exact HN.o);have HFL:=Hd (show(uQ cs).map fM=eL cs from rfl);generalize uQ cs=M at HM HMZ HFL;have HWX:=Hd hwx;clear hbx hwx HCC
    go_upto_region 5 with fail
    rw[HWX.o];have hcell:wx.cell? ⟨wr.heap.size,0,none⟩=some (.slice rA n cap):=by rw[←HWX.o];exact(at_ (jA rfl) 0 _ rfl).1
    go_upto_region 7 with(go_at_call 56;(with_reducible refine HM.o.mono ?_);rintro e w1 ⟨A1,c1,rfl,ho1,hb1⟩;have HO1:=Hd ho1;have HB1:=Hd hb1;clear ho1 hb1)
    clear hcell c0 cq
    go_loopw [20] (fun s20 wi=>∃i:Nat,s20=.int .i64 i∧i≤n∧wi.ownsRow wx.heap.size 65 8 (.slice A1 n c1) n (uY kQ (flI M i))∧Below wx.heap.size w1 wi) (fun s20 _=>n-(intOf s20).toNat)
    case atStart=>exact⟨0,rfl,kB _,by rw[ZD];exact HO1.o,jU _ _⟩
    case round=>
     obtain⟨i,rfl,hi',hOi,hBi⟩:=hrel;have HBi:=Hd hBi
     by_cases hlti:i<n
     rotate_left
     · obtain rfl:i=n:=by omega
       rw[UI HMZ.o,HFL.o]at hOi;have HOi:=Hd hOi;clear hOi hBi;have HO9:=Hd (HOX.o.below (HB1.o.trans HBi.o));have HB9:=Hd (jM HBX.o (HB1.o.trans HBi.o));have HRQ:=Hd (rG.of_owns HOi.o (by rw[iW];exact HN.o) qJ false);have HEN:Hid (gI ⟨A1,eL cs,c1,false⟩=[.slice A1 i c1,.bool false]):=Hd (by unfold gI;rw[iW,HN.o]);have hsz9:=HB9.o.size;have hRl:=HRL.o
       go_wp2_with(at_builtin;refine vP rfl _ _ 46 rfl w.heap.size 52 i0 _ 2 32 Tryz.underlying46 hi hz0 hz1 hz2 rfl qZ bx.1 R.length (uY gI R) rfl (HO9.o.1.alloc _) ⟨wr.heap.size,0,none⟩ 1 1 [.slice A1 i c1,.bool false] rfl rfl (lY _ _ _ _) (KR _ _ _) qU qJ qY ?_;intro v' w2 hown' hgrow _;have HOW:=Hd hown';have HGR:=Hd hgrow;clear hown' hgrow)
       go_roundw
       case rel=>
        have hbA:=jH (jU wr.heap.size wr) (.cells #[.slice A1 i c1,.bool false] 52);have h1:=(HO9.o.below hbA).push (r:=⟨A1,eL cs,c1,false⟩) (v':=v') (by rw[HEN.o];exact HOW.o) HGR.o (HRQ.o.below hbA);exact⟨k+1,_,by go_num,by omega,h1,by rw[HRK.o,uE,HR.o];rfl,(jH HB9.o (.cells #[.slice A1 i c1,.bool false] 52)).grown HGR.o qY (fun q hq=>((HO9.o.below hbA).1.lt q hq).1)⟩
       case measure=>simp[intOf];omega
     · have hltI:(i:Int)<(n:Int):=by omega
       have hil:i<M.length:=by rw[HMZ.o];exact hlti
       obtain⟨c,hc⟩:∃c,M[i]? =some c:=⟨M[i],jN hil⟩;have hg:pZ kQ 8 wr A1 (flI M i):=Kj uF (n:=n) (c:=c1) (base:=wx.heap.size) (e:=65) (by rw[bD,HMZ.o];exact hOi);have hiu:i<(flI M i).length:=by rw[bD];exact hil
       obtain⟨g,hA1⟩:∃g,A1=some ⟨g,0,none⟩:=by
        obtain⟨g,cap,hv⟩:=gV hOi qJ;simp only[Value.slice.injEq]at hv;exact⟨g,hv.1⟩
       subst hA1;obtain⟨b2,off2,c',hA2,hc2,hcell2⟩:=hg.at_ hiu;simp only[Option.some.injEq,Addr.mk.injEq,and_true]at hA2;obtain⟨rfl,rfl⟩:=hA2;rw[YN hc]at hc2;obtain rfl:=Option.some.inj hc2;have HUS:=Hd (aE hc);have HUM:=Hd (ZF hc);have hcro:CrO wr wx.heap.size g c1 (flI M i):=by unfold CrO;rw[bD,HMZ.o];exact hOi
       have d0:=hcell2 0 _ rfl;have d1:=hcell2 1 _ rfl;have d2:=hcell2 2 _ rfl;have d3:=hcell2 3 _ rfl;have d4:=hcell2 4 _ rfl;have d5:=hcell2 5 _ rfl;have d6:=hcell2 6 _ rfl;have d7:=hcell2 7 _ rfl;simp only[uS,kP]at d0 d1 d2 d3 d4 d5 d6 d7;have hwi:jE.wrap ((i:Int)+1)=(i:Int)+1:=jF _ qJ;obtain⟨xr,xm,xh,x1,x2,x3,x4,x5⟩:=c;simp only at d0 d1 d2 d3 d4 d5 d6 d7;obtain⟨W9,hW9⟩:∃W9,wr.alloc (.cells #[.int .i32 xr,.string xm,.int .i64 xh,.int .i64 x1,.int .i64 x2,.int .i64 x3,.int .i64 x4,.int .i64 x5] 65)=W9:=⟨_,rfl⟩;have hb9:Below wr.heap.size wr W9:=by rw[←hW9];exact jH (jU _ _) _
       have hwsz:wx.heap.size≤wr.heap.size:=jI HB1.o.size HBi.o.size;have HB9:=Hd (HBi.o.trans (hb9.mono hwsz));have HC9:=Hd (hcro.below hb9);have HN9:=Hd (show W9.heap[wr.heap.size]? =some (.cells #[.int .i32 xr,.string xm,.int .i64 xh,.int .i64 x1,.int .i64 x2,.int .i64 x3,.int .i64 x4,.int .i64 x5] 65 (0,0))from by rw[←hW9];exact jA rfl);have HW9:=Hd hW9;have HIL:=Hd hiu;have HSZ9:=Hd (jI hwsz hb9.size);clear hOi hBi hg hcro hc hc2 hcell2 hil hiu hb9 hW9 hwsz
       go_upto_region 9 with fail
       rw[HW9.o];have e0:=(at_ HN9.o 0 _ rfl).1;have e2:=(at_ HN9.o 2 _ rfl).1;have e5:=(at_ HN9.o 5 _ rfl).1;have e6:=(at_ HN9.o 6 _ rfl).1;clear d0 d1 d2 d3 d4 d5 d6 d7
       by_cases hh:xr=0∨xh=3
       · have HTH:=Hd (HC9.o.there HIL.o);obtain⟨q1,q2⟩:=HC9.o.set HIL.o (vE ⟨x3,x4⟩);have hg1:=HC9.o.lt.1;have Q1:=Hd q1;have Q2:=Hd (HB9.o.trans (q2.below (fun x hx=>by rw[jW.1 hx];exact hg1) HSZ9.o));have HFB:=Hd (fW (c:=⟨xr,xm,xh,x1,x2,x3,x4,x5⟩) hh);clear q1 q2;rcases Decidable.em (xr=0)with hx0|hx0
         · have hrb:(xr==0)=true:=by simp[hx0]
           clear hh hx0
           go_wp2_with(refine wpList_store_mid (op:=⟨none,.store 65 (.tmp 40) (.tmp 39),_,_,_,_⟩) rfl 65 (.tmp 40) (.tmp 39) rfl g (i*8) (kQ (vE ⟨x3,x4⟩)).toArray rfl rfl HTH.o uG (pA (vE ⟨x3,x4⟩)) ?_)
           go_roundw
           case rel=>
            refine⟨i+1,by go_num,by omega,?_,Q2.o⟩;have h1:=Q1.o;unfold CrO at h1;rw[kI,bD,HMZ.o]at h1;rw[HUS.o,HFB.o];exact h1
           case measure=>simp[intOf];omega
         · have hrb:(xr==0)=false:=by simp[hx0]
           have hhb:(xh==3)=true:=by simp;exact hh.resolve_left hx0
           clear hh hx0
           go_wp2_with(refine wpList_store_mid (op:=⟨none,.store 65 (.tmp 40) (.tmp 39),_,_,_,_⟩) rfl 65 (.tmp 40) (.tmp 39) rfl g (i*8) (kQ (vE ⟨x3,x4⟩)).toArray rfl rfl HTH.o uG (pA (vE ⟨x3,x4⟩)) ?_)
           go_roundw
           case rel=>
            refine⟨i+1,by go_num,by omega,?_,Q2.o⟩;have h1:=Q1.o;unfold CrO at h1;rw[kI,bD,HMZ.o]at h1;rw[HUS.o,HFB.o];exact h1
           case measure=>simp[intOf];omega
       · have hrb:(xr==0)=false:=by simp;exact fun h=>hh (.inl h)
         have hhb:(xh==3)=false:=by simp;exact fun h=>hh (.inr h)
         have HH:=Hd (HUM.o hh);clear hh
         go_wp2
         go_roundw
         case rel=>
          refine⟨i+1,by go_num,by omega,?_,HB9.o⟩;rw[HH.o];have h1:=HC9.o;unfold CrO at h1;rw[bD,HMZ.o]at h1;exact h1
         case measure=>simp[intOf];omega
set_option maxHeartbeats 1600000 in
theorem tA(b:Col)(w:World):Calls jG 33 #[.agg #[.int .i64 b.k,.int .i64 b.n]] w (QI (vE b) w):=by
 have HB0:=Hd (jH (jH (jU w.heap.size w) (.cells #[.int .i64 b.k,.int .i64 b.n] 61)) (.cells (kQ (gM ⟨0,0,0,0,0⟩)).toArray 65));have HT0:=Hd (pX (cs:=(kQ (gM ⟨0,0,0,0,0⟩)).toArray) (w:=(w.alloc (.cells #[.int .i64 b.k,.int .i64 b.n] 61)).alloc (.cells (kQ (gM ⟨0,0,0,0,0⟩)).toArray 65)) (g:=w.heap.size+1) (jA qV))
 go_enter Tryz.func33,Tryz.ntmps33
 go_wp2_with(refine wpList_store_mid (op:=⟨none,.store 65 (.tmp 2) (.tmp 5),_,_,_,_⟩) rfl 65 (.tmp 2) (.tmp 5) rfl (w.heap.size+1) 0 (kQ (vE b)).toArray rfl rfl HT0.o uG (pA (vE b)) ?_)
 exact bodyPost_ret (aQ rfl _ _ (w.heap.size+1) (vE b) rfl (World.rangeAt_setCells_same _ _ _ _ HT0.o)) rfl ⟨rfl,gG HB0.o qJ _ _⟩
theorem tT(A:Option Addr)(ca:Nat)(w:World):Calls jG 30 #[.slice A 0 ca] w (fun e w'=>e=.returned (.slice none 0 0)∧w=w'):=by
 go_enter Tryz.func30,Tryz.ntmps30
 go_wp2_with fail
 go_loopw [3,5] (fun s3 s5 wr=>s3=.slice none 0 0∧s5=.int .i64 0∧w=wr) (fun _ _ _=>0)
 case atStart=>exact⟨rfl,rfl,rfl⟩
 case round=>
  obtain⟨rfl,rfl,rfl⟩:=hrel
  go_wp2
  go_ret
  exact⟨rfl,rfl⟩
theorem Xv(A:Option Addr)(l:List Cl)(n ca:Nat)(w:World)(hn:l.length=n)(hl:pZ kQ 8 w A l)(hz:n≤10000):
 Calls jG 30 #[.slice A n ca] w (qK1 (uQ l) n w):=by
 subst hn
 by_cases h0:0<l.length
 · refine(JG A l ca w hl h0 hz).mono ?_;rintro e w' ⟨g,cap,rfl,hc,hb⟩;unfold CrO at hc;rw[uN]at hc ⊢;exact⟨_,cap,rfl,hc,hb⟩
 · have :l=[]:=List.length_eq_zero_iff.1 qJ;subst this;refine(tT A ca w).mono ?_;rintro e w' ⟨rfl,rfl⟩;exact⟨none,0,rfl,kD _ _ _ _,jU _ _⟩
theorem Vj(A:Option Addr)(ca:Nat)(w:World):Calls jG 57 #[.slice none 0 0,.slice A 0 ca] w (fun e w'=>e=.returned (.bool true)∧Below w.heap.size w w'):=by
 have :=fE none A [] [] 0 ca w (fun h=>absurd h qV) (fun h=>absurd h qV) qV qV;exact this
theorem KM(A:Option Addr)(ca:Nat)(w:World):Calls jG 31 #[.slice A 0 ca] w (fun e w'=>e=.returned (.bool true)∧Below w.heap.size w w'):=by
 have HM:=Hd (tT A ca w);have HS:=Hd (fun w=>Vj A ca w)
 go_enter Tryz.func31,Tryz.ntmps31
 go_wp2_with(first|(go_at_call 30;(with_reducible refine HM.o.mono ?_);rintro e w1 ⟨rfl,rfl⟩)|(go_at_call 57;(with_reducible refine(HS.o _).mono ?_);rintro e w2 ⟨rfl,hb2⟩;have HB2:=Hd hb2;clear hb2))
 go_loopw [3] (fun i wr=>i=.int .i64 0∧Below w.heap.size w wr) (fun _ _=>0)
 case atStart=>exact⟨rfl,HB2.o⟩
 case round=>
  obtain⟨rfl,hB⟩:=hrel
  go_wp2
  go_ret
  exact⟨rfl,hB⟩
theorem Vk(A:Option Addr)(l:List Cl)(n ca:Nat)(w:World)(hn:l.length=n)(hl:zL w A l)(hz:n≤1000)(hmz:∀c∈l,c.more.size≤1048576):
 Calls jG 31 #[.slice A n ca] w (Zs l w):=by
 subst hn
 by_cases h0:0<l.length
 · exact VC A l ca w hl h0 hz hmz
 · have :l=[]:=List.length_eq_zero_iff.1 qJ;subst this;refine(KM A ca w).mono ?_;rintro e w' ⟨rfl,hb⟩;exact⟨true,rfl,fun _=>⟨rfl,fun c hc=>by cases hc⟩,hb⟩
end Go.Proofs.YtaefcahblmopfaaGreatDoor
