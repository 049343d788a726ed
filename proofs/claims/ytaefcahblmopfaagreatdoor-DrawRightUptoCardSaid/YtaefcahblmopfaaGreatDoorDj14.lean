/- Joined by a tool of this claim out of smaller texts. Conditions: as stated. -/
import Derived.Test.YtaefcahblmopfaaGreatDoorDj13
set_option linter.unusedVariables false
set_option linter.unusedSimpArgs false
set_option maxRecDepth 100000
open Go.Lib renaming hid → Hd
open List renaming setIfInBounds_toArray → jZ, set_cons_zero → jX, set_cons_succ → jY, mem_singleton → jM, getElem?_eq_getElem → jN, getElem?_eq_some_iff → jP, mem_cons → kJ, getD_eq_getElem?_getD → kX, mem_append → kU, length_take → kC, getElem?_map → uX, mem_of_getElem? → uB, getElem?_drop → gN
open Go.Proofs.Tryz renaming prog → jG
open Go.RowKit.Below renaming refl → jU
open Nat renaming le_refl → jD, le_trans → jI, zero_le → kM
open Go.IntWalk renaming i64_in → jF
open Option renaming mem_toList → jA
open Go.IntKind renaming i64 → jE
open And renaming intro → kY
open ByteArray renaming empty → kH
open Array renaming getElem?_eq_some_iff → kB
open Go.World renaming ownsRow_nil → kS
namespace Go.Proofs.YtaefcahblmopfaaGreatDoor
open Go.RowKit
theorem BsS.take{w:World}{g off:Nat}{xs:List Int}(h:BsS w g off xs)(k:Nat):BsS w g off (xs.take k):=fun i x hx=>by
 rw[List.getElem?_take]at hx
 split at hx
 · exact h i x hx
 · cases hx
theorem scal_of(r:Int)(xs:List Int)(h0:0<xs.length)(h:vD r=strOfNums xs):vE r=true:=by
 cases hs:vE r with
 |true=>rfl
 |false=>
  exfalso;have h1:(vD r).size=xs.length:=by rw[h,gJ]
  rw[show vD r=kH from by unfold vD;rw[hs];rfl]at h1;have :kH.size=0:=rfl;omega
def WV(n:Nat)(w:World)(e:Ending)(w':World):Prop:=∃(r:Int) (m:Nat),e=.returned (.tuple #[.int .i32 r,.int .i64 m])∧vE r=true∧1≤m∧m≤n∧Below w.heap.size w w'
set_option maxHeartbeats 3200000 in
theorem qJs(g off ca:Nat)(xs:List Int)(w:World)(hx:∀x∈xs,0≤x∧x<256)(h0:0<xs.length)(hca:xs.length≤ca)(hcm:xs.length≤2000000)(hb:BsS w g off xs):
 Calls jG 173 #[.slice (some ⟨g,off,none⟩) xs.length ca] w (WV xs.length w):=by
 have HI:Hid (∀(k:Nat) (w':World),1≤k→k≤4→k≤xs.length→Below w.heap.size w w'→Calls jG 264 #[.slice (some ⟨g,off,none⟩) k ca] w' (UE (xs.take k) w')):=Hd (fun k w' h1 h2 h3 hB=>by
  have :=Uz g off ca (xs.take k) w' (fun x hx'=>hx x (List.mem_of_mem_take hx')) qN qN ((hb.take k).below hB)
  rwa[kC,Nat.min_eq_left h3]at this)
 have HN:Hid (∀(k:Nat) (w':World),1≤k→k≤4→k≤xs.length→Below w.heap.size w w'→Calls jG 265 #[.slice (some ⟨g,off,none⟩) k ca] w' fun e w2=>e=.returned (.int .i32 (bL (xs.take k)))∧Below w'.heap.size w' w2):=Hd (fun k w' h1 h2 h3 hB=>by
  have :=cG g off ca (xs.take k) w' (fun x hx'=>hx x (List.mem_of_mem_take hx')) qN qN ((hb.take k).below hB)
  rwa[kC,Nat.min_eq_left h3]at this)
 have HG:Hid (∀(k:Nat) (w':World),1≤k→k≤3→k≤xs.length→Below w.heap.size w w'→Calls jG 266 #[.slice (some ⟨g,off,none⟩) k ca] w' (XE w')):=Hd (fun k w' h1 h2 h3 hB=>by
  have :=Vw g off ca (xs.take k) w' (fun x hx'=>hx x (List.mem_of_mem_take hx')) qN qN ((hb.take k).below hB)
  rwa[kC,Nat.min_eq_left h3]at this)
 have HSC:Hid (∀k,1≤k→k≤xs.length→vD (bL (xs.take k))=strOfNums (xs.take k)→vE (bL (xs.take k))=true):=Hd (fun k h1 h2 h=>scal_of _ _ qN h);obtain⟨n,hn⟩:∃n,n=xs.length:=⟨_,rfl⟩;rw[←hn]at HI HN HG HSC h0 hca hcm ⊢;clear hx hb hn
 go_enter Tryz.func173,Tryz.ntmps173
 go_wp2_with fail
 go_loopw [4] (fun i wr=>∃k:Nat,1≤k∧k≤5∧k≤n+1∧i=.int .i64 k∧Below w.heap.size w wr) (fun i _=>6-(intOf i).toNat)
 case atStart=>exact⟨1,by omega,by omega,by omega,rfl,jU _ _⟩
 case round=>
  obtain⟨k,hk1,hk2,hk3,rfl,hB⟩:=hrel
  by_cases hlt:k≤4∧k≤n
  · obtain⟨hl1,hl2⟩:=hlt;have HI1:=Hd (HI.o k wr hk1 hl1 hl2 hB)
    go_wp2_with(first|(go_at_call 264;(with_reducible refine HI1.o.mono ?_);rintro e w1 ⟨t,rfl,ht,hb1⟩;have HT:=Hd ht;clear ht)|(go_at_call 265;(with_reducible refine(HN.o k _ hk1 hl1 hl2 (jW hB hb1)).mono ?_);rintro e w2 ⟨rfl,hb2⟩))
    all_goals
     first
     |exact⟨⟨k+1,by omega,by omega,by omega,by go_num,jW hB hb1⟩,by simp[intOf];omega⟩
     |(go_ret2;exact⟨_,_,rfl,HSC.o k hk1 hl2 (HT.o qZu).2,hk1,hl2,jW (jW hB hb1) hb2⟩)
  · clear HI HN HSC;have hex:(k≤4∧n<k)∨(4<k∧4<k):=by omega
    rcases hex with⟨hex,hex2⟩|⟨hex,hex2⟩
    all_goals
     go_wp2_with fail
     try simp only[show decide (k≤n)=false from decide_eq_false qJ]
     go_loopw [5,6] (fun s i w5=>∃m j:Nat,1≤m∧m≤n∧1≤j∧j≤4∧j≤n+1∧s=.int .i64 m∧i=.int .i64 j∧Below w.heap.size w w5) (fun _ i _=>6-(intOf i).toNat)
     case atStart=>exact⟨1,1,by omega,by omega,by omega,by omega,by omega,rfl,rfl,hB⟩
     case round=>
      obtain⟨m,j,hm1,hm2,hj1,hj2,hj3,rfl,rfl,hB5⟩:=hrel
      by_cases hlj:j≤3∧j≤n
      · obtain⟨hj4,hj5⟩:=hlj;have HG1:=Hd (HG.o j _ hj1 hj4 hj5 hB5)
        go_wp2_with(go_at_call 266;(with_reducible refine HG1.o.mono ?_);rintro e w6 ⟨⟨t,rfl⟩,hb6⟩)
        all_goals
         first
         |exact⟨⟨m,j+1,by omega,by omega,by omega,by omega,by omega,rfl,by go_num,jW hB5 hb6⟩,by simp[intOf];omega⟩
         |(go_roundw
           case rel=>exact⟨j,j+1,by omega,by omega,by omega,by omega,by omega,rfl,by go_num,jW hB5 hb6⟩
           case measure=>simp[intOf];omega)
      · go_wp2
        all_goals
         go_ret2
         exact⟨_,_,rfl,by decide,hm1,hm2,hB5⟩
theorem BsS.drop{w:World}{g off:Nat}{xs:List Int}(h:BsS w g off xs)(i:Nat):BsS w g (off+i) (xs.drop i):=fun j x hx=>by
 rw[gN]at hx;have :=h (i+j) x hx
 rwa[←Nat.add_assoc]at this
def KT(n:Nat)(w:World)(e:Ending)(w':World):Prop:=∃(v:Value) (L:List Int),e=.returned v∧w'.ownsRow w.heap.size 21 1 v L.length (L.map (.int .i32))∧(∀r∈L,vE r=true)∧L.length≤n∧Below w.heap.size w w'
set_option maxHeartbeats 3200000 in
theorem Wa(g off ca:Nat)(xs:List Int)(w:World)(hx:∀x∈xs,0≤x∧x<256)(hca:xs.length≤ca)(hcm:xs.length≤2000000)(hb:BsS w g off xs):
 Calls jG 109 #[.slice (some ⟨g,off,none⟩) xs.length ca] w (KT xs.length w):=by
 obtain⟨n,hn⟩:∃n,n=xs.length:=⟨_,rfl⟩;have HO:Hid (∀(i:Nat) (w':World),i<n→Below w.heap.size w w'→Calls jG 173 #[.slice (some ⟨g,off+i,none⟩) (n-i) (ca-i)] w' (WV (n-i) w')):=Hd (fun i w' h1 hB=>by
  have :=qJs g (off+i) (ca-i) (xs.drop i) w' (fun x hx'=>hx x (List.mem_of_mem_drop hx')) qR qR qR ((hb.drop i).below hB)
  rwa[List.length_drop,←hn]at this)
 rw[←hn]at hca hcm ⊢;clear hx hb hn;obtain⟨i0,hi,hz0,hz1,hz2⟩:=info_parts nM
 go_enter Tryz.func109,Tryz.ntmps109
 go_wp2_with fail
 go_loopw [0,3] (fun s o wr=>∃(i:Nat) (L:List Int) (A:Option Addr),i≤n∧(i<n→A=some ⟨g,off+i,none⟩)∧s=.slice A (n-i) (ca-i)∧wr.ownsRow w.heap.size 21 1 o L.length (L.map (.int .i32))∧(∀r∈L,vE r=true)∧L.length≤i∧Below w.heap.size w wr) (fun s _ _=>match s with | .slice _ m _=>m|_=>0)
 case atStart=>exact⟨0,[],_,kM _,fun _=>rfl,rfl,kS _ _ _ _,by simp,jD _,jU _ _⟩
 case round=>
  obtain⟨i,L,A,hin,hA,rfl,ho,hL,hLi,hB⟩:=hrel
  by_cases hlt:i<n
  · obtain rfl:=hA hlt;have HO1:=Hd (HO.o i wr hlt hB);have HOW:=Hd ho;have HB:=Hd hB;have HL:=Hd hL;have hp:0<n-i:=by omega
    have hp2:(0:Int)<((n-i:Nat):Int):=by omega
    clear ho hB hL
    go_wp2_with(first
     |(go_at_call 173;(with_reducible refine HO1.o.mono ?_);rintro e w1 ⟨r,m,rfl,hr,hm1,hm2,hb1⟩;have HB1:=Hd (jW HB.o hb1);have ho1:=(xB HOW.o hb1).alloc (.cells #[.int .i32 r] 21);clear hb1)
     |(at_builtin;refine wpList_append_own _ rfl _ _ 136 rfl w.heap.size 21 i0 (.int .i32 0) 1 4 Tryz.underlying136 hi hz0 hz1 hz2 rfl qZ _ L.length _ rfl ho1 ⟨w1.heap.size,0,none⟩ 1 1 [.int .i32 r] rfl rfl (cell_one_new _ _ _) qZd qG qJ qZm ?_;intro v' w2 hown' hgrow _;have HB2:=Hd (show Below w.heap.size w w2 from(HB1.o.alloc HB1.o.size _).grown hgrow qZm (fun k hk=>(ho1.lt k hk).1));have HO2:=Hd hown';clear hown' hgrow))
    refine⟨⟨i+m,L++[r],_,by omega,fun h=>?_,by rw[Nat.sub_add_eq,Nat.sub_add_eq],by simpa using HO2.o,fun x hx=>?_,by simp;omega,HB2.o⟩,by simp only[];omega⟩
    · rw[if_neg qJ];rw[Nat.add_assoc]
    · rcases kU.1 hx with h|h
      · exact HL.o x h
      · rw[jM.1 h];exact hr
  · have hz:n-i=0:=by omega
    rw[hz]
    go_wp2
    go_ret
    exact⟨_,L,rfl,ho,hL,by omega,hB⟩
section
variable {base:Nat}{w w1:World}{q:Pv}{g g1:Pg}
def Rg3(base:Nat)(w:World)(R:Nat)(vl:Value)(room:Nat)(gone':Int)(H':List Ro)(k:Nat)(w':World):Prop:=
 (∃vl' SL' first' n',RgO base w' R vl' SL' room first' n' gone'∧(pS SL' first' n').map zU=H'∧Mod (gK R vl) w w'∧(∀g,vl'.ownBlock=some g→vl.ownBlock=some g∨w.heap.size≤g)∧k∉gK R vl')∧
   w'.heap[k]? =some (.cells #[.slice none 0 0,.bool false] 52 (0,0))∧w.heap.size≤k
theorem iQ.pre{R:Nat}{vl:Value}{room:Nat}{gone':Int}{H':List Ro}{wp w':World}(hb:Below w.heap.size w wp)(h:iQ base wp R vl room gone' H' w'):iQ base w R vl room gone' H' w':=by
 obtain⟨vl',SL',f',n',h1,h2,h3,h4⟩:=h;exact⟨vl',SL',f',n',h1,h2,(Mod.of_below (X:=gK R vl) hb).trans h3 (fun b hb=>.inl hb),fun g hg=>(h4 g hg).imp id (fun h=>jI hb.size h)⟩
theorem Rg3.store{R:Nat}{vl:Value}{room:Nat}{gone':Int}{H':List Ro}{k:Nat}{w':World}(u v:Value)(h:Rg3 base w R vl room gone' H' k w'):iQ base w R vl room gone' H' ((w'.setCell ⟨k,0,none⟩ u).setCell ⟨k,1,none⟩ v):=by
 obtain⟨⟨vl',SL',f',n',h1,h2,h3,h4,h5⟩,hk,hkw⟩:=h;exact⟨vl',SL',f',n',h1.mod (yK (X:=[k]) (o:=0) (Mod.refl _ _) (.inl qV)) (fun b hb cs f he=>by
  rw[jM.1 hb]at he;exact vM hk he qZ rfl) (fun b hb hX=>by rw[jM.1 hX]at hb;exact h5 hb),h2,yK (o:=0) h3 (.inr hkw),h4⟩
theorem PgO.ringed(h:PgO base w q g){gone':Int}{H':List Ro}(hp:iQ base w q.R q.vl g.room (gone'%18446744073709551616) H' w1)(hg0:0≤gone'):pV base w q {g with hist:=H',gone:=gone'} w1:=by
 obtain⟨vl',SL',f',n',h1,h2,hm,hv⟩:=hp;have hX:=h.ring.nocel;have hne:∀(b:Nat) (cur:Array Value) (t:TypeId),w.heap[b]? =some (.cells cur t (0,0))→t≠225→t≠52→b∉gK q.R q.vl:=fun b cur t hb a1 a2 hx=>by
  rcases kJ.1 hx with rfl|hx
  · exact vM h.ring.blk hb a1.symm rfl
  · obtain⟨cur2,hc⟩:=uR h.ring.own (jA.1 hx);exact vM hc hb a2.symm rfl
 have hvs:∀b,q.vs.ownBlock=some b→b∉gK q.R q.vl:=fun b hb hx=>by
  obtain⟨cur,hc⟩:=uR h.own hb;rcases kJ.1 hx with rfl|hx
  · exact vM h.ring.blk hc qZ rfl
  · exact h.apart b hb (jA.1 hx)
 refine⟨{q with vl:=vl',SL:=SL',first :=f',n:=n'},rfl,rfl,⟨(hm.block q.P (kB.1 h.blk).1 (hne _ _ _ h.blk qZ qZ)).trans h.blk,h.hb,h1,kD h.own hm (fun b hb=>hvs b hb),kD h.told hm (fun b hb=>?_),fun b hb hb2=>?_,h.scr,h2,fun r hr=>⟨(h.rows r hr).1.mod hm hX,(h.rows r hr).2⟩,h.cols2,h.cols1000,h.rows1000,hg0⟩,hm.mono (fun b hb=>by simp[pgX,hb]),fun b hb=>?_⟩
 · obtain⟨cur,hc⟩:=uR h.told hb;exact hne _ _ _ hc qZ qZ
 · rcases hv b hb2 with h3|h3
   · exact h.apart b hb h3
   · have :=(h.own.lt b hb).2;omega
 · rcases kJ.1 hb with rfl|hb
   · exact .inl qZz
   rcases kU.1 hb with hb|hb
   · exact .inl (by simp[pgX,jA.1 hb])
   rcases kU.1 hb with hb|hb
   · exact .inl (by simp[pgX,jA.1 hb])
   rcases kJ.1 hb with rfl|hb
   · exact .inl (by simp[pgX,gK])
   · rcases hv b (jA.1 hb)with h3|h3
     · exact .inl (by simp[pgX,gK,h3])
     · exact .inr h3
end
def ZK(room:Nat)(H:List Ro)(r:Ro):List Ro:=if room=0 then[]else if H.length=room then H.drop 1++[r]else H++[r]
def wU(room:Nat)(H:List Ro)(gone:Int):Int:=if H.length=room then gone+1 else gone
theorem qJ1(g:Pg)(r:Ro)(h:g.hist.length≤g.room):sV g r=({g with hist:=ZK g.room g.hist r,gone:=wU g.room g.hist g.gone},decide (g.hist.length=g.room)):=by
 unfold sV ZK wU
 split
 · next h0=>
   have hn:g.hist=[]:=List.length_eq_zero_iff.1 qJ;obtain⟨room,hist,gone,scr,cols,told⟩:=g;simp only at h0 hn;subst h0 hn;simp
 · next h0=>
   split
   · next h1=>simp[h1]
   · next h1=>simp[h1]
section
variable {base:Nat}{w w1:World}{q:Pv}{g g1:Pg}
set_option maxHeartbeats 3200000 in
theorem qJ2(h:PgO base w q g)(bottom:Nat)(b:Col)(h2:bottom<g.scr.length)(ht:g.told.length≤999990):
 Calls jG 348 #[.pointer (some ⟨q.P,0,none⟩),.int .i64 0,.int .i64 bottom,.agg #[.int .i64 b.k,.int .i64 b.n]] w (pJ base w q (upP g 0 bottom b)):=by
 have hrows:=h.rows1000;have hlen:=h.len;have hh:=h.hist100k;have hhr:g.hist.length≤g.room:=by have :=h.hlen;have :=h.ring.hn;have :=h.ring.hm;omega
 have hg0:=h.gone0;obtain⟨r0,hr0⟩:∃r0,g.scr[0]? =some r0:=⟨_,jN qJ⟩;have hgD:g.scr.getD 0 ⟨[],false⟩=r0:=by rw[kX,hr0];rfl
 obtain⟨W,hW⟩:∃W,w.alloc (.cells #[.int .i64 b.k,.int .i64 b.n] 61)=W:=⟨_,rfl⟩;have hb0:Below w.heap.size w W:=by rw[←hW];exact jH (jU _ _) _
 have HN:=Hd (show W.heap[w.heap.size]? =some (.cells #[.int .i64 b.k,.int .i64 b.n] 61 (0,0))from by rw[←hW];exact jT rfl);have HB:=Hd hb0;have HX:w.heap.size∉pgX q:=fun hx=>by have :=h.lt _ hx;omega
 have H0:=Hd (h.below hb0).res;have hwa:jE.wrap ((g.hist.length:Int)+(bottom:Int))=(g.hist.length:Int)+(bottom:Int):=jF _ qJ;have hwb:jE.wrap ((g.hist.length:Int)+(bottom:Int)+1)=(g.hist.length:Int)+(bottom:Int)+1:=jF _ qJ;have hwc:jE.wrap ((bottom:Int)+1)=(bottom:Int)+1:=jF _ qJ;have HBA:=Hd (wJ H0.o);have HT1:=Hd (nZ H0.o 0 ((g.hist.length:Int)+bottom+1) 1 qJ);obtain⟨b0,-⟩:=at_ HN.o 0 _ rfl;obtain⟨b1,-⟩:=at_ HN.o 1 _ rfl;have HB0:=Hd b0;have HB1:=Hd b1;have HR0:=Hd hr0;obtain⟨gP,hgP⟩:∃gP,({pA g 0 ((g.hist.length:Int)+bottom+1) 1 with hist:=ZK g.room g.hist r0,gone:=wU g.room g.hist g.gone}:Pg)=gP:=⟨_,rfl⟩;have HGP:=Hd hgP;obtain⟨gT,hgT⟩:∃gT,(if g.hist.length=g.room then pA gP 2 0 1 else gP)=gT:=⟨_,rfl⟩;have HU:Hid (upP g 0 bottom b=yB {gT with scr:=yH g.scr 0 bottom (zD g.cols b)} ((bottom:Int)+1) false):=Hd (by
  unfold upP;rw[if_neg qJ];simp only[];rw[hgD,qJ1 _ _ (show(pA g 0 ((g.hist.length:Int)+bottom+1) 1).hist.length≤_ from hhr)];simp only[];rw[←hgT,←hgP]
  by_cases hf:g.hist.length=g.room
  · simp[pA,hf]
  · simp[pA,hf])
 have HGT:=Hd hgT;have HSC:Hid (gT.scr=g.scr∧gT.cols=g.cols∧gP.told.length=g.told.length+1):=Hd (by
  rw[←hgT,←hgP];refine⟨?_,?_,by simp[pA]⟩
  · split<;>rfl
  · split<;>rfl)
 rw[HU.o];have HSL:Hid (∀w1,pV base W q gT w1→Calls jG 382 #[.pointer (some ⟨q.P,0,none⟩),.int .i64 0,.int .i64 bottom,.agg #[.int .i64 b.k,.int .i64 b.n]] w1 (pJ base W q {gT with scr:=yH g.scr 0 bottom (zD g.cols b)})):=Hd (fun w1 hs=>by
  have :=wX hs 0 bottom b (kM _) (by rw[HSC.o.1];exact h2);rw[show yH g.scr 0 bottom (zD g.cols b)=yH gT.scr 0 bottom (zD gT.cols b)from by rw[HSC.o.1,HSC.o.2.1]];exact this)
 have HPA:=Hd (fun(w1:World) (hs:pV base W q {gT with scr:=yH g.scr 0 bottom (zD g.cols b)} w1)=>tP hs ((bottom:Int)+1));have HT2:=Hd (fun(w1:World) (hs:pV base W q gP w1)=>nZ hs 2 0 1 (by rw[HSC.o.2.2];omega));clear hb0 b0 b1 hr0 hgD hgP hgT;have H:=Hd h;clear h
 go_enter Tryz.func348,Tryz.ntmps348
 go_upto_region 4 with(first
  |(go_at_call 91;(with_reducible refine HBA.o.mono ?_);rintro e w9 ⟨rfl,rfl⟩)
  |(go_at_call 149;(with_reducible refine HT1.o.mono ?_);rintro e w2 ⟨rfl,hs⟩;have HS1:=Hd hs;clear hs))
 obtain⟨q1,e1,e2,hq1,hm1,hx1⟩:=HS1.o;have hS0:q1.S[0]?.map zU=some r0:=by
  rw[←uX,hq1.scr];exact HR0.o
 obtain⟨rr,hrr,hro⟩:∃rr,q1.S[0]? =some rr∧zU rr=r0:=by
  cases h:q1.S[0]? with
  |none=>rw[h]at hS0;cases hS0
  |some x=>rw[h]at hS0;exact⟨x,rfl,by simpa using hS0⟩
 have h0S:0<q1.S.length:=(jP.1 hrr).1;obtain⟨gs,c,hv⟩:=gH hq1.own h0S;obtain⟨hrc,hrl⟩:=hq1.rows rr (uB hrr);obtain⟨⟨x0,-⟩,⟨x1,-⟩,-⟩:=hq1.cells;have hown:=hq1.own;rw[hv]at x1 hown;obtain⟨⟨y0,-⟩,y1,-⟩:=zK hown hrr;rw[e1]at x0 x1;rw[Nat.zero_mul]at y0 y1;have h0I:(0:Int)<(q1.S.length:Int):=by omega
 have hc2:=hq1.cols2;have HQ:=Hd hq1;have HRR:=Hd (kY hrc (kY hrl hro));have HMX:=Hd (kY hm1 hx1);have hPX:∀b,b∈[q.P,gs]→b∉gK q1.R q1.vl:=fun b hb hx=>by
  rcases kJ.1 hb with rfl|hb
  · rw[←e1]at hx;rcases kJ.1 hx with h|hx
    · exact vM hq1.blk hq1.ring.blk qZ h
    · obtain⟨cur,hc⟩:=uR hq1.ring.own (jA.1 hx);exact vM hq1.blk hc qZ rfl
  · rw[jM.1 hb]at hx;obtain⟨cur,hc⟩:=uR hq1.own (g:=gs) (by rw[hv];rfl);rcases kJ.1 hx with h|hx
    · exact vM hc hq1.ring.blk qZ h
    · exact hq1.apart gs (by rw[hv];rfl) (jA.1 hx)
 have HPX:=Hd hPX;have HRlt:=Hd hq1.ring.lt;have HPU:Hid (∀w',Below w2.heap.size w2 w'→Calls jG 243 #[.pointer (some ⟨q1.R,0,none⟩),.agg #[.slice rr.A rr.cs.length rr.cap,.bool rr.cont]] w' (fun e w3=>∃r6:Rh,e=.returned (.tuple #[.agg #[.slice r6.A r6.cs.length r6.cap,.bool r6.cont],.bool (decide (g.hist.length=g.room))])∧iQ base w' q1.R q1.vl g.room (wU g.room g.hist g.gone%18446744073709551616) (ZK g.room g.hist r0) w3)):=Hd (fun w' hb=>by
  have hrg:=(hq1.below hb).ring;have hn:q1.n=g.hist.length:=hq1.hlen.symm;have hhist:(pS q1.SL q1.first q1.n).map zU=g.hist:=hq1.hist;refine(Wr hrg (Int.emod_nonneg _ qZ) (by have :=(hrg.lt q1.R qO);omega) rr (hrc.below hb) (by rw[hrl];have :(2:Nat)≤g.cols:=hc2;show 0<g.cols;omega)).mono ?_;rintro e w3 ⟨r6,he,hp⟩;rw[hn]at he hp;rw[←hn,hhist,hro,hn]at hp;refine⟨r6,he,?_⟩;have e1:(if g.hist.length=(pA g 0 ((g.hist.length:Int)+bottom+1) 1).room then((pA g 0 ((g.hist.length:Int)+bottom+1) 1).gone%18446744073709551616+1)%18446744073709551616 else(pA g 0 ((g.hist.length:Int)+bottom+1) 1).gone%18446744073709551616)=wU g.room g.hist g.gone%18446744073709551616:=by
   unfold wU;show(if g.hist.length=g.room then(g.gone%18446744073709551616+1)%18446744073709551616 else g.gone%18446744073709551616)=_
   split
   · omega
   · rfl
  rw[e1]at hp;exact hp)
 obtain⟨fl,hfl⟩:∃fl,decide (g.hist.length=g.room)=fl:=⟨_,rfl⟩;rw[hfl]at HPU;have HFL:=Hd hfl;clear hfl;generalize hG':wU g.room g.hist g.gone=G' at HPU;generalize hH':ZK g.room g.hist r0=H' at HPU;have HGH:=Hd (kY hG' hH');have HG0:=Hd (show 0≤G' from by rw[←hG'];unfold wU;split<;>omega);clear hS0 hrr hrc hm1 hx1 hown hPX hq1 hro hrl hG' hH';have HIm:Hid (∀(wa wb:World),(wa.cell? ⟨q.P,0,none⟩=some (.pointer (some ⟨q1.R,0,none⟩))∧wa.cell? ⟨q.P,1,none⟩=some (.slice (some ⟨gs,0,none⟩) q1.S.length c)∧wa.cell? ⟨gs,0,none⟩=some (.slice rr.A rr.cs.length rr.cap)∧wa.cell? ⟨gs,0+1,none⟩=some (.bool rr.cont))→Mod (gK q1.R q1.vl) wa wb→(wb.cell? ⟨q.P,0,none⟩=some (.pointer (some ⟨q1.R,0,none⟩))∧wb.cell? ⟨q.P,1,none⟩=some (.slice (some ⟨gs,0,none⟩) q1.S.length c)∧wb.cell? ⟨gs,0,none⟩=some (.slice rr.A rr.cs.length rr.cap)∧wb.cell? ⟨gs,0+1,none⟩=some (.bool rr.cont))):=
  Hd (fun wa wb hI hm=>⟨hm.cell (HPX.o _ qV) hI.1,hm.cell (HPX.o _ qV) hI.2.1,hm.cell (HPX.o _ qV) hI.2.2.1,hm.cell (HPX.o _ qV) hI.2.2.2⟩)
 have HIw:Hid (∀(wa:World) (k:Nat),(wa.cell? ⟨q.P,0,none⟩=some (.pointer (some ⟨q1.R,0,none⟩))∧wa.cell? ⟨q.P,1,none⟩=some (.slice (some ⟨gs,0,none⟩) q1.S.length c)∧wa.cell? ⟨gs,0,none⟩=some (.slice rr.A rr.cs.length rr.cap)∧wa.cell? ⟨gs,0+1,none⟩=some (.bool rr.cont))→w2.heap.size≤k→∀(u v:Value),(((wa.setCell ⟨k,0,none⟩ u).setCell ⟨k,1,none⟩ v).cell? ⟨q.P,0,none⟩=some (.pointer (some ⟨q1.R,0,none⟩))∧((wa.setCell ⟨k,0,none⟩ u).setCell ⟨k,1,none⟩ v).cell? ⟨q.P,1,none⟩=some (.slice (some ⟨gs,0,none⟩) q1.S.length c)∧((wa.setCell ⟨k,0,none⟩ u).setCell ⟨k,1,none⟩ v).cell? ⟨gs,0,none⟩=some (.slice rr.A rr.cs.length rr.cap)∧((wa.setCell ⟨k,0,none⟩ u).setCell ⟨k,1,none⟩ v).cell? ⟨gs,0+1,none⟩=some (.bool rr.cont))):=
  Hd (fun wa k hI hk u v=>by
   have hm:Mod [k] wa ((wa.setCell ⟨k,0,none⟩ u).setCell ⟨k,1,none⟩ v):=yK (o:=0) (Mod.refl _ _) (.inl qV);have h1:q.P∉[k]:=by have :=uE x0;simp;omega
   have h2:gs∉[k]:=by have :=uE y0;simp;omega
   exact⟨hm.cell h1 hI.1,hm.cell h1 hI.2.1,hm.cell h2 hI.2.2.1,hm.cell h2 hI.2.2.2⟩)
 refine Go.RL.wp_region_l 16 (fun w'=>w'.cell? ⟨q.P,0,none⟩=some (.pointer (some ⟨q1.R,0,none⟩))∧w'.cell? ⟨q.P,1,none⟩=some (.slice (some ⟨gs,0,none⟩) q1.S.length c)∧w'.cell? ⟨gs,0,none⟩=some (.slice rr.A rr.cs.length rr.cap)∧w'.cell? ⟨gs,0+1,none⟩=some (.bool rr.cont)) (fun w'=>Below w2.heap.size w2 w') qQ qQ ⟨x0,x1,y0,y1⟩ ((jU _ _).drew) ?_;refine Go.RL.AtL.go 0 ?_
 iterate 10 (refine Go.RL.AtK.take (o:=⟨_,_,_,_,_,_⟩) (v:=?_) qQ rfl qV qQ qQ ?_ ?_;rotate_left;(focus(refine Go.RL.Pure.val qK ?_;intro w' hI;obtain⟨_,_,_,_⟩:=hI;go_simp;first|done|with_reducible rfl));simp only[Act.put,jZ,jX,jY])
 refine Go.RL.AtK.back ?_;refine Go.RL.AtL.two 10 14 (o:=⟨_,_,_,_,_,_⟩) (o':=⟨_,_,_,_,_,_⟩) (fun v=>∃r6:Rh,v=.tuple #[.agg #[.slice r6.A r6.cs.length r6.cap,.bool r6.cont],.bool fl]) (fun v=>∃k,v=.pointer (some ⟨k,0,none⟩)) (fun _ w3=>iQ base w2 q1.R q1.vl g.room (G'%18446744073709551616) H' w3)
  (fun v w3=>∃k,v=.pointer (some ⟨k,0,none⟩)∧Below w2.heap.size w2 w3∧w3.heap[k]? =some (.cells #[.slice none 0 0,.bool false] 52 (0,0))∧w2.heap.size≤k) qV qV qQ rfl rfl
  (Go.RL.StabL.call 243 #[.pointer (some ⟨q1.R,0,none⟩),.agg #[.slice rr.A rr.cs.length rr.cap,.bool rr.cont]] _ _ qK ?_ (fun w' hI hS=>?_)) (Go.RL.StabL.op _ _ qK (fun w' hI hS=>?_)) ?_ ?_
 · intro w'
   go_simp
 · refine(HPU.o w' hS).mono ?_;rintro e w3 ⟨r6,rfl,hp⟩;exact⟨_,rfl,⟨r6,rfl⟩,HIm.o _ _ hI (by obtain⟨_,_,_,_,_,_,hm,_⟩:=hp;exact hm),hp.pre hS⟩
 · refine⟨.pointer (some ⟨w'.heap.size,0,none⟩),w'.alloc (.cells #[.slice none 0 0,.bool false] 52),by go_simp,⟨_,rfl⟩,HIm.o _ _ hI (Mod.of_below (jH (jU _ _) _)),_,rfl,jH hS _,jT rfl,hS.size⟩
 · rintro v ⟨r6,rfl⟩;simp only[Act.put,jZ,jX,jY];refine Go.RL.AtL.go 11 ?_
   iterate 3 (refine Go.RL.AtK.take (o:=⟨_,_,_,_,_,_⟩) (v:=?_) qQ rfl qV qQ qQ ?_ ?_;rotate_left;(focus(refine Go.RL.Pure.val qK ?_;intro w' hI;obtain⟨_,_,_,_⟩:=hI;go_simp;first|done|with_reducible rfl));simp only[Act.put,jZ,jX,jY])
   refine Go.RL.AtK.back ?_;refine Go.RL.AtL.one 14 (o:=⟨_,_,_,_,_,_⟩) (fun v=>∃k,v=.pointer (some ⟨k,0,none⟩)) (fun v w3=>∃k,v=.pointer (some ⟨k,0,none⟩)∧Rg3 base w2 q1.R q1.vl g.room (G'%18446744073709551616) H' k w3) qV qQ rfl (Go.RL.StabL.op _ _ qK (fun w' hI hS=>?_)) ?_
   · refine⟨.pointer (some ⟨w'.heap.size,0,none⟩),w'.alloc (.cells #[.slice none 0 0,.bool false] 52),by go_simp,⟨_,rfl⟩,HIm.o _ _ hI (Mod.of_below (jH (jU _ _) _)),_,rfl,?_⟩;obtain⟨vl',SL',f',n',k1,k2,k3,k4⟩:=hS;have hb:=jH (jU w'.heap.size w') (.cells #[.slice none 0 0,.bool false] 52);exact⟨⟨vl',SL',f',n',k1.below hb,k2,k3.then_below hb,k4,fun hx=>by have :=(k1.lt _ hx).2;omega⟩,jT rfl,k3.size⟩
   rintro v ⟨k,rfl⟩;simp only[Act.put,jZ,jX,jY];refine Go.RL.AtL.one 15 (o:=⟨none,.store 52 (.tmp 8) (.tmp 36),_,_,_,_⟩) (fun _=>True) (fun _ w3=>iQ base w2 q1.R q1.vl g.room (G'%18446744073709551616) H' w3) qV qQ rfl (Go.RL.StabL.unit _ _ qK (fun w' hI hS=>?_)) ?_
   · have hk3:Rg3 base w2 q1.R q1.vl g.room (G'%18446744073709551616) H' k w':=(by obtain⟨k',e,h⟩:=hS;simp only[Value.pointer.injEq,Option.some.injEq,Addr.mk.injEq,and_true]at e;rw[e];exact h);obtain⟨k0,k0f⟩:=at_ hk3.2.1 0 _ rfl;obtain⟨k1,k1f⟩:=at_ hk3.2.1 1 _ rfl;refine⟨(w'.setCell ⟨k,0,none⟩ (.slice r6.A r6.cs.length r6.cap)).setCell ⟨k,1,none⟩ (.bool r6.cont),by go_simp,trivial,HIw.o _ k hI hk3.2.2 _ _,hk3.store _ _⟩
   rintro v15 -;simp only[Act.put];refine Go.RL.AtL.done qQ (fun w' hI hS=>?_);have HS4:Hid (pV base W q gP w'):=Hd (by
    have :=pV.trans ⟨e1,e2,HMX.o.1,HMX.o.2⟩ (HQ.o.ringed (gone':=G') hS HG0.o);rw[←HGP.o,HGH.o.1,HGH.o.2];exact this)
   have z0:=HS4.o.hold HX HB0.o;have z1:=HS4.o.hold HX HB1.o;clear hI hS x0 x1 y0 y1;cases fl with
   |true=>
    have HE:Hid (pA gP 2 0 1=gT):=Hd (by rw[←HGT.o,if_pos (of_decide_eq_true HFL.o)]);rw[HE.o]at HT2
    go_wp2_with(first
     |(go_at_call 149;(with_reducible refine(HT2.o _ HS4.o).mono ?_);rintro e w5 ⟨rfl,hs⟩;have HS5:=Hd hs;have u0:=hs.hold HX HB0.o;have u1:=hs.hold HX HB1.o;clear hs z0 z1)
     |(go_at_call 382;(with_reducible refine(HSL.o _ HS5.o).mono ?_);rintro e w6 ⟨rfl,hs⟩;have HS6:=Hd hs;clear hs)
     |(go_at_call 293;(with_reducible refine(HPA.o _ HS6.o).mono ?_);rintro e w7 ⟨rfl,hs⟩;have HS7:=Hd hs;clear hs))
    go_end0
    exact⟨rfl,HS7.o.pre HB.o⟩
   |false=>
    have HE:Hid (gP=gT):=Hd (by rw[←HGT.o,if_neg (of_decide_eq_false HFL.o)]);rw[HE.o]at HS4
    go_wp2_with(first
     |(go_at_call 382;(with_reducible refine(HSL.o _ HS4.o).mono ?_);rintro e w6 ⟨rfl,hs⟩;have HS6:=Hd hs;clear hs)
     |(go_at_call 293;(with_reducible refine(HPA.o _ HS6.o).mono ?_);rintro e w7 ⟨rfl,hs⟩;have HS7:=Hd hs;clear hs))
    go_end0
    exact⟨rfl,HS7.o.pre HB.o⟩
 · rintro v ⟨k,rfl⟩;simp only[Act.put,jZ,jX,jY];refine Go.RL.AtL.one 10 (o:=⟨_,_,_,_,_,_⟩) (fun v=>∃r6:Rh,v=.tuple #[.agg #[.slice r6.A r6.cs.length r6.cap,.bool r6.cont],.bool fl]) (fun _ w3=>Rg3 base w2 q1.R q1.vl g.room (G'%18446744073709551616) H' k w3) qV qQ rfl
    (Go.RL.StabL.call 243 #[.pointer (some ⟨q1.R,0,none⟩),.agg #[.slice rr.A rr.cs.length rr.cap,.bool rr.cont]] _ _ qK ?_ (fun w' hI hS=>?_)) ?_
   · intro w'
     go_simp
   · obtain⟨k',e,hb,hk,hkw⟩:=hS;simp only[Value.pointer.injEq,Option.some.injEq,Addr.mk.injEq,and_true]at e;subst e;refine(HPU.o w' hb).mono ?_;rintro e w3 ⟨r6,rfl,hp⟩;have hkX:k∉gK q1.R q1.vl:=fun hx=>by have :=(HRlt.o _ hx).2;omega
     have hm:Mod (gK q1.R q1.vl) w' w3:=by obtain⟨_,_,_,_,_,_,hm,_⟩:=hp;exact hm
     refine⟨_,rfl,⟨r6,rfl⟩,HIm.o _ _ hI hm,?_,(hm.block k (jR hk) hkX).trans hk,hkw⟩;obtain⟨vl',SL',f',n',k1,k2,k3,k4⟩:=hp;refine⟨vl',SL',f',n',k1,k2,(Mod.of_below (X:=gK q1.R q1.vl) hb).trans k3 (fun b hb=>.inl hb),fun g hg=>(k4 g hg).imp id (fun h=>jI hb.size h),fun hx=>?_⟩;rcases kJ.1 hx with h|h
     · have :=(HRlt.o q1.R qO).2;omega
     · rcases k4 k (jA.1 h)with h|h
       · exact hkX (by simp[gK,h])
       · have :=jR hk;omega
   rintro v ⟨r6,rfl⟩;simp only[Act.put,jZ,jX,jY];refine Go.RL.AtL.go 11 ?_
   iterate 3 (refine Go.RL.AtK.take (o:=⟨_,_,_,_,_,_⟩) (v:=?_) qQ rfl qV qQ qQ ?_ ?_;rotate_left;(focus(refine Go.RL.Pure.val qK ?_;intro w' hI;obtain⟨_,_,_,_⟩:=hI;go_simp;first|done|with_reducible rfl));simp only[Act.put,jZ,jX,jY])
   refine Go.RL.AtK.back ?_;refine Go.RL.AtL.one 15 (o:=⟨none,.store 52 (.tmp 8) (.tmp 36),_,_,_,_⟩) (fun _=>True) (fun _ w3=>iQ base w2 q1.R q1.vl g.room (G'%18446744073709551616) H' w3) qV qQ rfl (Go.RL.StabL.unit _ _ qK (fun w' hI hS=>?_)) ?_
   · have hk3:Rg3 base w2 q1.R q1.vl g.room (G'%18446744073709551616) H' k w':=hS;obtain⟨k0,k0f⟩:=at_ hk3.2.1 0 _ rfl;obtain⟨k1,k1f⟩:=at_ hk3.2.1 1 _ rfl;refine⟨(w'.setCell ⟨k,0,none⟩ (.slice r6.A r6.cs.length r6.cap)).setCell ⟨k,1,none⟩ (.bool r6.cont),by go_simp,trivial,HIw.o _ k hI hk3.2.2 _ _,hk3.store _ _⟩
   rintro v15 -;simp only[Act.put];refine Go.RL.AtL.done qQ (fun w' hI hS=>?_);have HS4:Hid (pV base W q gP w'):=Hd (by
    have :=pV.trans ⟨e1,e2,HMX.o.1,HMX.o.2⟩ (HQ.o.ringed (gone':=G') hS HG0.o);rw[←HGP.o,HGH.o.1,HGH.o.2];exact this)
   have z0:=HS4.o.hold HX HB0.o;have z1:=HS4.o.hold HX HB1.o;clear hI hS x0 x1 y0 y1;cases fl with
   |true=>
    have HE:Hid (pA gP 2 0 1=gT):=Hd (by rw[←HGT.o,if_pos (of_decide_eq_true HFL.o)]);rw[HE.o]at HT2
    go_wp2_with(first
     |(go_at_call 149;(with_reducible refine(HT2.o _ HS4.o).mono ?_);rintro e w5 ⟨rfl,hs⟩;have HS5:=Hd hs;have u0:=hs.hold HX HB0.o;have u1:=hs.hold HX HB1.o;clear hs z0 z1)
     |(go_at_call 382;(with_reducible refine(HSL.o _ HS5.o).mono ?_);rintro e w6 ⟨rfl,hs⟩;have HS6:=Hd hs;clear hs)
     |(go_at_call 293;(with_reducible refine(HPA.o _ HS6.o).mono ?_);rintro e w7 ⟨rfl,hs⟩;have HS7:=Hd hs;clear hs))
    go_end0
    exact⟨rfl,HS7.o.pre HB.o⟩
   |false=>
    have HE:Hid (gP=gT):=Hd (by rw[←HGT.o,if_neg (of_decide_eq_false HFL.o)]);rw[HE.o]at HS4
    go_wp2_with(first
     |(go_at_call 382;(with_reducible refine(HSL.o _ HS4.o).mono ?_);rintro e w6 ⟨rfl,hs⟩;have HS6:=Hd hs;clear hs)
     |(go_at_call 293;(with_reducible refine(HPA.o _ HS6.o).mono ?_);rintro e w7 ⟨rfl,hs⟩;have HS7:=Hd hs;clear hs))
    go_end0
    exact⟨rfl,HS7.o.pre HB.o⟩
end
section
variable {base:Nat}{w w1:World}{q:Pv}{g g1:Pg}
set_option maxHeartbeats 3200000 in
theorem pup_any(h:PgO base w q g)(top bottom:Nat)(b:Col)(h1:top≤bottom)(h2:bottom<g.scr.length)(ht:g.told.length≤999990):
 Calls jG 348 #[.pointer (some ⟨q.P,0,none⟩),.int .i64 top,.int .i64 bottom,.agg #[.int .i64 b.k,.int .i64 b.n]] w (pJ base w q (upP g top bottom b)):=by
 rcases Nat.eq_zero_or_pos top with h0|h0
 · subst h0;exact qJ2 h bottom b h2 ht
 have hb0:Below w.heap.size w (w.alloc (.cells #[.int .i64 b.k,.int .i64 b.n] 61)):=jH (jU _ _) _;have HC:=Hd (qJ7 (h.below hb0) top bottom b h1 h2 ht);have HB:=Hd hb0;have HU:Hid (upP g top bottom b=Ys g top bottom b):=Hd (by unfold upP;rw[if_pos h0]);have h0I:(0:Int)<(top:Int):=by omega
 rw[HU.o];clear h hb0
 go_enter Tryz.func348,Tryz.ntmps348
 go_wp2_with(go_at_call 355;(with_reducible refine HC.o.mono ?_);rintro e w2 ⟨rfl,hs⟩;have HS:=Hd hs;clear hs)
 go_end0
 exact qXs
def Calm(F:Nat→Nat→Pg→Pg):Prop:=∀t b g,t≤b→b<g.scr.length→(F t b g).scr.length=g.scr.length∧(F t b g).told.length≤g.told.length+2∧(F t b g).cols=g.cols∧(F t b g).room=g.room
theorem wQ(g:Pg)(y:Int)(b:Bool):(yB g y b).scr.length=g.scr.length∧(yB g y b).told=g.told∧(yB g y b).cols=g.cols∧(yB g y b).room=g.room:=by
 obtain⟨h1,h2,h3,h4,h5,h6⟩:=Yx g y b;exact⟨h6,h3,h4,h5⟩
theorem qVi(b:Col):Calm (fun t bo g=>Ys g t bo b):=fun t bo g h1 h2=>by
 unfold Ys;simp only[];obtain⟨a1,a2,a3,a4⟩:=wQ (yB {(pA (pA g 1 ((g.hist.length:Int)+t) 1) 0 ((g.hist.length:Int)+bo) 1)with scr:=yH g.scr t bo (zD g.cols b)} t false) ((bo:Int)+1) false;obtain⟨b1,b2,b3,b4⟩:=wQ {(pA (pA g 1 ((g.hist.length:Int)+t) 1) 0 ((g.hist.length:Int)+bo) 1)with scr:=yH g.scr t bo (zD g.cols b)} t false;refine⟨a1.trans (b1.trans (wZ h1 h2)),?_,a3.trans b3,a4.trans b4⟩;rw[a2,b2];simp[pA]
theorem YZ(g:Pg)(r:Ro):(sV g r).1.scr=g.scr∧(sV g r).1.told=g.told∧(sV g r).1.cols=g.cols∧(sV g r).1.room=g.room:=by
 unfold sV
 split
 · exact⟨rfl,rfl,rfl,rfl⟩
 split
 · exact⟨rfl,rfl,rfl,rfl⟩
 · exact⟨rfl,rfl,rfl,rfl⟩
theorem calm_up(b:Col):Calm (fun t bo g=>upP g t bo b):=fun t bo g h1 h2=>by
 show(upP g t bo b).scr.length=g.scr.length∧(upP g t bo b).told.length≤g.told.length+2∧(upP g t bo b).cols=g.cols∧(upP g t bo b).room=g.room
 by_cases ht:0<t
 · have e:upP g t bo b=Ys g t bo b:=by unfold upP;rw[if_pos ht]
   rw[e];exact qVi b t bo g h1 h2
 unfold upP;rw[if_neg ht];simp only[];obtain⟨p1,p2,p3,p4⟩:=YZ (pA g 0 ((g.hist.length:Int)+bo+1) 1) (g.scr.getD 0 ⟨[],false⟩);generalize sV (pA g 0 ((g.hist.length:Int)+bo+1) 1) (g.scr.getD 0 ⟨[],false⟩)=p at p1 p2 p3 p4;obtain⟨gp,fl⟩:=p;simp only at p1 p2 p3 p4;obtain⟨a1,a2,a3,a4⟩:=wQ {(if fl=true then pA gp 2 0 1 else gp)with scr:=yH g.scr 0 bo (zD g.cols b)} ((bo:Int)+1) false;refine⟨a1.trans (wZ qJ h2),?_,?_,?_⟩
 · rw[a2];cases fl
   · simp[p2,pA]
   · simp[p2,pA]
 · rw[a3];cases fl
   · exact p3
   · exact p3
 · rw[a4];cases fl
   · exact p4
   · exact p4
end
section
variable {base:Nat}{w w1:World}{q:Pv}{g g1:Pg}
theorem Ji{F:Nat→Nat→Pg→Pg}(hF:Calm F){t b:Nat}(h1:t≤b):∀(n:Nat) (g:Pg),b<g.scr.length→(oJ (F t b) n g).scr.length=g.scr.length∧(oJ (F t b) n g).told.length≤g.told.length+2*n
 |0,g,h=>⟨rfl,jD _⟩
 |n+1,g,h=>by
  have ih:=Ji hF h1 n g h;have :=hF t b (oJ (F t b) n g) h1 qJ;exact⟨this.1.trans ih.1,by show(F t b (oJ (F t b) n g)).told.length≤_;omega⟩
set_option maxHeartbeats 3200000 in
theorem YX(h:PgO base w q g)(top bottom n:Int)(b:Col)(f:FuncId)(F:Nat→Nat→Pg→Pg)(hF:Calm F)(ht:g.told.length≤900000)(hn:n≤9223372036854775807)(hn0: -9223372036854775808≤n)
 (hf:∀(args:Array Value) (w:World),(callFunc f args).run jG w=.ok (.enter f args) w)
 (hdo:∀(w1:World) (q1:Pv) (g1:Pg) (t bo:Nat),q1.P=q.P→PgO base w1 q1 g1→t≤bo→bo<g1.scr.length→g1.told.length≤999990→Calls jG f #[.pointer (some ⟨q.P,0,none⟩),.int .i64 t,.int .i64 bo,.agg #[.int .i64 b.k,.int .i64 b.n]] w1 (pJ base w1 q1 (F t bo g1))):
 Calls jG 347 #[.pointer (some ⟨q.P,0,none⟩),.int .i64 top,.int .i64 bottom,.int .i64 n,.func (.func f) #[.pointer (some ⟨q.P,0,none⟩)] #[],.agg #[.int .i64 b.k,.int .i64 b.n]] w (pJ base w q (aU g top bottom n F)):=by
 have hrows:=h.rows1000;have hlen:=h.len;obtain⟨W,hW⟩:∃W,w.alloc (.cells #[.int .i64 b.k,.int .i64 b.n] 61)=W:=⟨_,rfl⟩;have hb0:Below w.heap.size w W:=by rw[←hW];exact jH (jU _ _) _
 have HN:=Hd (show W.heap[w.heap.size]? =some (.cells #[.int .i64 b.k,.int .i64 b.n] 61 (0,0))from by rw[←hW];exact jT rfl);have HB:=Hd hb0;have HX:w.heap.size∉pgX q:=fun hx=>by have :=h.lt _ hx;omega
 have H0:=Hd (h.below hb0).res;have HI1:=Hd (nU (h.below hb0) top);have HI2:=Hd (nU (h.below hb0) bottom);have HIT:=Hd (show inP g top=decide (0≤top∧top<g.scr.length)from by unfold inP;rw[Bool.decide_and]);have HIB:=Hd (show inP g bottom=decide (0≤bottom∧bottom<g.scr.length)from by unfold inP;rw[Bool.decide_and]);have HTP:Hid (aU g top bottom n F=if inP g top&&inP g bottom&&decide (top≤bottom)then oJ (F top.toNat bottom.toNat) (min n.toNat (bottom-top+1).toNat) g else g):=Hd rfl;rw[HTP.o];obtain⟨b0,-⟩:=at_ HN.o 0 _ rfl;obtain⟨b1,-⟩:=at_ HN.o 1 _ rfl;have HB0:=Hd b0;have HB1:=Hd b1;have HDO:=Hd hdo;clear hdo h hb0 HTP;generalize hi1:inP g top=i1 at HI1 HIT ⊢;generalize hi2:inP g bottom=i2 at HI2 HIB ⊢;clear hi1 hi2;cases i1 with
 |false=>
  clear b0 b1
  go_enter Tryz.func347,Tryz.ntmps347
  go_wp2_with(go_at_call 289;first|(refine HI1.o.mono ?_;rintro e w9 ⟨rfl,rfl⟩))
  go_end0
  exact⟨rfl,H0.o.pre HB.o⟩
 |true=>
 cases i2 with
 |false=>
  clear b0 b1
  go_enter Tryz.func347,Tryz.ntmps347
  go_wp2_with(go_at_call 289;first|((with_reducible refine HI1.o.mono ?_);rintro e w9 ⟨rfl,rfl⟩;have HI1:=Hd True.intro)|((with_reducible refine HI2.o.mono ?_);rintro e w9 ⟨rfl,rfl⟩))
  go_end0
  exact⟨rfl,H0.o.pre HB.o⟩
 |true=>
 by_cases htb:top≤bottom
 rotate_left
 · have hgt:bottom<top:=by omega
   rw[if_neg (show ¬(true&&true&&decide (top≤bottom))=true from by simp;omega)];clear b0 b1
   go_enter Tryz.func347,Tryz.ntmps347
   go_wp2_with(go_at_call 289;first|((with_reducible refine HI1.o.mono ?_);rintro e w9 ⟨rfl,rfl⟩;have HI1:=Hd True.intro)|((with_reducible refine HI2.o.mono ?_);rintro e w9 ⟨rfl,rfl⟩))
   go_end0
   exact⟨rfl,H0.o.pre HB.o⟩
 have ht1:=of_decide_eq_true HIT.o.symm;have hb1':=of_decide_eq_true HIB.o.symm;obtain⟨t,rfl⟩:∃t:Nat,top=t:=⟨top.toNat,by omega⟩;obtain⟨bo,rfl⟩:∃bo:Nat,bottom=bo:=⟨bottom.toNat,by omega⟩;have htb':t≤bo:=by omega
 have hbo:bo<g.scr.length:=by omega
 obtain⟨d,hd⟩:∃d:Nat,d=bo-t:=⟨_,rfl⟩;have hdI:(bo:Int)-(t:Int)=(d:Int):=by omega
 have hdN:bo-t=d:=hd.symm;have hwd:jE.wrap (d:Int)=(d:Int):=jF _ qJ;obtain⟨d1,hd1⟩:∃d1:Nat,d1=d+1:=⟨_,rfl⟩;have hd1I:(d:Int)+1=(d1:Int):=by omega
 have hwd1:jE.wrap (d1:Int)=(d1:Int):=jF _ qJ;obtain⟨m,hm⟩:∃m:Nat,(if 0<n then n else 0)=(m:Int):=⟨n.toNat,by omega⟩;obtain⟨N,hN⟩:∃N:Nat,(if(d1:Int)<(m:Int)then(d1:Int)else(m:Int))=(N:Int):=⟨min d1 m,by omega⟩;have hN2:(if d1<m then(d1:Int)else(m:Int))=(N:Int):=by rw[←hN];congr 1;simp
 have hNv:min n.toNat ((bo:Int)-(t:Int)+1).toNat=N:=by omega
 have hN1000:N≤1000:=by omega
 have hng:¬(bo:Int)<(t:Int):=by omega
 have hngN:¬bo<t:=by omega
 have hngD:decide (bo<t)=false:=decide_eq_false hngN;have HRES:Hid ((if(true&&true&&decide ((t:Int)≤(bo:Int)))=true then oJ (F ((t:Int)).toNat ((bo:Int)).toNat) (min n.toNat ((bo:Int)-(t:Int)+1).toNat) g else g)=oJ (F t bo) N g):=Hd (by
  rw[if_pos qY,hNv];rfl)
 rw[HRES.o];have HCA:=Hd (fun i=>Ji hF htb' i g hbo);have HTB:=Hd (kY htb' hbo);clear hd hd1 hNv htb htb' hbo ht1 hb1' HRES
 go_enter Tryz.func347,Tryz.ntmps347
 go_wp2_with(go_at_call 289;first|((with_reducible refine HI1.o.mono ?_);rintro e w9 ⟨rfl,rfl⟩;have HI1:=Hd True.intro)|((with_reducible refine HI2.o.mono ?_);rintro e w9 ⟨rfl,rfl⟩))
 go_loopw [34] (fun s34 wr=>∃i:Nat,s34=.int .i64 i∧i≤N∧pV base W q (oJ (F t bo) i g) wr) (fun s34 _=>N-(intOf s34).toNat)
 case atStart=>exact⟨0,rfl,kM _,H0.o⟩
 case round=>
  obtain⟨i,rfl,hi,hs⟩:=hrel;have HS:=Hd hs;have z0:=hs.hold HX HB0.o;have z1:=hs.hold HX HB1.o;clear hs
  by_cases hlt:i<N
  rotate_left
  · obtain rfl:i=N:=by omega
    go_wp2
    go_end0
    exact qXs
  · have hltI:(i:Int)<(N:Int):=by omega
    have HC:=Hd (xN HS.o (fun q1 e hq=>HDO.o wr q1 _ t bo e hq HTB.o.1 (by rw[(HCA.o i).1];exact HTB.o.2) (by have :=(HCA.o i).2;omega)));have hfc:=hf #[.pointer (some ⟨q.P,0,none⟩),.int .i64 t,.int .i64 bo,.agg #[.int .i64 b.k,.int .i64 b.n]]
    go_wp2_with(refine HC.o.mono ?_;rintro e w5 ⟨rfl,hs⟩;have HS5:=Hd hs;clear hs)
    go_roundw
    case rel=>exact⟨i+1,by go_num,by omega,HS5.o⟩
    case measure=>simp[intOf];omega
end
section
variable {base:Nat}{w w1:World}{q:Pv}{g g1:Pg}
set_option maxHeartbeats 1600000 in
theorem pUp_any(h:PgO base w q g)(top bottom n:Int)(b:Col)(ht:g.told.length≤900000)(hn:n≤9223372036854775807)(hn0: -9223372036854775808≤n):
 Calls jG 285 #[.pointer (some ⟨q.P,0,none⟩),.int .i64 top,.int .i64 bottom,.int .i64 n,.agg #[.int .i64 b.k,.int .i64 b.n]] w (pJ base w q (aU g top bottom n (fun t bo g=>upP g t bo b))):=by
 have hb0:Below w.heap.size w (w.alloc (.cells #[.int .i64 b.k,.int .i64 b.n] 61)):=jH (jU _ _) _;have HB:=Hd hb0;have HT:=Hd (YX (h.below hb0) top bottom n b 348 (fun t bo g=>upP g t bo b) (calm_up b) ht hn hn0 (fun args w=>by kernel_rfl) (fun w1 q1 g1 t bo e hq h1 h2 h3=>by
  rw[←e];exact pup_any hq t bo b h1 h2 h3))
 clear h hb0
 go_enter Tryz.func285,Tryz.ntmps285
 go_wp2_with(go_at_call 347;(with_reducible refine HT.o.mono ?_);rintro e w2 ⟨rfl,hs⟩;have HS:=Hd hs;clear hs)
 go_end0
 exact qXs
def US(base:Nat)(w:World)(q:Pv)(g:Pg)(e:Ending)(w':World):Prop:=
 ∃v,e=.returned v∧w'.ownsRow base 94 3 v g.told.length (uM sA g.told)∧pV base w q {g with told:=[]} w'
set_option maxHeartbeats 1600000 in
theorem ZW(h:PgO base w q g):Calls jG 84 #[.pointer (some ⟨q.P,0,none⟩)] w (US base w q g):=by
 obtain⟨-,-,-,x3,x3f⟩:=h.cells;have HR:=Hd (h.retold (vt':=.slice none 0 0) (t':=[]) (kS _ _ _ _) (Mod.refl _ _) (fun b hb=>by simp[Value.ownBlock]at hb));have HO:=Hd (kD h.told ((Mod.refl [q.P] w).setCell (a:=⟨q.P,3,none⟩) (.inl qV) (.slice none 0 0)) (fun b hb hx=>by
  obtain⟨cur,hc⟩:=uR h.told hb;rw[jM.1 hx]at hc;exact vM h.blk hc qZ rfl))
 clear h
 go_enter Tryz.func84,Tryz.ntmps84
 go_wp2
 go_ret
 exact⟨_,rfl,HO.o,HR.o⟩
end
end Go.Proofs.YtaefcahblmopfaaGreatDoor
