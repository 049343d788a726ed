/- Joined by a tool of this claim out of smaller texts. Conditions: as stated. -/
import Derived.Test.YtaefcahblmopfaaGreatDoorDg26
set_option linter.unusedVariables false
set_option linter.unusedSimpArgs false
set_option maxRecDepth 100000
open Go.Lib renaming hid → Hd
open List renaming setIfInBounds_toArray → jZ, set_cons_zero → jX, set_cons_succ → jY, mem_singleton → jW, getElem?_eq_getElem → jN, length_append → jC, drop_succ_cons → jR, take_succ_cons → jS, drop_zero → jO, take_zero → kK, getD_eq_getElem?_getD → kV, take_succ_eq_append_getElem → kY, append_assoc → kG, length_take → kS, getElem?_map → uV, map_append → uE
open Go.Proofs.Tryz renaming prog → jG
open Go.RowKit.Below renaming refl → jU
open Nat renaming le_refl → jD, le_trans → jI, zero_le → kB, zero_add → kP, add_zero → uS
open Go.IntWalk renaming i64_in → jF
open Go.IntKind renaming i64 → jE
open And renaming intro → kX
open Go.World renaming ownsRow_nil → kD, ownsRow → kR
namespace Go.Proofs.YtaefcahblmopfaaGreatDoor
open Go.RowKit
def wW(s:ByteArray):List Value:=[.string s]
theorem Jp:∀s,(wW s).length=1:=fun _=>rfl
theorem Jg:∀s,∀v∈wW s,v.oneCell'=true:=fun s v hv=>by obtain rfl:=jW.1 hv;rfl
theorem JT:(jG.info? 9).map (fun i=>(i.zero,i.size,i.bytes))=some (some (.string ⟨#[]⟩),1,16):=by kernel_rfl
theorem qQg(n:Nat):u8 (cB n)=Lib.decDigits n:=by
 unfold u8;rw[←nN];rfl
theorem UY:∀l:List Nat,l≠[]→u8 (yV l)=Lib.join (l.map Lib.decDigits) [59]
 |[],h=>absurd rfl h
 |[n],_=>by
  rw[show yV [n]=cB n from rfl,qQg];simp[Lib.join_one]
 |n::m::l,_=>by
  rw[show yV (n::m::l)=cB n++([59]++yV (m::l))from rfl,bX,bX,qQg,UY (m::l) qV];simp only[List.map_cons,Lib.join_cons];rw[show u8 [59]=[59]from rfl];simp[Lib.joinTail]
theorem ZP{α:Type}{enc:α→List Value}(h1:∀a,(enc a).length=1){xs:List α}{j:Nat}{x:α}(h:xs[j]? =some x){v:Value}(hv:(enc x)[0]? =some v):(uY enc xs)[j]? =some v:=by
 have :=yQ h1 xs j x 0 h qZ;rw[Nat.mul_one,uS]at this;rw[this];exact hv
section
variable {w:World}
set_option maxHeartbeats 3200000 in
theorem Y6{b off:Nat}{l:List Nat}(hG:pZ pT 1 w (some ⟨b,off,none⟩) (dQ l))(ca:Nat)(h0:0<l.length)(hz:l.length≤32)(hn:∀n∈l,n≤65535)(ht:fA w):
 Calls jG 317 #[.slice (some ⟨b,off,none⟩) l.length ca] w fun e w'=>e=.returned (.string (strOfNums (yV l)))∧Below w.heap.size w w':=by
 obtain⟨j0,hj,gz0,gz1,gz2⟩:=info_parts JT;have hil:(dQ l).length=l.length:=by unfold dQ;simp
 have HC:Hid (∀k,k<l.length→w.cell? ⟨b,off+k,none⟩=some (.int .i64 (l.getD k 0:Nat))):=Hd (fun k hk=>by
  obtain⟨b',off',h1,h2⟩:=fF hG (i:=k) qJ;injection h1 with h1
  injection h1 with e1 e2
  subst e1 e2;rw[h2];unfold dQ;rw[kV,kV,uV,jN hk];rfl)
 have HI:Hid (∀k w',k<l.length→fA w'→Calls jG 249 #[.int .i64 (l.getD k 0:Nat)] w' fun e w2=>e=.returned (.string (eS (l.getD k 0)))∧Below w'.heap.size w' w2):=Hd (fun k w' hk ht=>sK _ (by
  have :=hn _ (List.getElem_mem hk);rw[kV,jN hk];show l[k]≤_;omega) w' ht)
 obtain⟨X,hX⟩:∃X:Nat→List ByteArray,X=fun k=>(l.take k).map eS:=⟨_,rfl⟩;have HXS:Hid (∀k,k<l.length→X (k+1)=X k++[eS (l.getD k 0)]):=Hd (fun k hk=>by rw[hX];simp only[];rw[kY hk,uE];congr 2;rw[kV,jN hk];rfl);have HX0:Hid (X 0=[]):=Hd (by rw[hX];rfl);have HXL:Hid ((X l.length).length=l.length):=Hd (by rw[hX];simp);have HXE:Hid ((Lib.join ((X l.length).map (·.data.toList)) [59]).length≤1000∧(⟨(Lib.join ((X l.length).map (·.data.toList)) [59]).toArray⟩:ByteArray)=strOfNums (yV l)):=Hd (by
  have e:Lib.join ((X l.length).map (·.data.toList)) [59]=u8 (yV l):=by
   rw[UY l (fun e=>by rw[e]at h0;simp at h0),hX];simp only[];rw[List.take_length,List.map_map];rfl
  rw[e];have :=iZ l hn;refine⟨by rw[eH];omega,?_⟩;unfold u8;rfl)
 have HT:=Hd ht;obtain⟨s1,hs1⟩:∃s1,strOfNums (yV l)=s1:=⟨_,rfl⟩;rw[hs1]at HXE ⊢;obtain⟨L,hL⟩:∃L,l.length=L:=⟨_,rfl⟩;rw[hL]at h0 hz HC HI HXS HXL HXE ⊢;have HLZ:=Hd (kX h0 hz);clear hG hX hL hil h0 hz hn ht hs1
 go_enter Tryz.func317,Tryz.ntmps317
 go_wp2_with fail
 go_loopw [3,5,8] (fun s3 _ s8 wr=>∃k:Nat,s8=.int .i64 k∧k≤L∧wr.ownsRow w.heap.size 9 1 s3 k (uY wW (X k))∧Below w.heap.size w wr) (fun _ _ s8 _=>L-(intOf s8).toNat)
 case atStart=>exact⟨0,rfl,kB _,by rw[HX0.o];exact kD _ _ _ _,jU _ _⟩
 case round=>
  obtain⟨k,rfl,hk,hO,hB⟩:=hrel;obtain⟨bx,rfl⟩:∃bx:Value×Unit,u3=bx.1:=⟨(u3,()),rfl⟩;have HO:=Hd hO;have HB:=Hd hB;have hwk:jE.wrap ((k:Int)+1)=(k:Int)+1:=jF _ qVx;clear hO hB
  by_cases hlt:k<L
  · have hltI:(k:Int)<(L:Int):=by omega
    have hcell:=kZ HB.o (HC.o k hlt);have HIK:=Hd (HI.o k wr hlt (HT.o.below HB.o));have HXK:=Hd (HXS.o k hlt);obtain⟨n,hn⟩:∃n:Nat,l.getD k 0=n:=⟨_,rfl⟩;rw[hn]at hcell HIK HXK;obtain⟨d,hd⟩:∃d,eS n=d:=⟨_,rfl⟩;rw[hd]at HIK HXK;have HSZ:=Hd HB.o.size;clear hn hd
    go_upto_region 5 with fail
    refine wp_region_lit ?_;refine jB (bx.1) qK qK ?_;simp only[Act.put,jZ,jX,jY];refine jB (.int .i64 n) qK qK ?_;simp only[Act.put,jZ,jX,jY];refine zR rfl 249 #[.int .i64 n] qX (HIK.o.mono (fun e w' h=>(⟨_,h.1,rfl,h.2⟩:∃v,e=.returned v∧v=.string d∧Below wr.heap.size wr w'))) ?_;rintro v5 w5 ⟨rfl,hb5⟩;simp only[Act.put,jZ,jX,jY];have hO5:=kC HO.o (Mod.of_below (X:=[]) hb5) (fun _ _ h=>by cases h);have HO3:=Hd (kC hO5 (Mod.of_below (X:=[]) (jH (jU w5.heap.size w5) (.cells #[.string d] 9))) (fun _ _ h=>by cases h));have HBX:=Hd (jH (jM HB.o hb5) (.cells #[.string d] 9));have HSZ5:=Hd hb5.size;clear hO5 hb5;refine uP (.slice (some ⟨w5.heap.size,0,none⟩) 1 1) (w5.alloc (.cells #[.string d] 9)) qK qX ?_;simp only[Act.put,jZ,jX,jY];refine vW (o:=⟨some 16,_,_,_,_,_⟩) rfl (.tmp 12) (.tmp 15) 109 rfl w.heap.size 9 j0 _ 1 16 Tryz.underlying109 hj gz0 gz1 gz2 rfl qZ bx.1 k (uY wW (X k)) rfl HO3.o ⟨w5.heap.size,0,none⟩ 1 1 [.string d] rfl rfl (fun j u hj=>by rw[vC,kP];exact(at_ (jA rfl) j u qH).1) (Jg d) (by have :=HLZ.o.2;simp only[maxLen];omega) qVx (by have :=HSZ.o;have :=HSZ5.o;simp at *;omega) ?_;intro v' w7 ho hg hv'
    have HO7:Hid (w7.ownsRow w.heap.size 9 1 v' (k+1) (uY wW (X (k+1)))):=Hd (by rw[HXK.o,uR];exact ho);have HB7:=Hd (HBX.o.grown hg HBX.o.size (fun b hb=>(kR.lt (show kR _ _ _ _ _ _ _ from HO3.o) b hb).1));simp only[Act.put,jZ,jX,jY];clear ho hg hv'
    go_wp2
    go_roundw
    case rel=>exact⟨k+1,by go_num,by omega,HO7.o,HB7.o⟩
    case measure=>simp[intOf];omega
  · have hltI:¬(k:Int)<(L:Int):=by omega
    obtain rfl:k=L:=by omega
    obtain⟨b8,c8,hv8⟩:=gV HO.o HLZ.o.1;obtain⟨bv,bu⟩:=bx;simp only at hv8;subst hv8;have hcc:=KF HO.o;have hlt8:=kR.lt (show kR _ _ _ _ _ _ _ from HO.o) b8 rfl;have hJ:=JQ b8 c8 (X k) ⟨#[59]⟩ wr (fun j x hx=>by
     have :=kR.cells HO.o (g:=b8) rfl j (.string x) (ZP Jp hx rfl);rw[vC,kP]at this;exact this) hlt8.2 (by rw[HXL.o];have :=HLZ.o.2;omega) (by rw[HXL.o];exact hcc) (by have :=HXE.o.1;exact jI this qZ)
    rw[HXL.o,show(⟨(Lib.join ((X k).map (·.data.toList)) (⟨#[59]⟩:ByteArray).data.toList).toArray⟩:ByteArray)=s1 from HXE.o.2]at hJ;have HJ:=Hd hJ;clear hJ hcc hlt8
    go_wp2_with(go_at_call 55;(with_reducible refine HJ.o.mono ?_);rintro e w9 ⟨rfl,hb⟩;have HB9:=Hd (jM HB.o hb);clear hb)
    go_ret
    exact⟨rfl,HB9.o⟩
end
theorem J3:∀f:Fin 1024,∀k:Fin 10,(decide (bits .and .i64 (f.val:Int) (zE.getD k.val (0,0)).2=0))= !(Qb (f.val:Int) (zE.getD k.val (0,0)).2):=by decide +kernel
def ZC:List Value:=[.int .i64 1,.int .i64 1,.int .i64 2,.int .i64 2,.int .i64 3,.int .i64 4,.int .i64 4,.int .i64 8,.int .i64 5,.int .i64 16,.int .i64 7,.int .i64 32,.int .i64 8,.int .i64 64,.int .i64 9,.int .i64 128,.int .i64 21,.int .i64 256,.int .i64 53,.int .i64 512]
theorem qJ4:∀k:Fin 10,ZC[2*k.val]? =some (.int .i64 (((zE.getD k.val (0,0)).1:Nat):Int))∧ZC[2*k.val+1]? =some (.int .i64 (zE.getD k.val (0,0)).2):=fun k=>by
 have :k.val=0∨k.val=1∨k.val=2∨k.val=3∨k.val=4∨k.val=5∨k.val=6∨k.val=7∨k.val=8∨k.val=9:=by omega
 rcases this with h|h|h|h|h|h|h|h|h|h<;>(rw[h];exact⟨rfl,rfl⟩)
def eR(f:Int)(k:Nat):List Nat:=0::(((zE.take k).filter (fun x=>Qb f x.2)).map (·.1))
theorem YW(f:Int)(k:Nat)(hk:k<10):eR f (k+1)=if Qb f (zE.getD k (0,0)).2 then eR f k++[(zE.getD k (0,0)).1]else eR f k:=by
 unfold eR;have hl:k<zE.length:=hk;rw[kY hl,List.filter_append,uE];have e:zE.getD k (0,0)=zE[k]:=by rw[kV,jN hl];rfl
 rw[e];cases h:Qb f zE[k].2 with
 |true=>rw[if_pos rfl];simp[List.filter,h]
 |false=>rw[if_neg qZ];simp[List.filter,h]
theorem Jj(f:Int)(k:Nat)(hk:k≤10):0<(eR f k).length∧(eR f k).length≤11:=by
 unfold eR;have :=List.length_filter_le (fun x:Nat×Int=>Qb f x.2) (zE.take k);have h2:(zE.take k).length≤10:=by rw[kS];exact jI (Nat.min_le_right _ _) qZ
 simp only[List.length_cons,List.length_map];omega
theorem mH(a b:List Nat):dQ (a++b)=dQ a++dQ b:=by unfold dQ;rw[uE]
theorem mU(a:List Nat):(dQ a).length=a.length:=by unfold dQ;rw[List.length_map]
theorem iU(xs:List Int):uY pT xs=xs.map (Value.int .i64):=by
 induction xs with
 |nil=>rfl
 |cons x xs ih=>show pT x++uY pT xs=_;rw[ih];rfl
theorem UA{w:World}{A:Option Addr}{xs:List Int}(h:pZ pT 1 w A xs)(h0:0<xs.length):∃ad,A=some ad∧∀j u,(uY pT xs)[j]? =some u→w.cell? (ad.add j)=some u:=by
 obtain⟨g,off,rfl,hx⟩:=h h0;refine⟨⟨g,off,none⟩,rfl,fun j u hj=>?_⟩;rw[iU,uV]at hj;cases hxj:xs[j]? with
 |none=>rw[hxj]at hj;cases hj
 |some x=>
  rw[hxj]at hj;have :=hx j x hxj 0 u hj;rw[Nat.mul_one,uS]at this;rw[vC];exact this
section
variable {w:World}
set_option maxHeartbeats 6400000 in
theorem X9(a:Atr)(ha:gQ a)(ht:fA w):
 Calls jG 233 #[.agg #[.int .i64 a.fk,.int .i64 a.fn,.int .i64 a.bk,.int .i64 a.bn,.int .i64 a.fl]] w fun e w'=>e=.returned (.string (strOfNums (yV (pY a))))∧Below w.heap.size w w':=by
 obtain⟨j0,hj,gz0,gz1,gz2⟩:=info_parts aP;have HR:=Hd (fun w'=>QT a.fk a.fn a.bk a.bn a.fl ha w');obtain⟨hc1,hc2,hf0,hf1,-⟩:=ha.parts;have HP1:Hid (∀w',Calls jG 316 #[.agg #[.int .i64 a.fk,.int .i64 a.fn],.int .i64 38] w' (fun e w2=>∃v,e=.returned v∧∃(A:Option Addr) (c:Nat),v=.slice A (pM a.fk a.fn 38).length c∧pZ pT 1 w2 A (dQ (pM a.fk a.fn 38))∧Below w'.heap.size w' w2)):=Hd (fun w'=>(QL a.fk a.fn 38 qZ hc1 w').mono (fun e w2 ⟨A,c,h1,h2⟩=>⟨_,h1,A,c,rfl,h2⟩));have HP2:Hid (∀w',Calls jG 316 #[.agg #[.int .i64 a.bk,.int .i64 a.bn],.int .i64 48] w' (fun e w2=>∃v,e=.returned v∧∃(A:Option Addr) (c:Nat),v=.slice A (pM a.bk a.bn 48).length c∧pZ pT 1 w2 A (dQ (pM a.bk a.bn 48))∧Below w'.heap.size w' w2)):=Hd (fun w'=>(QL a.bk a.bn 48 qZ hc2 w').mono (fun e w2 ⟨A,c,h1,h2⟩=>⟨_,h1,A,c,rfl,h2⟩));have HQ1:=Hd (dO (m:=38) qZ hc1).1;have HQ2:=Hd (dO (m:=48) qZ hc2).1;have HAnd:Hid (∀k:Nat,k<10→(decide (bits .and .i64 a.fl (zE.getD k (0,0)).2=0))= !(Qb a.fl (zE.getD k (0,0)).2)):=Hd (fun k hk=>by
  have :=J3 ⟨a.fl.toNat,by omega⟩ ⟨k,hk⟩
  rwa[show(((⟨a.fl.toNat,by omega⟩:Fin 1024).val:Nat):Int)=a.fl from by show((a.fl.toNat:Nat):Int)=a.fl;omega]at this)
 have hok:=nB ha;have HT:=Hd ht;have hcodes:pY a=eR a.fl 10++(pM a.fk a.fn 38++pM a.bk a.bn 48):=rfl;have HOK:=Hd hok;have HCd:=Hd hcodes;clear ht hok hcodes hc1 hc2 hf0 hf1 ha;obtain⟨W0,hW0⟩:∃W0,w.alloc (.cells #[.int .i64 a.fk,.int .i64 a.fn,.int .i64 a.bk,.int .i64 a.bn,.int .i64 a.fl] 63)=W0:=⟨_,rfl⟩;have HB0:Hid (Below w.heap.size w W0):=Hd (by rw[←hW0];exact jH (jU _ _) _);have HN0:Hid (W0.heap[w.heap.size]? =some (.cells #[.int .i64 a.fk,.int .i64 a.fn,.int .i64 a.bk,.int .i64 a.bn,.int .i64 a.fl] 63 (0,0))):=Hd (by rw[←hW0];exact jA rfl);have d0:W0.cell? ⟨w.heap.size,0,none⟩=some (.int .i64 a.fk):=(at_ HN0.o 0 _ rfl).1;have d1:W0.cell? ⟨w.heap.size,1,none⟩=some (.int .i64 a.fn):=(at_ HN0.o 1 _ rfl).1;have d2:W0.cell? ⟨w.heap.size,2,none⟩=some (.int .i64 a.bk):=(at_ HN0.o 2 _ rfl).1;have d3:W0.cell? ⟨w.heap.size,3,none⟩=some (.int .i64 a.bn):=(at_ HN0.o 3 _ rfl).1;have d4:W0.cell? ⟨w.heap.size,4,none⟩=some (.int .i64 a.fl):=(at_ HN0.o 4 _ rfl).1;obtain⟨sR,hsR⟩:∃sR,strOfNums (yV (pY a))=sR:=⟨_,rfl⟩;rw[hsR];have HSR:=Hd hsR;obtain⟨fk,fn,bk,bn,fl⟩:=a;simp only at HR HP1 HP2 HQ1 HQ2 HAnd HOK HCd HSR HN0 d0 d1 d2 d3 d4 hW0 ⊢;clear hsR
 go_enter Tryz.func233,Tryz.ntmps233
 go_wp2_with(go_at_call 93;(with_reducible refine(HR.o _).mono ?_);rintro e w1 ⟨rfl,hb⟩;have HB1:=Hd hb;clear hb d0 d1 d2 d3 d4)
 rename World=>W1
 clear hW0;obtain⟨W3,hW3⟩:∃W3,(W1.alloc (.cells #[.int .i64 0] 3)).alloc (.cells ZC.toArray 263)=W3:=⟨_,rfl⟩;have HTB:Hid (W3.heap[W1.heap.size+1]? =some (.cells ZC.toArray 263 (0,0))):=Hd (by rw[←hW3];exact jA qV);have HRW:Hid (W3.heap[W1.heap.size]? =some (.cells #[.int .i64 0] 3 (0,0))):=Hd (by rw[←hW3];exact uA (jA rfl));have HB3:Hid (Below W1.heap.size W1 W3):=Hd (by rw[←hW3];exact jH (jH (jU _ _) _) _);rw[show(W1.alloc (.cells #[.int .i64 0] 3)).alloc (.cells #[.int .i64 1,.int .i64 1,.int .i64 2,.int .i64 2,.int .i64 3,.int .i64 4,.int .i64 4,.int .i64 8,.int .i64 5,.int .i64 16,.int .i64 7,.int .i64 32,.int .i64 8,.int .i64 64,.int .i64 9,.int .i64 128,.int .i64 21,.int .i64 256,.int .i64 53,.int .i64 512] 263)=W3 from hW3];clear hW3;have HBX:Hid (∀wr,Below W1.heap.size W1 wr→wr.heap[w.heap.size]? =some (.cells #[.int .i64 fk,.int .i64 fn,.int .i64 bk,.int .i64 bn,.int .i64 fl] 63 (0,0))):=Hd (fun wr hb=>by
  have h1:=(HB1.o.block _ (jL HN0.o)).trans HN0.o;exact(hb.block _ (jL h1)).trans h1)
 have HBW:=Hd (jM HB0.o HB1.o);clear HB0 HB1 HN0 HR;obtain⟨rb,hrb⟩:∃rb,W1.heap.size=rb:=⟨_,rfl⟩;obtain⟨tb,htb⟩:∃tb,rb+1=tb:=⟨_,rfl⟩;rw[hrb]at HTB HRW HB3 HBX ⊢;rw[htb]at HTB ⊢;have HRB:=Hd hrb;have HTB':=Hd htb;clear hrb htb;have hrow0:W3.ownsRow rb 3 1 (.slice (some ⟨rb,0,none⟩) 1 1) 1 [.int .i64 0]:=⟨rfl,.inr ⟨rb,1,#[.int .i64 0],rfl,jD _,HRW.o,jD _,by decide,by decide,rfl⟩⟩;have HRow:=Hd hrow0;clear hrow0
 go_loopw [3,5,22] (fun s3 _ s22 wr=>∃k:Nat,s22=.int .i64 k∧k≤10∧wr.ownsRow rb 3 1 s3 (eR fl k).length (uY pT (dQ (eR fl k)))∧(∀g,s3.ownBlock=some g→g≠tb)∧wr.heap[tb]? =some (.cells ZC.toArray 263 (0,0))∧Below rb W1 wr) (fun _ _ s22 _=>10-(intOf s22).toNat)
 case atStart=>exact⟨0,rfl,by decide,HRow.o,fun g hg=>by obtain rfl:rb=g:=(by simpa[Value.ownBlock]using hg);have :=HTB'.o;omega,HTB.o,HB3.o⟩
 case round=>
  obtain⟨k,rfl,hk,hO,hne,htab,hB⟩:=hrel;obtain⟨bx,rfl⟩:∃bx:Value×Unit,u3=bx.1:=⟨(u3,()),rfl⟩;have HO:=Hd hO;have HNe:=Hd hne;have HTab:=Hd htab;have HB:=Hd hB;have hwk:jE.wrap ((k:Int)+1)=(k:Int)+1:=jF _ qJ;clear hO hne htab hB
  by_cases hlt:k<10
  · have hltI:(k:Int)<10:=by omega
    obtain⟨fv0,fv1⟩:=qJ4 ⟨k,hlt⟩;have hand:=HAnd.o k hlt;have hstep:=YW fl k hlt;have hlen:=Jj fl k qJ;simp only at fv0 fv1;obtain⟨cd,hcd⟩:∃cd,(zE.getD k (0,0)).1=cd:=⟨_,rfl⟩;obtain⟨fg,hfg⟩:∃fg,(zE.getD k (0,0)).2=fg:=⟨_,rfl⟩;rw[hcd]at fv0 hstep;rw[hfg]at fv1 hand hstep;have hc0:wr.cell? ⟨tb,k*2,none⟩=some (.int .i64 (cd:Nat)):=(at_ HTab.o (k*2) _ (by rw[List.getElem?_toArray,Nat.mul_comm];exact fv0)).1;have hc1:wr.cell? ⟨tb,k*2+1,none⟩=some (.int .i64 fg):=(at_ HTab.o (k*2+1) _ (by rw[List.getElem?_toArray,Nat.mul_comm];exact fv1)).1;have hx4:wr.cell? ⟨w.heap.size,4,none⟩=some (.int .i64 fl):=(at_ (HBX.o wr HB.o) 4 _ rfl).1;have HStep:=Hd hstep;have HLen:=Hd hlen;clear fv0 fv1 hcd hfg hstep hlen;obtain⟨q,hq⟩:∃q,bits .and .i64 fl fg=q:=⟨_,rfl⟩;rw[hq]at hand;have HSZ:Hid (rb≤wr.heap.size):=Hd jV
    go_upto_region 7 with fail
    have hb5:=jH (jU wr.heap.size wr) (.cells #[.int .i64 (cd:Nat),.int .i64 fg] 263);have hn5:=jA (W:=wr) (o:=.cells #[.int .i64 (cd:Nat),.int .i64 fg] 263) rfl;have e0:=(at_ hn5 0 (.int .i64 (cd:Nat)) rfl).1;have e1:=(at_ hn5 1 (.int .i64 fg) rfl).1;have x4:=kZ hb5 hx4;have HO5:=Hd (kC HO.o (Mod.of_below (X:=[]) hb5) (fun _ _ h=>by cases h));have HTab5:=Hd ((hb5.block _ (jL HTab.o)).trans HTab.o);have HB5:Hid (Below rb W1 (wr.alloc (.cells #[.int .i64 (cd:Nat),.int .i64 fg] 263))):=Hd (HB.o.alloc HSZ.o _);have HSZ5:Hid (rb≤(wr.alloc (.cells #[.int .i64 (cd:Nat),.int .i64 fg] 263)).heap.size):=Hd (jI HSZ.o hb5.size);have HTL5:Hid (tb<(wr.alloc (.cells #[.int .i64 (cd:Nat),.int .i64 fg] 263)).heap.size):=Hd (jL HTab5.o);generalize wr.alloc (.cells #[.int .i64 (cd:Nat),.int .i64 fg] 263)=W5 at e0 e1 x4 HO5 HTab5 HB5 HSZ5 HTL5 ⊢;generalize wr.heap.size=nb at e0 e1 ⊢;clear hb5 hn5 hc0 hc1 hx4
    by_cases hq0:q=0
    · have hq1:(q==0)=true:=by simp[hq0]
      rw[show decide (q=0)=true from decide_eq_true hq0]at hand;have hstep:=HStep.o;rw[if_neg (by cases h:Qb fl fg;decide;rw[h]at hand;cases hand)]at hstep;have HS2:=Hd hstep;subst hq0;clear hand hstep
      go_wp2_with fail
      go_roundw
      case rel=>exact⟨k+1,by go_num,by omega,by rw[HS2.o];exact HO5.o,HNe.o,HTab5.o,HB5.o⟩
      case measure=>simp[intOf];omega
    · have hq1:(q==0)=false:=beq_eq_false_iff_ne.2 hq0;have hq2:(q != 0)=true:=by simp[hq0]
      rw[show decide (q=0)=false from decide_eq_false hq0]at hand;have hstep:=HStep.o;rw[if_pos (by cases h:Qb fl fg;rw[h]at hand;cases hand;rfl)]at hstep;have HS2:=Hd hstep;clear hand hstep
      go_upto_region 8 with fail
      clear hq hq0 hq1 hq2;refine wp_region_lit ?_;refine jB (bx.1) qK qK ?_;simp only[Act.put,jZ,jX,jY];refine jB (.pointer (some ⟨nb,0,none⟩)) qK qK ?_;simp only[Act.put,jZ,jX,jY];refine jB (.int .i64 (cd:Nat)) qK qX ?_;simp only[Act.put,jZ,jX,jY];have HO6:=Hd (kC HO5.o (Mod.of_below (X:=[]) (jH (jU W5.heap.size W5) (.cells #[.int .i64 (cd:Nat)] 3))) (fun _ _ h=>by cases h));have HTab6:=Hd (((jH (jU W5.heap.size W5) (.cells #[.int .i64 (cd:Nat)] 3)).block _ (jL HTab5.o)).trans HTab5.o);have HB6:=Hd (HB5.o.alloc HSZ5.o (.cells #[.int .i64 (cd:Nat)] 3));refine uP (.slice (some ⟨W5.heap.size,0,none⟩) 1 1) (W5.alloc (.cells #[.int .i64 (cd:Nat)] 3)) qK qX ?_;simp only[Act.put,jZ,jX,jY];refine vW (o:=⟨some 36,_,_,_,_,_⟩) rfl (.tmp 32) (.tmp 35) 241 rfl rb 3 j0 _ 1 8 Tryz.underlying241 hj gz0 gz1 gz2 rfl qZ bx.1 (eR fl k).length (uY pT (dQ (eR fl k))) rfl HO6.o ⟨W5.heap.size,0,none⟩ 1 1 [.int .i64 (cd:Nat)] rfl rfl (fun j u hj=>by rw[vC,kP];exact(at_ (jA rfl) j u qH).1) (mD _) (by have :=HLen.o.2;simp only[maxLen];omega) (by have :=HLen.o.2;omega) (by have :=HSZ5.o;simp at *;omega) ?_;intro v' w7 ho hg hv'
      have HO7:Hid (w7.ownsRow rb 3 1 v' (eR fl (k+1)).length (uY pT (dQ (eR fl (k+1))))):=Hd (by rw[HS2.o,mH,uR,jC];exact ho);have HB7:=Hd (HB6.o.grown hg (by have :=HSZ5.o;rw[World.size_alloc];omega) (fun b hb=>(kR.lt (show kR _ _ _ _ _ _ _ from HO6.o) b hb).1));have HTab7:=Hd ((hg.block tb (jL HTab6.o) (fun e=>HNe.o _ e.symm rfl)).trans HTab6.o);have HNe7:Hid (∀g,v'.ownBlock=some g→g≠tb):=Hd (fun g hg2=>by
       rcases hv' g hg2 with h|h
       · exact HNe.o g h
       · have :=HTL5.o;rw[World.size_alloc]at h;omega)
      simp only[Act.put,jZ,jX,jY];clear ho hg hv'
      go_wp2_with fail
      go_roundw
      case rel=>exact⟨k+1,by go_num,by omega,HO7.o,HNe7.o,HTab7.o,HB7.o⟩
      case measure=>simp[intOf];omega
  · have hltI:¬(k:Int)<10:=by omega
    obtain rfl:k=10:=by omega
    have hx0:wr.cell? ⟨w.heap.size,0,none⟩=some (.int .i64 fk):=(at_ (HBX.o wr HB.o) 0 _ rfl).1;have hx1:wr.cell? ⟨w.heap.size,1,none⟩=some (.int .i64 fn):=(at_ (HBX.o wr HB.o) 1 _ rfl).1;have hlen:=Jj fl 10 qZ;obtain⟨FK,hFK⟩:∃FK,eR fl 10=FK:=⟨_,rfl⟩;obtain⟨P1,hP1⟩:∃P1,pM fk fn 38=P1:=⟨_,rfl⟩;obtain⟨P2,hP2⟩:∃P2,pM bk bn 48=P2:=⟨_,rfl⟩;rw[hFK]at HO hlen HCd;rw[hP1]at HP1 HQ1 HCd;rw[hP2]at HP2 HQ2 HCd;have HLen:=Hd hlen;have HSZ:Hid (rb≤wr.heap.size):=Hd jV;clear hlen hFK hP1 hP2
    go_upto_region 10 with fail
    refine wp_region_lit ?_;refine jB (bx.1) qK qK ?_;simp only[Act.put,jZ,jX,jY];refine jB (.pointer (some ⟨w.heap.size,0,none⟩)) qK qK ?_;simp only[Act.put,jZ,jX,jY];refine jB (.agg #[.int .i64 fk,.int .i64 fn]) qK qX ?_;simp only[Act.put,jZ,jX,jY];refine zR rfl 316 #[.agg #[.int .i64 fk,.int .i64 fn],.int .i64 38] qX (HP1.o wr) ?_;rintro v5 w5 ⟨A5,c5,rfl,hg5,hb5⟩;simp only[Act.put,jZ,jX,jY];have HO5:=Hd (kC HO.o (Mod.of_below (X:=[]) hb5) (fun _ _ h=>by cases h));have HB5:Hid (Below rb W1 w5):=Hd (HB.o.trans (hb5.mono HSZ.o));have HSZ5:Hid (rb≤w5.heap.size):=Hd (jI HSZ.o hb5.size);clear hx0 hx1 hb5;refine lM (o:=⟨some 42,_,_,_,_,_⟩) rfl (.tmp 38) (.tmp 41) 241 rfl rb 3 j0 _ 1 8 Tryz.underlying241 hj gz0 gz1 gz2 rfl qZ bx.1 FK.length (uY pT (dQ FK)) rfl HO5.o HLen.o.1 A5 P1.length c5 (uY pT (dQ P1)) rfl (by rw[iU,List.length_map,mU,Nat.mul_one]) (fun h0=>UA hg5 (by rw[mU];exact h0)) (fun u hu=>by rw[iU]at hu;obtain⟨x,-,rfl⟩:=List.mem_map.1 hu;rfl) (by have :=HLen.o.2;have :=HQ1.o;simp only[maxLen];omega) (by have :=HLen.o.2;have :=HQ1.o;omega) HSZ5.o ?_;intro v' w7 ho hg hv';have HO7:Hid (w7.ownsRow rb 3 1 v' (FK++P1).length (uY pT (dQ (FK++P1)))):=Hd (by rw[mH,uR,jC];exact ho)
    have HB7:=Hd (HB5.o.grown hg HSZ5.o (fun b hb=>(kR.lt (show kR _ _ _ _ _ _ _ from HO5.o) b hb).1));have HSZ7:Hid (rb≤w7.heap.size):=Hd (jI HSZ5.o hg.size);simp only[Act.put,jZ,jX,jY];clear ho hg hv' hg5;obtain⟨by_,rfl⟩:∃by_:Value×Unit,v'=by_.1:=⟨(v',()),rfl⟩;have hx2:w7.cell? ⟨w.heap.size,2,none⟩=some (.int .i64 bk):=(at_ (HBX.o w7 HB7.o) 2 _ rfl).1;have hx3:w7.cell? ⟨w.heap.size,3,none⟩=some (.int .i64 bn):=(at_ (HBX.o w7 HB7.o) 3 _ rfl).1
    go_upto_region 11 with fail
    refine wp_region_lit ?_;refine jB (by_.1) qK qK ?_;simp only[Act.put,jZ,jX,jY];refine jB (.pointer (some ⟨w.heap.size,2,none⟩)) qK qK ?_;simp only[Act.put,jZ,jX,jY];refine jB (.agg #[.int .i64 bk,.int .i64 bn]) qK qX ?_;simp only[Act.put,jZ,jX,jY];refine zR rfl 316 #[.agg #[.int .i64 bk,.int .i64 bn],.int .i64 48] qX (HP2.o w7) ?_;rintro v8 w8 ⟨A8,c8,rfl,hg8,hb8⟩;simp only[Act.put,jZ,jX,jY];have HO8:=Hd (kC HO7.o (Mod.of_below (X:=[]) hb8) (fun _ _ h=>by cases h));have HB8:Hid (Below rb W1 w8):=Hd (HB7.o.trans (hb8.mono HSZ7.o));have HSZ8:Hid (rb≤w8.heap.size):=Hd (jI HSZ7.o hb8.size);clear hx2 hx3 hb8;refine lM (o:=⟨some 47,_,_,_,_,_⟩) rfl (.tmp 43) (.tmp 46) 241 rfl rb 3 j0 _ 1 8 Tryz.underlying241 hj gz0 gz1 gz2 rfl qZ by_.1 (FK++P1).length (uY pT (dQ (FK++P1))) rfl HO8.o (by have :=HLen.o.1;rw[jC];omega) A8 P2.length c8 (uY pT (dQ P2)) rfl (by rw[iU,List.length_map,mU,Nat.mul_one]) (fun h0=>UA hg8 (by rw[mU];exact h0)) (fun u hu=>by rw[iU]at hu;obtain⟨x,-,rfl⟩:=List.mem_map.1 hu;rfl) (by have :=HLen.o.2;have :=HQ1.o;have :=HQ2.o;rw[jC];simp only[maxLen];omega) (by have :=HLen.o.2;have :=HQ1.o;have :=HQ2.o;rw[jC];omega) HSZ8.o ?_;intro v9 w9 ho hg hv'
    obtain⟨g9,c9,rfl⟩:=gV ho (by have :=HLen.o.1;rw[jC];omega);have HO9:Hid (w9.ownsRow rb 3 1 (.slice (some ⟨g9,0,none⟩) ((FK++P1).length+P2.length) c9) (FK++(P1++P2)).length (uY pT (dQ (FK++(P1++P2))))):=Hd (by rw[show(FK++(P1++P2)).length=(FK++P1).length+P2.length by simp;omega,←kG,mH (FK++P1),uR];exact ho);have HB9:=Hd (HB8.o.grown hg HSZ8.o (fun b hb=>(kR.lt (show kR _ _ _ _ _ _ _ from HO8.o) b hb).1));simp only[Act.put,jZ,jX,jY];clear ho hg hv' hg8;rw[show(FK++P1).length+P2.length=(FK++(P1++P2)).length by simp;omega]at HO9 ⊢;rw[←HCd.o]at HO9 ⊢;have hBw:Below w.heap.size w w9:=HBW.o.trans (by
     have :=HB9.o;rw[←HRB.o]at this;exact this.mono HBW.o.size)
    have HBw:=Hd hBw;have HJ:=Hd (Y6 (eF (X:=dQ (pY ⟨fk,fn,bk,bn,fl⟩)) mF (by rw[mU];exact HO9.o)) c9 (List.length_pos_iff.2 HOK.o.1) HOK.o.2.1 HOK.o.2.2 (HT.o.below hBw));rw[HSR.o]at HJ;clear hBw;generalize (pY ⟨fk,fn,bk,bn,fl⟩).length=CL at HJ ⊢
    go_wp2_with(go_at_call 317;(with_reducible refine HJ.o.mono ?_);rintro e wz ⟨rfl,hb⟩;have HBz:=Hd (jM HBw.o hb);clear hb)
    go_ret
    exact⟨rfl,HBz.o⟩
end
def lZ(on a:Atr):List Int:=if eqA on a then[]else yV (pY a)
section
variable {base:Nat}{w:World}
set_option maxHeartbeats 3200000 in
theorem Zi(on a:Atr)(ha:gQ a)(ht:fA w):
 Calls jG 248 #[.agg #[.int .i64 on.fk,.int .i64 on.fn,.int .i64 on.bk,.int .i64 on.bn,.int .i64 on.fl],.agg #[.int .i64 a.fk,.int .i64 a.fn,.int .i64 a.bk,.int .i64 a.bn,.int .i64 a.fl]] w fun e w'=>e=.returned (.string (strOfNums (lZ on a)))∧Below w.heap.size w w':=by
 have HX:Hid (∀w',fA w'→Calls jG 233 #[.agg #[.int .i64 a.fk,.int .i64 a.fn,.int .i64 a.bk,.int .i64 a.bn,.int .i64 a.fl]] w' fun e w2=>e=.returned (.string (strOfNums (yV (pY a))))∧Below w'.heap.size w' w2):=Hd (fun w' ht=>X9 a ha ht);have HT:=Hd ht;have HB2:Hid (∀o1 o2:Obj,Below w.heap.size w ((w.alloc o1).alloc o2)):=Hd (fun o1 o2=>jH (jH (jU _ _) _) _)
 by_cases h:eqA on a=true
 · obtain rfl:=sH.1 h;unfold lZ;rw[if_pos h];clear HX ht h ha;obtain⟨fk,fn,bk,bn,fl⟩:=on;simp only
   go_enter Tryz.func248,Tryz.ntmps248
   go_wp2
   go_ret
   exact⟨rfl,HB2.o _ _⟩
 · unfold lZ;rw[if_neg h];obtain⟨s,hs⟩:∃s,strOfNums (yV (pY a))=s:=⟨_,rfl⟩;rw[hs]at HX ⊢;unfold eqA at h;obtain⟨fk,fn,bk,bn,fl⟩:=on;obtain⟨ak,an,ck,cn,al⟩:=a;simp only at HX h ⊢;have hne:(decide (fk=ak)&&decide (fn=an)&&decide (bk=ck)&&decide (bn=cn)&&decide (fl=al))=false:=by simpa using h
   clear ht ha h hs
   go_enter Tryz.func248,Tryz.ntmps248
   go_wp2_with(go_at_call 233;(with_reducible refine(HX.o _ (HT.o.below (HB2.o _ _))).mono ?_);rintro e w1 ⟨rfl,hb⟩;have HB3:=Hd (jM (HB2.o _ _) hb);clear hb)
   all_goals first
    |(go_ret;exact⟨rfl,HB3.o⟩)
    |(exfalso;simp_all;done)
end
theorem Ux(on a:Atr)(h:eqA on a=false):(⟨#[27,91]⟩:ByteArray)++strOfNums (yV (pY a))++(⟨#[109]⟩:ByteArray)=strOfNums (pP on a):=by
 unfold pP;rw[if_neg (by rw[h];decide),show(⟨#[27,91]⟩:ByteArray)=strOfNums [27,91]from rfl,show(⟨#[109]⟩:ByteArray)=strOfNums [109]from rfl];simp only[yS];rfl
theorem Ji{a:Atr}(ha:gQ a):1≤(yV (pY a)).length∧(yV (pY a)).length≤192:=by
 obtain⟨c1,c2,c3⟩:=nB ha;have :=iZ _ c3;refine⟨?_,by omega⟩
 match h:pY a,c1 with
 |[n],_=>exact QY n
 |n::m::l,_=>
  have :=QY n;show 1≤(cB n++_).length;rw[jC];omega
section
variable {base:Nat}{w:World}{v:Pn}{on:Atr}{l:List UInt8}
set_option maxHeartbeats 3200000 in
theorem tK(h:PnO base w v on l)(hbw:base≤w.heap.size)(ht:fA w)(a:Atr)(ha:gQ a)(hl:l.length≤90000000):
 Calls jG 157 #[.pointer (some ⟨v.P,0,none⟩),.agg #[.int .i64 a.fk,.int .i64 a.fn,.int .i64 a.bk,.int .i64 a.bn,.int .i64 a.fl]] w (nQ base w v a (l++u8 (pP on a))):=by
 obtain⟨W,hW⟩:∃W,w.alloc (.cells #[.int .i64 a.fk,.int .i64 a.fn,.int .i64 a.bk,.int .i64 a.bn,.int .i64 a.fl] 63)=W:=⟨_,rfl⟩;have hb0:Below w.heap.size w W:=by rw[←hW];exact jH (jU _ _) _
 have hn0:W.heap[w.heap.size]? =some (.cells #[.int .i64 a.fk,.int .i64 a.fn,.int .i64 a.bk,.int .i64 a.bn,.int .i64 a.fl] 63 (0,0)):=by rw[←hW];exact jA rfl
 have HB0:=Hd hb0;have HN0:=Hd hn0;have HO:=Hd h;have HCh:Hid (∀w',Below W.heap.size W w'→Calls jG 248 #[.agg #[.int .i64 on.fk,.int .i64 on.fn,.int .i64 on.bk,.int .i64 on.bn,.int .i64 on.fl],.agg #[.int .i64 a.fk,.int .i64 a.fn,.int .i64 a.bk,.int .i64 a.bn,.int .i64 a.fl]] w' fun e w2=>e=.returned (.string (strOfNums (lZ on a)))∧Below w'.heap.size w' w2):=Hd (fun w' hb=>Zi on a ha (ht.below (jM hb0 hb)));have hcl:=Ji ha;have HWR:Hid (eqA on a=false→∀w',Below w.heap.size w w'→Calls jG 101 #[.pointer (some ⟨v.B,0,none⟩),.string ((⟨#[27,91]⟩:ByteArray)++strOfNums (yV (pY a))++(⟨#[109]⟩:ByteArray))] w' (fun e w2=>(∃n:Int,e=.returned (.tuple #[.int .i64 n,.nilIface]))∧gW base w' v on (l++u8 (pP on a)) w2)):=Hd (fun he w' hb=>by
  rw[Ux on a he];refine(eN (h.below hb) (jI hbw hb.size) (strOfNums (pP on a)) ?_).mono (fun e w2 h=>⟨⟨_,h.1⟩,h.2⟩);rw[gE];unfold pP;rw[if_neg (by rw[he];decide)];simp only[List.length_cons,jC];simp;omega)
 obtain⟨⟨c0,-⟩,⟨c1,-⟩,⟨c2,-⟩,⟨c3,-⟩,⟨c4,-⟩,⟨c5,-⟩⟩:=(h.below hb0).facts;have x0:W.cell? ⟨w.heap.size,0,none⟩=some (.int .i64 a.fk):=(at_ hn0 0 _ rfl).1;have x1:W.cell? ⟨w.heap.size,1,none⟩=some (.int .i64 a.fn):=(at_ hn0 1 _ rfl).1;have x2:W.cell? ⟨w.heap.size,2,none⟩=some (.int .i64 a.bk):=(at_ hn0 2 _ rfl).1;have x3:W.cell? ⟨w.heap.size,3,none⟩=some (.int .i64 a.bn):=(at_ hn0 3 _ rfl).1;have x4:W.cell? ⟨w.heap.size,4,none⟩=some (.int .i64 a.fl):=(at_ hn0 4 _ rfl).1;have HCL:=Hd hcl;obtain⟨cs,hcs⟩:∃cs,strOfNums (lZ on a)=cs:=⟨_,rfl⟩;rw[hcs]at HCh;have HCS:=Hd hcs;clear h hbw ht hl hb0 hn0 hcl hcs ha
 go_enter Tryz.func157,Tryz.ntmps157
 go_upto_region 1 with fail
 refine kH 6 (fun w'=>Below W.heap.size W w'∧(w'.cell? ⟨v.P,1,none⟩=some (.int .i64 on.fk)∧w'.cell? ⟨v.P,2,none⟩=some (.int .i64 on.fn)∧w'.cell? ⟨v.P,3,none⟩=some (.int .i64 on.bk)∧w'.cell? ⟨v.P,4,none⟩=some (.int .i64 on.bn)∧w'.cell? ⟨v.P,5,none⟩=some (.int .i64 on.fl))∧(w'.cell? ⟨w.heap.size,0,none⟩=some (.int .i64 a.fk)∧w'.cell? ⟨w.heap.size,1,none⟩=some (.int .i64 a.fn)∧w'.cell? ⟨w.heap.size,2,none⟩=some (.int .i64 a.bk)∧w'.cell? ⟨w.heap.size,3,none⟩=some (.int .i64 a.bn)∧w'.cell? ⟨w.heap.size,4,none⟩=some (.int .i64 a.fl))) qQ qQ ?_ ?_
 · exact⟨(jU _ _).drew,⟨c1,c2,c3,c4,c5⟩,x0,x1,x2,x3,x4⟩
 simp only[jS,kK,jR,jO]
 repeat(
  (first
   |refine kF qK ?_
   |((refine uT 248 #[.agg #[.int .i64 on.fk,.int .i64 on.fn,.int .i64 on.bk,.int .i64 on.bn,.int .i64 on.fl],.agg #[.int .i64 a.fk,.int .i64 a.fn,.int .i64 a.bk,.int .i64 a.bn,.int .i64 a.fl]] (.string cs) qK ?_ (fun w' hS=>(HCh.o w' hS.1).mono fun e w2 ⟨he,hb⟩=>⟨he,jM hS.1 hb,⟨kZ hb hS.2.1.1,kZ hb hS.2.1.2.1,kZ hb hS.2.1.2.2.1,kZ hb hS.2.1.2.2.2.1,kZ hb hS.2.1.2.2.2.2⟩,kZ hb hS.2.2.1,kZ hb hS.2.2.2.1,kZ hb hS.2.2.2.2.1,kZ hb hS.2.2.2.2.2.1,kZ hb hS.2.2.2.2.2.2⟩) ?_;(focus(intro w2;go_simp;done))))
   |(refine kE ?_ qK ?_ ?_;rotate_left;(focus(intro w' hS;obtain⟨hS0,⟨hS1,hS2,hS3,hS4,hS5⟩,hT0,hT1,hT2,hT3,hT4⟩:=hS;go_simp;first|done|with_reducible rfl))))
  simp only[Act.put,jZ,jX,jY])
 refine kO (fun w' hS=>?_);have HB2:=Hd (jM HB0.o hS.1);have HX2:=Hd ((hS.1.block _ (jL HN0.o)).trans HN0.o);clear hS c0 c1 c2 c3 c4 c5 x0 x1 x2 x3 x4 hW;cases he:eqA on a with
 |true=>
  obtain rfl:=sH.1 he;have hcs:=HCS.o;unfold lZ at hcs;rw[if_pos he]at hcs;obtain rfl:(⟨#[]⟩:ByteArray)=cs:=hcs;have htu:pP on on=[]:=by unfold pP;rw[if_pos he]
  go_wp2_with fail
  go_end0
  exact⟨rfl,by rw[htu,show l++u8 []=l from List.append_nil l];exact gW.pre HB2.o (HO.o.below HB2.o).res⟩
 |false=>
  have hcs:=HCS.o;unfold lZ at hcs;rw[if_neg (by rw[he];decide)]at hcs;have hsz:cs.size=(yV (pY a)).length:=by rw[←hcs,gE]
  have hne:cs.toList.isEmpty=false:=by
   rw[Lib.toList_data];have h1:cs.data.toList.length=cs.size:=by rw[Array.length_toList];rfl
   have h2:=HCL.o.1;cases h3:cs.data.toList with
   |nil=>rw[h3]at h1;simp at h1;omega
   |cons x xs=>rfl
  have HWR2:=Hd (HWR.o he);rw[hcs]at HWR2;have n1:¬9223372036854775807<2+cs.size:=by have :=HCL.o.2;omega
  have n2:¬9223372036854775807<2+cs.size+1:=by have :=HCL.o.2;omega
  have n3:¬9223372036854775806<2+cs.size:=by have :=HCL.o.2;omega
  obtain⟨⟨c0,-⟩,-⟩:=(HO.o.below HB2.o).facts;clear HWR hcs hsz he
  go_upto_region 4 with(go_at_call 101;(with_reducible refine(HWR2.o _ HB2.o).mono ?_);rintro e w4 ⟨⟨n,rfl⟩,hr⟩;have HR:=Hd hr;clear hr)
  obtain⟨v4,a1,a2,a3,a4,a5⟩:=HR.o;have HX4:Hid (w4.heap[w.heap.size]? =some (.cells #[.int .i64 a.fk,.int .i64 a.fn,.int .i64 a.bk,.int .i64 a.bn,.int .i64 a.fl] 63 (0,0))):=Hd ((a4.block _ (jL HX2.o) (fun hx=>by have :=(HO.o.lt _ hx).2;omega)).trans HX2.o);have HP4:=Hd a3.p;have HTh:Hid (World.there w4 v.P 1 5):=Hd (fun j hj=>by
   have hp:=a3.p;rw[a1]at hp;have h5:j=0∨j=1∨j=2∨j=3∨j=4:=by omega
   rcases h5 with rfl|rfl|rfl|rfl|rfl
   · exact⟨by rw[(at_ hp 1 _ rfl).1];rfl,(at_ hp 1 _ rfl).2⟩
   · exact⟨by rw[(at_ hp 2 _ rfl).1];rfl,(at_ hp 2 _ rfl).2⟩
   · exact⟨by rw[(at_ hp 3 _ rfl).1];rfl,(at_ hp 3 _ rfl).2⟩
   · exact⟨by rw[(at_ hp 4 _ rfl).1];rfl,(at_ hp 4 _ rfl).2⟩
   · exact⟨by rw[(at_ hp 5 _ rfl).1];rfl,(at_ hp 5 _ rfl).2⟩)
  have hfin:gW base w' v a (l++u8 (pP on a)) (w4.setCells v.P 1 (aL a)):=by
   refine gW.trans a1 a2 a5 a4 ?_;refine a3.turn (vM (.inl (by rw[a1];simp)) _ _ _ (Mod.refl _ _)) ?_;have :=uC (aL a) 1 (Value.pointer (some ⟨v4.B,0,none⟩)::aV on) w4 a3.p (by show 6≤6;decide);rw[a1]at this ⊢;exact this
  have HFin:=Hd (gW.pre HB2.o hfin);clear a1 a2 a3 a4 a5 hfin c0;refine wp_region_lit ?_;refine jB (.pointer (some ⟨v.P,0,none⟩)) qK qK ?_;simp only[Act.put,jZ,jX,jY];have y0:w4.cell? ⟨w.heap.size,0,none⟩=some (.int .i64 a.fk):=(at_ HX4.o 0 _ rfl).1;have y1:w4.cell? ⟨w.heap.size,1,none⟩=some (.int .i64 a.fn):=(at_ HX4.o 1 _ rfl).1;have y2:w4.cell? ⟨w.heap.size,2,none⟩=some (.int .i64 a.bk):=(at_ HX4.o 2 _ rfl).1;have y3:w4.cell? ⟨w.heap.size,3,none⟩=some (.int .i64 a.bn):=(at_ HX4.o 3 _ rfl).1;have y4:w4.cell? ⟨w.heap.size,4,none⟩=some (.int .i64 a.fl):=(at_ HX4.o 4 _ rfl).1;refine jB (.agg #[.int .i64 a.fk,.int .i64 a.fn,.int .i64 a.bk,.int .i64 a.bn,.int .i64 a.fl]) qK qX ?_;simp only[Act.put,jZ,jX,jY];refine jB (.pointer (some ⟨v.P,0,none⟩)) qK qX ?_;simp only[Act.put,jZ,jX,jY];refine jB (.pointer (some ⟨v.P,1,none⟩)) qK qK ?_;simp only[Act.put,jZ,jX,jY];refine wpList_store_mid rfl 63 (.tmp 24) (.tmp 22) rfl (v.P) (1) ((aL a).toArray) rfl rfl (HTh.o) pD (all_oneCell_toArray (Wl a)) ?_
  go_wp2_with fail
  go_end0
  exact⟨rfl,HFin.o⟩
end
theorem Kv(ρ:Operand→Value)(dst:Option Tmp)(ty:TypeId)(pos:String)(af:Array Edge)(gd:Option (Nat×Bool))(x y:Operand)(a b:Atr)
 (hx:ρ x=.agg (aL a).toArray) (hy:ρ y=.agg (aL b).toArray) (w:World):
 (execOp ρ ⟨dst,.binOp .eql 63 x y 63,ty,pos,af,gd⟩).run jG w=.ok (.value (.bool (eqA a b))) w:=by
 obtain⟨a1,a2,a3,a4,a5⟩:=a;obtain⟨b1,b2,b3,b4,b5⟩:=b;simp only[aL]at hx hy;unfold eqA;simp only
 go_simp
 by_cases h1:a1=b1<;>by_cases h2:a2=b2<;>by_cases h3:a3=b3<;>by_cases h4:a4=b4<;>by_cases h5:a5=b5<;>simp[h1,h2,h3,h4,h5]
def dY(y x n:Nat)(on a:Atr):List Int:=if eqA a vI then[]else cQ y x++(pP on a++Qf n)
def mE(on a:Atr):Atr:=if eqA a vI then on else a
theorem qKc(n:Nat):(⟨#[27,91]⟩:ByteArray)++eS n++(⟨#[88]⟩:ByteArray)=strOfNums (Qf n):=by
 unfold Qf;rw[nN,show(⟨#[27,91]⟩:ByteArray)=strOfNums [27,91]from rfl,show(⟨#[88]⟩:ByteArray)=strOfNums [88]from rfl];simp only[yS];rfl
theorem ZA(n:Nat)(hn:n≤1000):(Qf n).length≤9:=by
 have h1:=iP 5 n qJ;show(27::91::(cB n++[88])).length≤9;simp;omega
theorem Ua(on:Atr){a:Atr}(ha:gQ a):(pP on a).length≤195:=by
 unfold pP;have :=(Ji ha).2
 split
 · simp
 · simp;omega
def TB(base:Nat)(w:World):Prop:=∀w',Below base w w'→fA w'
theorem TB.tab{base:Nat}{w:World}(h:TB base w):fA w:=h w (jU _ _)
theorem TB.on{base:Nat}{w w':World}(h:TB base w)(hb:Below base w w'):TB base w':=fun w2 h2=>h w2 (hb.trans h2)
theorem TB.of{w:World}(h:fA w):TB w.heap.size w:=fun _ hb=>h.below hb
section
variable {base:Nat}{w:World}{v:Pn}{on:Atr}{l:List UInt8}
theorem gW.below{on2:Atr}{l2:List UInt8}{w2:World}(h:PnO base w v on l)(hbw:base≤w.heap.size)(hr:gW base w v on2 l2 w2):Below base w w2:=by
 obtain⟨v',-,-,-,hm,-⟩:=hr;exact hm.below (B:=base) (fun b hb=>(h.lt b hb).1) hbw
set_option maxHeartbeats 3200000 in
theorem Vb(h:PnO base w v on l)(hbw:base≤w.heap.size)(ht:TB base w)(y x n:Nat)(hy:y≤1000)(hx:x≤1000)(hn:n≤1000)(a:Atr)(ha:gQ a)(hl:l.length≤80000000):
 Calls jG 246 #[.pointer (some ⟨v.P,0,none⟩),.int .i64 y,.int .i64 x,.int .i64 n,.agg #[.int .i64 a.fk,.int .i64 a.fn,.int .i64 a.bk,.int .i64 a.bn,.int .i64 a.fl]] w (nQ base w v (mE on a) (l++u8 (dY y x n on a))):=by
 obtain⟨W,hW⟩:∃W,w.alloc (.cells #[.int .i64 a.fk,.int .i64 a.fn,.int .i64 a.bk,.int .i64 a.bn,.int .i64 a.fl] 63)=W:=⟨_,rfl⟩;have hb0:Below w.heap.size w W:=by rw[←hW];exact jH (jU _ _) _
 have hn0:W.heap[w.heap.size]? =some (.cells #[.int .i64 a.fk,.int .i64 a.fn,.int .i64 a.bk,.int .i64 a.bn,.int .i64 a.fl] 63 (0,0)):=by rw[←hW];exact jA rfl
 have HB0:=Hd hb0;have HN0:=Hd hn0;have HO:=Hd h;have hm1:=iV y x hy hx;have hm2:=Ua on ha;have hm3:=ZA n hn;have HM:=Hd (tV (h.below hb0) (jI hbw hb0.size) (ht.tab.below hb0) y x hy hx qJ);have HT:=Hd ht;have HBW:=Hd hbw;have HHA:=Hd ha;have HLZ:=Hd (kX hl (kX hm1 (kX hm2 (kX hm3 hn))));have x0:W.cell? ⟨w.heap.size,0,none⟩=some (.int .i64 a.fk):=(at_ hn0 0 _ rfl).1;have x1:W.cell? ⟨w.heap.size,1,none⟩=some (.int .i64 a.fn):=(at_ hn0 1 _ rfl).1;have x2:W.cell? ⟨w.heap.size,2,none⟩=some (.int .i64 a.bk):=(at_ hn0 2 _ rfl).1;have x3:W.cell? ⟨w.heap.size,3,none⟩=some (.int .i64 a.bn):=(at_ hn0 3 _ rfl).1;have x4:W.cell? ⟨w.heap.size,4,none⟩=some (.int .i64 a.fl):=(at_ hn0 4 _ rfl).1;clear h hbw ht hl hb0 hn0 ha hm1 hm2 hm3 hy hx hn
 go_enter Tryz.func246,Tryz.ntmps246
 go_upto_region 1 with fail
 refine wp_region_lit ?_;refine jB (.agg #[.int .i64 a.fk,.int .i64 a.fn,.int .i64 a.bk,.int .i64 a.bn,.int .i64 a.fl]) qK qX ?_;simp only[Act.put,jZ,jX,jY];refine jB (.agg #[.int .i64 0,.int .i64 0,.int .i64 0,.int .i64 0,.int .i64 0]) qK qX ?_;simp only[Act.put,jZ,jX,jY];refine jB (.bool (eqA a vI)) qK (Kv _ _ _ _ _ _ (.tmp 10) (.tmp 11) a vI rfl rfl _) ?_;simp only[Act.put,jZ,jX,jY];cases he:eqA a vI with
 |true=>
  go_wp2_with fail
  go_end0
  exact⟨rfl,by rw[show dY y x n on a=[]from by unfold dY;rw[if_pos he],show mE on a=on from by unfold mE;rw[if_pos he],show l++u8 []=l from List.append_nil l];exact gW.pre HB0.o (HO.o.below HB0.o).res⟩
 |false=>
  go_upto_region 3 with(go_at_call 158;(with_reducible refine HM.o.mono ?_);rintro e w3 ⟨rfl,hr⟩;have HR:=Hd hr;clear hr)
  obtain⟨v3,a1,a2,a3,a4,a5⟩:=HR.o;have hx3:=(a4.block _ (jL HN0.o) (fun hx=>by have :=(HO.o.lt _ hx).2;omega)).trans HN0.o;have hs3:base≤w3.heap.size:=jI HBW.o (jI HB0.o.size a4.size);have hB3:Below base W w3:=gW.below (HO.o.below HB0.o) (jI HBW.o HB0.o.size) HR.o;have hT3:TB base w3:=(HT.o.on (HB0.o.mono HBW.o)).on hB3;have HTu:=Hd (tK a3 hs3 hT3.tab a HHA.o (by have :=HLZ.o;rw[jC,eH];omega));rw[a1]at HTu;have y0:w3.cell? ⟨w.heap.size,0,none⟩=some (.int .i64 a.fk):=(at_ hx3 0 _ rfl).1;have y1:w3.cell? ⟨w.heap.size,1,none⟩=some (.int .i64 a.fn):=(at_ hx3 1 _ rfl).1;have y2:w3.cell? ⟨w.heap.size,2,none⟩=some (.int .i64 a.bk):=(at_ hx3 2 _ rfl).1;have y3:w3.cell? ⟨w.heap.size,3,none⟩=some (.int .i64 a.bn):=(at_ hx3 3 _ rfl).1;have y4:w3.cell? ⟨w.heap.size,4,none⟩=some (.int .i64 a.fl):=(at_ hx3 4 _ rfl).1;have H3:=Hd (kX a1 (kX a2 (kX a3 (kX a4 (kX a5 (kX hs3 hT3))))));clear a1 a2 a3 a4 a5 hx3 hs3 hB3 hT3 x0 x1 x2 x3 x4 HR
  go_upto_region 4 with(go_at_call 157;(with_reducible refine HTu.o.mono ?_);rintro e w4 ⟨rfl,hr⟩;have HR:=Hd hr;clear hr)
  obtain⟨a1,a2,a3,a4,a5,hs3,hT3⟩:=H3.o;obtain⟨v4,b1,b2,b3,b4,b5⟩:=HR.o;have hs4:base≤w4.heap.size:=jI hs3 b4.size;have hT4:TB base w4:=hT3.on (gW.below a3 hs3 HR.o);have HI:Hid (∀w',Below w4.heap.size w4 w'→Calls jG 249 #[.int .i64 n] w' fun e w2=>e=.returned (.string (eS n))∧Below w'.heap.size w' w2):=Hd (fun w' hb=>sK n (by have :=HLZ.o;omega) w' (hT4.tab.below hb));have HWR:Hid (∀w',Below w4.heap.size w4 w'→Calls jG 101 #[.pointer (some ⟨v.B,0,none⟩),.string ((⟨#[27,91]⟩:ByteArray)++eS n++(⟨#[88]⟩:ByteArray))] w' (fun e w2=>(∃k:Int,e=.returned (.tuple #[.int .i64 k,.nilIface]))∧gW base w' v4 a (l++u8 (cQ y x)++u8 (pP on a)++u8 (Qf n)) w2)):=Hd (fun w' hb=>by
   rw[qKc,←a2,←b2];exact(eN (b3.below hb) (jI hs4 hb.size) (strOfNums (Qf n)) (by have :=HLZ.o;rw[gE];simp only[jC,eH];omega)).mono (fun e w2 h=>⟨⟨_,h.1⟩,h.2⟩))
  obtain⟨⟨c0,-⟩,-⟩:=b3.facts;rw[b1,a1,b2,a2]at c0;obtain⟨s1,s1'⟩:=tP n (by have :=HLZ.o;omega);generalize eS n=d1 at HI HWR s1 s1';have n1:¬9223372036854775807<2+d1.size:=by omega
  have n2:¬9223372036854775807<2+d1.size+1:=by omega
  have n3:¬9223372036854775806<2+d1.size:=by omega
  have H4:=Hd (kX b1 (kX b2 (kX b4 b5)));clear a1 a2 a3 a4 a5 hs3 hT3 b1 b2 b3 b4 b5 hs4 hT4 y0 y1 y2 y3 y4 HTu HM HT;refine kH 8 (fun w'=>Below w4.heap.size w4 w'∧w'.cell? ⟨v.P,0,none⟩=some (.pointer (some ⟨v.B,0,none⟩))) qQ qQ ?_ ?_
  · exact⟨(jU _ _).drew,c0⟩
  simp only[jS,kK,jR,jO]
  repeat(
   (first
    |refine kF qK ?_
    |((refine uT 249 #[.int .i64 n] (.string d1) qK ?_ (fun w' hS=>(HI.o w' hS.1).mono fun e w2 ⟨he,hb⟩=>⟨he,jM hS.1 hb,kZ hb hS.2⟩) ?_;(focus(intro w2;go_simp;done))))
    |(refine kE ?_ qK ?_ ?_;rotate_left;(focus(intro w' hS;obtain⟨hS0,hS1⟩:=hS;go_simp;first|done|with_reducible rfl))))
   simp only[Act.put,jZ,jX,jY])
  refine kO (fun w' hS=>?_);have HB5:=Hd hS.1;clear hS c0
  go_wp2_with(go_at_call 101;(with_reducible refine(HWR.o _ HB5.o).mono ?_);rintro e w6 ⟨⟨k,rfl⟩,hr⟩;have HR6:=Hd (gW.pre HB5.o hr);clear hr)
  go_end0
  refine⟨rfl,?_⟩;rw[show dY y x n on a=cQ y x++(pP on a++Qf n)from by unfold dY;rw[if_neg (by rw[he];decide)],show mE on a=a from by unfold mE;rw[if_neg (by rw[he];decide)]];obtain⟨a1,a2,a3,a4,a5,hs3,hT3⟩:=H3.o;obtain⟨b1,b2,b4,b5⟩:=H4.o;rw[bX,bX,←kG,←kG];exact gW.pre HB0.o (gW.trans a1 a2 a5 a4 (gW.trans b1 b2 b5 b4 HR6.o))
end
end Go.Proofs.YtaefcahblmopfaaGreatDoor
