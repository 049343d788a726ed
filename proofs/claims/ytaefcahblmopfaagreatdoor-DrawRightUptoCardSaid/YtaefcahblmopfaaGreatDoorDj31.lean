/- Joined by a tool of this claim out of smaller texts. Conditions: as stated. -/
import Derived.Test.YtaefcahblmopfaaGreatDoorDj30
import Derived.Lib.Builder
import Derived.Lib.AppendStr
import Derived.Lib.UnsafeStr
import Derived.Lib.FrozenHead
import Derived.Shelf.RegionOpenPlain
import Derived.Deep.DeepCutAuto
import Derived.Lib.ItoaNum
import Derived.Lib.AppendIntMem
import Derived.Lib.LaidTab
import Derived.Shelf.Strings.OnBuilder
import Derived.Shelf.Strings.Trim
import Derived.Ground.NamesProg
import Derived.Test.YtaefcahblmopfaaGreatDoorProg
set_option linter.unusedVariables false
set_option linter.unusedSimpArgs false
set_option maxRecDepth 100000
open Go.Lib renaming hid → Hd
open List renaming setIfInBounds_toArray → jZ, set_cons_zero → jX, set_cons_succ → jY, mem_singleton → jM, getElem?_eq_getElem → jN, getElem?_eq_some_iff → jP, length_append → jC, drop_succ_cons → jL, take_succ_cons → jS, drop_zero → jO, take_succ_eq_append_getElem → kQ, take_zero → kK, getD_eq_getElem?_getD → kX, append_assoc → kG, length_take → kC, getElem?_map → uX, map_append → vX
open Go.Proofs.Tryz renaming prog → jG
open Go.RowKit.Below renaming refl → jU
open Nat renaming le_refl → jD, le_trans → jI, zero_le → kM, zero_add → kP, add_zero → uA
open Go.IntWalk renaming i64_in → jF
open Go.IntKind renaming i64 → jE
open And renaming intro → kY
open Go.World renaming ownsRow → kL, ownsRow_nil → kS
open Int renaming toNat_natCast → vV
namespace Go.Proofs.YtaefcahblmopfaaGreatDoor
open Go.RowKit
def fO(w:World):Prop:=Lib.TabIs jG w "internal/strconv.uint64pow10" .u64 Lib.pow10Tab
theorem fO.below{w w':World}(h:fO w)(hb:Below w.heap.size w w'):fO w':=Lib.tabBelow_of_tabIs h w' hb
def fQ(n:Nat):ByteArray:=⟨(Lib.decDigits n).toArray⟩
theorem sW(n:Nat)(hn:n≤100000)(w:World)(ht:fO w):Calls jG 249 #[.int .i64 n] w fun e w'=>e=.returned (.string (fQ n))∧Below w.heap.size w w':=by
 refine(Any.strconv_Itoa Tryz.laysItoa (n:Int) qJ qJ w ht).mono ?_;rintro e w' ⟨rfl,k,os,rfl⟩;refine⟨?_,Lib.below_grow _ w (jD _) k os⟩;rw[Lib.itoa_nonneg];rfl
theorem qVa(n:Nat):∀k,n<10 ^ (k+1)→(Lib.decDigits n).length≤k+1:=by
 intro k
 induction k generalizing n with
 |zero=>
  intro h;rw[Lib.decDigits,dif_pos qJ];simp
 |succ k ih=>
  intro h;rw[Lib.decDigits]
  split
  · simp
  · rw[jC];have :=ih (n/10) (by rw[Nat.pow_succ]at h;omega);simp;omega
theorem tO(n:Nat)(hn:n≤100000):(fQ n).size≤6∧0<(fQ n).size:=by
 have h1:=qVa n 5 qJ;have h2:0<(Lib.decDigits n).length:=by
  rw[Lib.decDigits]
  split<;>simp
 show(Lib.decDigits n).toArray.size≤6∧0<(Lib.decDigits n).toArray.size;rw[List.size_toArray];exact⟨h1,h2⟩
def curS(a b:ByteArray):ByteArray:=((((⟨#[27,91]⟩:ByteArray)++a)++(⟨#[59]⟩:ByteArray))++b)++(⟨#[72]⟩:ByteArray)
def u8(xs:List Int):List UInt8:=(strOfNums xs).data.toList
theorem bU(a b:List Int):u8 (a++b)=u8 a++u8 b:=by
 unfold u8;rw[←yV];simp
theorem eD(xs:List Int):(u8 xs).length=xs.length:=by
 unfold u8;rw[Array.length_toList];exact gJ xs
theorem nF(n:Nat):fQ n=strOfNums (cD n):=by
 unfold fQ cD strOfNums
 congr 1
 rw[List.map_map]
 congr 1
 conv=>lhs;rw[←List.map_id (Lib.decDigits n)]
 refine List.map_congr_left (fun b _=>?_);show b=UInt8.ofNat ((b.toNat:Int)).toNat;rw[vV,UInt8.ofNat_toNat]
theorem U9(y x:Nat):curS (fQ (y+1)) (fQ (x+1))=strOfNums (cV y x):=by
 unfold curS cV;rw[nF,nF,show(⟨#[27,91]⟩:ByteArray)=strOfNums [27,91]from rfl,show(⟨#[59]⟩:ByteArray)=strOfNums [59]from rfl,show(⟨#[72]⟩:ByteArray)=strOfNums [72]from rfl];simp only[yV]
 congr 1
 show _=27::91::((cD (y+1)++59::cD (x+1))++[72]);simp
theorem iG(y x:Nat)(hy:y≤1000)(hx:x≤1000):(cV y x).length≤16:=by
 have h1:=iL 5 (y+1) qJ;have h2:=iL 5 (x+1) qJ;show(27::91::((cD (y+1)++59::cD (x+1))++[72])).length≤16;simp;omega
section
variable {base:Nat}{w:World}{v:Pn}{on:Atr}{l:List UInt8}
set_option maxHeartbeats 3200000 in
theorem tB(h:PnO base w v on l)(hbw:base≤w.heap.size)(ht:fO w)(y x:Nat)(hy:y≤1000)(hx:x≤1000)(hl:l.length≤90000000):
 Calls jG 158 #[.pointer (some ⟨v.P,0,none⟩),.int .i64 y,.int .i64 x] w (nK base w v on (l++u8 (cV y x))):=by
 have HI1:Hid (∀w',fO w'→Calls jG 249 #[.int .i64 ((y:Int)+1)] w' fun e w2=>e=.returned (.string (fQ (y+1)))∧Below w'.heap.size w' w2):=Hd (fun w' ht=>sW (y+1) qJ w' ht);have HI2:Hid (∀w',fO w'→Calls jG 249 #[.int .i64 ((x:Int)+1)] w' fun e w2=>e=.returned (.string (fQ (x+1)))∧Below w'.heap.size w' w2):=Hd (fun w' ht=>sW (x+1) qJ w' ht);have HWR:Hid (∀w',Below w.heap.size w w'→Calls jG 101 #[.pointer (some ⟨v.B,0,none⟩),.string (((((⟨#[27,91]⟩:ByteArray)++fQ (y+1))++(⟨#[59]⟩:ByteArray))++fQ (x+1))++(⟨#[72]⟩:ByteArray))] w' (fun e w2=>(∃n:Int,e=.returned (.tuple #[.int .i64 n,.nilIface]))∧gY base w' v on (l++u8 (cV y x)) w2)):=Hd (fun w' hb=>by
  have e:((((⟨#[27,91]⟩:ByteArray)++fQ (y+1))++(⟨#[59]⟩:ByteArray))++fQ (x+1))++(⟨#[72]⟩:ByteArray)=strOfNums (cV y x):=U9 y x;rw[e];have hz:=iG y x hy hx;exact(eR (h.below hb) (jI hbw hb.size) (strOfNums (cV y x)) (by rw[gJ];omega)).mono (fun e w2 h=>⟨⟨_,h.1⟩,h.2⟩))
 obtain⟨s1,s1'⟩:=tO (y+1) qJ;obtain⟨s2,s2'⟩:=tO (x+1) qJ;generalize fQ (y+1)=d1 at HI1 HWR s1 s1';generalize fQ (x+1)=d2 at HI2 HWR s2 s2';have w1:jE.wrap ((y:Int)+1)=(y:Int)+1:=jF _ qJ;have w2:jE.wrap ((x:Int)+1)=(x:Int)+1:=jF _ qJ;have n0:¬9223372036854775807<2+d1.size:=by omega
 have n1:¬9223372036854775807<2+d1.size+1:=by omega
 have n2:¬9223372036854775806<2+d1.size:=by omega
 have n3:¬9223372036854775807<2+d1.size+1+d2.size:=by omega
 have n4:¬9223372036854775807<2+d1.size+1+d2.size+1:=by omega
 have n5:¬9223372036854775806<2+d1.size+1+d2.size:=by omega
 obtain⟨⟨c0,-⟩,-⟩:=h.facts;have HT:=Hd ht;clear h ht hy hx hl hbw
 go_enter Tryz.func158,Tryz.ntmps158
 go_upto_region 0 with fail
 refine kW 14 (fun w'=>Below w.heap.size w w'∧w'.cell? ⟨v.P,0,none⟩=some (.pointer (some ⟨v.B,0,none⟩))) qQ qQ ?_ ?_
 · exact⟨(jU _ _).drew,c0⟩
 simp only[jS,kK,jL,jO]
 repeat(
  (first
   |refine kF qK ?_
   |((refine uO 249 #[.int .i64 ((y:Int)+1)] (.string d1) qK ?_ (fun w' hS=>(HI1.o w' (HT.o.below hS.1)).mono fun e w2 ⟨he,hb⟩=>⟨he,jW hS.1 hb,kZ hb hS.2⟩) ?_;(focus(intro w2;go_simp;done))))
   |((refine uO 249 #[.int .i64 ((x:Int)+1)] (.string d2) qK ?_ (fun w' hS=>(HI2.o w' (HT.o.below hS.1)).mono fun e w2 ⟨he,hb⟩=>⟨he,jW hS.1 hb,kZ hb hS.2⟩) ?_;(focus(intro w2;go_simp;done))))
   |(refine kT ?_ qK ?_ ?_;rotate_left;(focus(intro w' hS;obtain⟨hS0,hS1⟩:=hS;go_simp;first|done|with_reducible rfl))))
  simp only[Act.put,jZ,jX,jY])
 refine kE (fun w' hS=>?_)
 go_wp2_with(go_at_call 101;(with_reducible refine(HWR.o _ hS.1).mono ?_);rintro e w4 ⟨⟨n,rfl⟩,hr⟩;have HR:=Hd (gY.pre hS.1 hr);clear hr)
 go_end0
 exact⟨rfl,HR.o⟩
end
def dX(l:List Nat):List Int:=l.map fun n:Nat=>(n:Int)
def PntPost(l:List Nat)(w:World)(e:Ending)(w':World):Prop:=∃(A:Option Addr) (c:Nat),e=.returned (.slice A l.length c)∧pT pO 1 w' A (dX l)∧Below w.heap.size w w'
theorem qKq{w:World}{g:Nat}{xs:List Int}{t:TypeId}(h:w.heap[g]? =some (.cells (xs.map (Value.int .i64)).toArray t (0,0))):pT pO 1 w (some ⟨g,0,none⟩) xs:=fun _=>by
 refine⟨g,0,rfl,fun i x hi j v hj=>?_⟩;have hj0:j=0:=by have :=(jP.1 hj).1;simpa[pO]using this
 subst hj0;obtain rfl:Value.int .i64 x=v:=by simpa[pO]using hj
 rw[kP,Nat.mul_one,uA];exact(at_ h i _ (by rw[List.getElem?_toArray,uX,hi];rfl)).1
theorem lV(n:Int):bits .and .i64 n 255=n%256:=by
 have h255:(BitVec.ofInt 64 255).toNat=2 ^ 8-1:=by decide
 have key:(BitVec.ofInt 64 n &&& BitVec.ofInt 64 255).toNat=(n%((2 ^ 64:Nat):Int)).toNat%2 ^ 8:=by
  rw[BitVec.toNat_and,BitVec.toNat_ofInt,h255,Nat.and_two_pow_sub_one_eq_mod]
 show jE.wrap ((BitVec.ofInt 64 n &&& BitVec.ofInt 64 255).toNat:Nat)=n%256;rw[key,IntKind.wrap_i64];omega
set_option maxHeartbeats 1600000 in
theorem Qf(k n:Int)(m:Nat)(hm:m≤255)(hc:bA k n=true)(w:World):Calls jG 316 #[.agg #[.int .i64 k,.int .i64 n],.int .i64 m] w (PntPost (pN k n m) w):=by
 have hk:(k=0∧n=0)∨(k=1∧0≤n∧n<256)∨(k=2∧0≤n∧n<16777216):=by
  unfold bA at hc;rw[decide_eq_true_eq]at hc;omega
 rcases hk with⟨rfl,rfl⟩|⟨rfl,h1,h2⟩|⟨rfl,h1,h2⟩
 · clear hc
   go_enter Tryz.func316,Tryz.ntmps316
   go_wp2
   go_ret
   exact⟨none,0,rfl,fun h=>absurd h (by simp[dX,pN]),jH (jU _ _) _⟩
 · have e:pN 1 n m=[m,5,n.toNat]:=rfl;rw[e];obtain⟨q,rfl⟩:∃q:Nat,n=q:=⟨n.toNat,by omega⟩;rw[vV];clear hc e
   go_enter Tryz.func316,Tryz.ntmps316
   go_wp2
   go_ret
   refine⟨some ⟨w.heap.size+1,0,none⟩,3,rfl,qKq (xs:=dX [m,5,q]) (jT qV),jH (jH (jU _ _) _) _⟩
 · have e:pN 2 n m=[m,2,(n/65536).toNat,(n/256%256).toNat,(n%256).toNat]:=rfl;rw[e];obtain⟨q0,hq0⟩:∃q:Nat,n/65536=q:=⟨(n/65536).toNat,by omega⟩;obtain⟨q1,hq1⟩:∃q:Nat,bits .and .i64 (n/256) 255=q:=⟨(n/256%256).toNat,by rw[lV];omega⟩;obtain⟨q2,hq2⟩:∃q:Nat,bits .and .i64 n 255=q:=⟨(n%256).toNat,by rw[lV];omega⟩;have e2:[m,2,(n/65536).toNat,(n/256%256).toNat,(n%256).toNat]=[m,2,q0,q1,q2]:=by
    rw[←lV (n/256),←lV n,hq0,hq1,hq2];simp only[vV]
   rw[e2];clear hc e e2
   go_enter Tryz.func316,Tryz.ntmps316
   go_wp2
   go_ret
   exact⟨some ⟨w.heap.size+1,0,none⟩,5,rfl,qKq (xs:=dX [m,2,q0,q1,q2]) (jT qV),jH (jH (jU _ _) _) _⟩
theorem lB{P:Program}{ops:Array Oper}{rest:List Oper}{o:Oper}{a:Act}{w:World}{Q:Exit→Act→World→Prop}(hgd:o.guard=none)(s x:Operand)(t:TypeId)
 (ho:o.op=.call {callee:=.builtin .append,args:=#[s,x],argTypes:=#[t,t]}) (base:Nat) (e:TypeId) (i:TypeInfo) (z:Value) (size bytes:Nat) (ht:P.underlying t=some (.slice e)) (hi:P.info? e=some i) (hz:i.zero=some z) (hsize:i.size=size) (hby:i.bytes=bytes) (hzs:z.cells.size=size) (hsz:0<size)
 (v:Value) (n:Nat) (xs:List Value) (hs:a.eval s=v) (hown:w.ownsRow base e size v n xs) (hn:0<n) (A:Option Addr) (m c:Nat) (news:List Value) (hx:a.eval x=.slice A m c) (hl:news.length=m*size) (hnews:0<m→∃ad,A=some ad∧∀j u,news[j]? =some u→w.cell? (ad.add j)=some u) (h1:∀u∈news,u.oneCell'=true)
 (h63:n+m≤maxLen) (hbytes:(n+m)*bytes≤140737488355328) (hbase:base≤w.heap.size)
 (h:∀v' w',w'.ownsRow base e size v' (n+m) (xs++news)→w.grownBy w' v.ownBlock→(∀g,v'.ownBlock=some g→v.ownBlock=some g∨w.heap.size≤g)→wpList P ops Q rest (a.put o.dst v') w'):wpList P ops Q (o::rest) a w:=by
 rcases Nat.eq_zero_or_pos m with rfl|hm
 · have e0:news=[]:=List.length_eq_zero_iff.1 qJ;subst e0;have hown2:=hown;rcases hown.2 with⟨rfl,rfl⟩|⟨g,cap,cur,rfl,hbg,hg,hnc,hcm,hcs,htake⟩
   · have :=hown.1;simp at this;rcases this with h0|h0<;>omega
   · have hr:(Builtin.append_ #[t,t] o.type #[.slice (some ⟨g,0,none⟩) n cap,.slice A 0 c]).run P w=.ok (.slice (some ⟨g,0,none⟩) n cap) w:=by
      cases A<;>simp[Builtin.append_,run_underlying ht,sizeOf,typeInfo,hi,Builtin.lenOf,Builtin.firstCells,loadCells,loadCellsFrom,hnc,storeCells]
     refine wpList_plain hgd fun K hK=>?_;unfold Oper.wp execOp;simp only[ho,resolve,invoke,builtin,Sem.run_bind,Sem.run_pure,Result.andThen_ok,List.map_toArray,List.map_cons,List.map_nil,hs,hx,hr];exact hK _ _ (h _ _ (by rw[uA,List.append_nil];exact hown2) (World.grownBy.refl _ _) (fun g hg=>.inl hg))
 · obtain⟨ad,rfl,hn2⟩:=hnews hm;exact vG hgd s x t ho base e i z size bytes ht hi hz hsize hby hzs hsz v n xs hs hown ad m c news hx hl hn2 h1 h63 hbytes hbase h
end Go.Proofs.YtaefcahblmopfaaGreatDoor
namespace Go.Proofs
open Go.Shelf
def Tryz.laysJoin_ren:Go.Shelf.Ren:=⟨fun|156=>55|165=>103|166=>101|169=>42|240=>168|241=>171|276=>260|277=>261|n=>n,fun|31=>109|9=>9|3=>3|4=>4|0=>0|20=>20|72=>76|76=>164|70=>74|37=>23|75=>162|127=>146|164=>280|5=>5|80=>42|n=>n,fun|n=>n⟩
theorem Tryz.laysJoin:Go.Proofs.Lays.n156 jG Tryz.laysJoin_ren:={
 mixed:=by kernel_rfl
 f156:=Tryz.func55.trans (congrArg some qQ)
 f165:=Tryz.func103.trans (congrArg some qQ)
 f166:=Tryz.func101.trans (congrArg some qQ)
 f169:=Tryz.func42.trans (congrArg some qQ)
 f240:=Tryz.func168.trans (congrArg some qQ)
 f241:=Tryz.func171.trans (congrArg some qQ)
 f276:=Tryz.func260.trans (congrArg some qQ)
 f277:=Tryz.func261.trans (congrArg some qQ)
 t0:=Tryz.underlying0
 a0:=Tryz.isAgg0
 z0:=Tryz.sizeOf0
 v0:=Tryz.zeroValue0
 t3:=Tryz.underlying3
 a3:=Tryz.isAgg3
 z3:=Tryz.sizeOf3
 v3:=Tryz.zeroValue3
 t4:=Tryz.underlying4
 a4:=Tryz.isAgg4
 z4:=Tryz.sizeOf4
 v4:=Tryz.zeroValue4
 t9:=Tryz.underlying9
 a9:=Tryz.isAgg9
 z9:=Tryz.sizeOf9
 v9:=Tryz.zeroValue9
 t20:=Tryz.underlying20
 a20:=Tryz.isAgg20
 z20:=Tryz.sizeOf20
 v20:=Tryz.zeroValue20
 t31:=Tryz.underlying109
 a31:=Tryz.isAgg109
 z31:=Tryz.sizeOf109
 v31:=Tryz.zeroValue109
 t37:=Tryz.underlying23
 a37:=Tryz.isAgg23
 z37:=Tryz.sizeOf23
 v37:=Tryz.zeroValue23
 t70:=Tryz.underlying74
 a70:=Tryz.isAgg74
 z70:=Tryz.sizeOf74
 v70:=Tryz.zeroValue74
 t72:=Tryz.underlying76
 a72:=Tryz.isAgg76
 z72:=Tryz.sizeOf76
 v72:=Tryz.zeroValue76
 t75:=Tryz.underlying162
 a75:=Tryz.isAgg162
 z75:=Tryz.sizeOf162
 v75:=Tryz.zeroValue162
 t76:=Tryz.underlying164
 a76:=Tryz.isAgg164
 z76:=Tryz.sizeOf164
 v76:=Tryz.zeroValue164
 t127:=Tryz.underlying146
 a127:=Tryz.isAgg146
 z127:=Tryz.sizeOf146
 v127:=Tryz.zeroValue146
 t164:=Tryz.underlying280
 a164:=Tryz.isAgg280
 z164:=Tryz.sizeOf280
 v164:=Tryz.zeroValue280}
def Tryz.laysTrimR_ren:Go.Shelf.Ren:=⟨fun|162=>53|232=>95|227=>96|234=>97|236=>98|228=>165|271=>166|151=>167|120=>257|197=>258|152=>259|260=>331|137=>312|119=>332|224=>333|225=>334|217=>371|266=>396|n=>n,fun|9=>9|4=>4|3=>3|5=>5|117=>157|116=>156|0=>0|124=>160|21=>21|105=>219|46=>183|119=>346|139=>349|138=>348|n=>n,fun|3=>1|4=>2|n=>n⟩
theorem Tryz.laysTrimR:Go.Proofs.Lays.n162 jG Tryz.laysTrimR_ren:={
 mixed:=by kernel_rfl
 f119:=Tryz.func332.trans (congrArg some qQ)
 f120:=Tryz.func257.trans (congrArg some qQ)
 f137:=Tryz.func312.trans (congrArg some qQ)
 f151:=Tryz.func167.trans (congrArg some qQ)
 f152:=Tryz.func259.trans (congrArg some qQ)
 f162:=Tryz.func53.trans (congrArg some qQ)
 f197:=Tryz.func258.trans (congrArg some qQ)
 f217:=Tryz.func371.trans (congrArg some qQ)
 f224:=Tryz.func333.trans (congrArg some qQ)
 f225:=Tryz.func334.trans (congrArg some qQ)
 f227:=Tryz.func96.trans (congrArg some qQ)
 f228:=Tryz.func165.trans (congrArg some qQ)
 f232:=Tryz.func95.trans (congrArg some qQ)
 f234:=Tryz.func97.trans (congrArg some qQ)
 f236:=Tryz.func98.trans (congrArg some qQ)
 f260:=Tryz.func331.trans (congrArg some qQ)
 f266:=Tryz.func396.trans (congrArg some qQ)
 f271:=Tryz.func166.trans (congrArg some qQ)
 t0:=Tryz.underlying0
 a0:=Tryz.isAgg0
 z0:=Tryz.sizeOf0
 v0:=Tryz.zeroValue0
 t3:=Tryz.underlying3
 a3:=Tryz.isAgg3
 z3:=Tryz.sizeOf3
 v3:=Tryz.zeroValue3
 t4:=Tryz.underlying4
 a4:=Tryz.isAgg4
 z4:=Tryz.sizeOf4
 v4:=Tryz.zeroValue4
 t5:=Tryz.underlying5
 a5:=Tryz.isAgg5
 z5:=Tryz.sizeOf5
 v5:=Tryz.zeroValue5
 t9:=Tryz.underlying9
 a9:=Tryz.isAgg9
 z9:=Tryz.sizeOf9
 v9:=Tryz.zeroValue9
 t21:=Tryz.underlying21
 a21:=Tryz.isAgg21
 z21:=Tryz.sizeOf21
 v21:=Tryz.zeroValue21
 t46:=Tryz.underlying183
 a46:=Tryz.isAgg183
 z46:=Tryz.sizeOf183
 v46:=Tryz.zeroValue183
 t105:=Tryz.underlying219
 a105:=Tryz.isAgg219
 z105:=Tryz.sizeOf219
 v105:=Tryz.zeroValue219
 t116:=Tryz.underlying156
 a116:=Tryz.isAgg156
 z116:=Tryz.sizeOf156
 t117:=Tryz.underlying157
 a117:=Tryz.isAgg157
 z117:=Tryz.sizeOf157
 v117:=Tryz.zeroValue157
 t119:=Tryz.underlying346
 a119:=Tryz.isAgg346
 z119:=Tryz.sizeOf346
 t124:=Tryz.underlying160
 a124:=Tryz.isAgg160
 z124:=Tryz.sizeOf160
 v124:=Tryz.zeroValue160
 t138:=Tryz.underlying348
 a138:=Tryz.isAgg348
 z138:=Tryz.sizeOf348
 v138:=Tryz.zeroValue348
 t139:=Tryz.underlying349
 a139:=Tryz.isAgg349
 z139:=Tryz.sizeOf349
 v139:=Tryz.zeroValue349
 g3:=by kernel_rfl
 g4:=by kernel_rfl}
end Go.Proofs
namespace Go.Proofs.YtaefcahblmopfaaGreatDoor
open Go.RowKit
theorem Yd:Builder.Extra jG Tryz.laysJoin_ren:=
 {sizeBuilder:=by kernel_rfl
  liesBuilder:=by kernel_rfl
  t5:=Tryz.underlying5
  a5:=Tryz.isAgg5
  z5:=Tryz.sizeOf5
  v5:=Tryz.zeroValue5
  infoByte:=by kernel_rfl
  cellsByte:=by kernel_rfl
  sizeByte:=by kernel_rfl
  neB5:=by decide}
theorem JE(bk c:Nat)(xs:List ByteArray)(sep:ByteArray)(w:World)(hcells:∀(j:Nat) x,xs[j]? =some x→w.cell? ⟨bk,j,none⟩=some (.string x))(hbk:bk<w.heap.size)(hN:xs.length≤1000000)(hcap:xs.length≤c)
 (hlen:(Lib.join (xs.map (·.data.toList)) sep.data.toList).length≤140737488355328):
 Calls jG 55 #[.slice (some ⟨bk,0,none⟩) xs.length c,.string sep] w fun e w'=>e=.returned (.string ⟨(Lib.join (xs.map (·.data.toList)) sep.data.toList).toArray⟩)∧Below w.heap.size w w':=
 Any.strings_Join Tryz.laysJoin Yd bk 0 c xs sep w (fun j x hx=>by rw[kP];exact hcells j x hx) hbk qJ hcap hlen
theorem aM(s:ByteArray)(c:UInt8)(hc:c.toNat<128)(w:World)(hs:s.size≤9223372036854775807):
 Calls jG 53 #[.string s,.string ⟨#[c]⟩] w fun e w'=>e=.returned (.string ⟨(Lib.trimRightB s.data.toList c).toArray⟩)∧w'=w:=Any.strings_TrimRight_one Tryz.laysTrimR s c hc w hs
def wT(s:ByteArray):List Value:=[.string s]
theorem KQ:∀s,(wT s).length=1:=fun _=>rfl
theorem Ja:∀s,∀v∈wT s,v.oneCell'=true:=fun s v hv=>by obtain rfl:=jM.1 hv;rfl
theorem Jm:(jG.info? 9).map (fun i=>(i.zero,i.size,i.bytes))=some (some (.string ⟨#[]⟩),1,16):=by kernel_rfl
theorem qQ3(n:Nat):u8 (cD n)=Lib.decDigits n:=by
 unfold u8;rw[←nF];rfl
theorem Uk:∀l:List Nat,l≠[]→u8 (yY l)=Lib.join (l.map Lib.decDigits) [59]
 |[],h=>absurd rfl h
 |[n],_=>by
  rw[show yY [n]=cD n from rfl,qQ3];simp[Lib.join_one]
 |n::m::l,_=>by
  rw[show yY (n::m::l)=cD n++([59]++yY (m::l))from rfl,bU,bU,qQ3,Uk (m::l) qV];simp only[List.map_cons,Lib.join_cons];rw[show u8 [59]=[59]from rfl];simp[Lib.joinTail]
theorem Zd{α:Type}{enc:α→List Value}(h1:∀a,(enc a).length=1){xs:List α}{j:Nat}{x:α}(h:xs[j]? =some x){v:Value}(hv:(enc x)[0]? =some v):(uM enc xs)[j]? =some v:=by
 have :=yN h1 xs j x 0 h qZ;rw[Nat.mul_one,uA]at this;rw[this];exact hv
section
variable {w:World}
set_option maxHeartbeats 3200000 in
theorem qQo{b off:Nat}{l:List Nat}(hG:pT pO 1 w (some ⟨b,off,none⟩) (dX l))(ca:Nat)(h0:0<l.length)(hz:l.length≤32)(hn:∀n∈l,n≤65535)(ht:fO w):
 Calls jG 317 #[.slice (some ⟨b,off,none⟩) l.length ca] w fun e w'=>e=.returned (.string (strOfNums (yY l)))∧Below w.heap.size w w':=by
 obtain⟨j0,hj,gz0,gz1,gz2⟩:=info_parts Jm;have hil:(dX l).length=l.length:=by unfold dX;simp
 have HC:Hid (∀k,k<l.length→w.cell? ⟨b,off+k,none⟩=some (.int .i64 (l.getD k 0:Nat))):=Hd (fun k hk=>by
  obtain⟨b',off',h1,h2⟩:=fS hG (i:=k) qJ;injection h1 with h1
  injection h1 with e1 e2
  subst e1 e2;rw[h2];unfold dX;rw[kX,kX,uX,jN hk];rfl)
 have HI:Hid (∀k w',k<l.length→fO w'→Calls jG 249 #[.int .i64 (l.getD k 0:Nat)] w' fun e w2=>e=.returned (.string (fQ (l.getD k 0)))∧Below w'.heap.size w' w2):=Hd (fun k w' hk ht=>sW _ (by
  have :=hn _ (List.getElem_mem hk);rw[kX,jN hk];show l[k]≤_;omega) w' ht)
 obtain⟨X,hX⟩:∃X:Nat→List ByteArray,X=fun k=>(l.take k).map fQ:=⟨_,rfl⟩;have HXS:Hid (∀k,k<l.length→X (k+1)=X k++[fQ (l.getD k 0)]):=Hd (fun k hk=>by rw[hX];simp only[];rw[kQ hk,vX];congr 2;rw[kX,jN hk];rfl);have HX0:Hid (X 0=[]):=Hd (by rw[hX];rfl);have HXL:Hid ((X l.length).length=l.length):=Hd (by rw[hX];simp);have HXE:Hid ((Lib.join ((X l.length).map (·.data.toList)) [59]).length≤1000∧(⟨(Lib.join ((X l.length).map (·.data.toList)) [59]).toArray⟩:ByteArray)=strOfNums (yY l)):=Hd (by
  have e:Lib.join ((X l.length).map (·.data.toList)) [59]=u8 (yY l):=by
   rw[Uk l (fun e=>by rw[e]at h0;simp at h0),hX];simp only[];rw[List.take_length,List.map_map];rfl
  rw[e];have :=iU l hn;refine⟨by rw[eD];omega,?_⟩;unfold u8;rfl)
 have HT:=Hd ht;obtain⟨s1,hs1⟩:∃s1,strOfNums (yY l)=s1:=⟨_,rfl⟩;rw[hs1]at HXE ⊢;obtain⟨L,hL⟩:∃L,l.length=L:=⟨_,rfl⟩;rw[hL]at h0 hz HC HI HXS HXL HXE ⊢;have HLZ:=Hd (kY h0 hz);clear hG hX hL hil h0 hz hn ht hs1
 go_enter Tryz.func317,Tryz.ntmps317
 go_wp2_with fail
 go_loopw [3,5,8] (fun s3 _ s8 wr=>∃k:Nat,s8=.int .i64 k∧k≤L∧wr.ownsRow w.heap.size 9 1 s3 k (uM wT (X k))∧Below w.heap.size w wr) (fun _ _ s8 _=>L-(intOf s8).toNat)
 case atStart=>exact⟨0,rfl,kM _,by rw[HX0.o];exact kS _ _ _ _,jU _ _⟩
 case round=>
  obtain⟨k,rfl,hk,hO,hB⟩:=hrel;obtain⟨bx,rfl⟩:∃bx:Value×Unit,u3=bx.1:=⟨(u3,()),rfl⟩;have HO:=Hd hO;have HB:=Hd hB;have hwk:jE.wrap ((k:Int)+1)=(k:Int)+1:=jF _ qZ3;clear hO hB
  by_cases hlt:k<L
  · have hltI:(k:Int)<(L:Int):=by omega
    have hcell:=kZ HB.o (HC.o k hlt);have HIK:=Hd (HI.o k wr hlt (HT.o.below HB.o));have HXK:=Hd (HXS.o k hlt);obtain⟨n,hn⟩:∃n:Nat,l.getD k 0=n:=⟨_,rfl⟩;rw[hn]at hcell HIK HXK;obtain⟨d,hd⟩:∃d,fQ n=d:=⟨_,rfl⟩;rw[hd]at HIK HXK;have HSZ:=Hd HB.o.size;clear hn hd
    go_upto_region 5 with fail
    refine wp_region_lit ?_;refine jB (bx.1) qK qK ?_;simp only[Act.put,jZ,jX,jY];refine jB (.int .i64 n) qK qK ?_;simp only[Act.put,jZ,jX,jY];refine zE rfl 249 #[.int .i64 n] qX (HIK.o.mono (fun e w' h=>(⟨_,h.1,rfl,h.2⟩:∃v,e=.returned v∧v=.string d∧Below wr.heap.size wr w'))) ?_;rintro v5 w5 ⟨rfl,hb5⟩;simp only[Act.put,jZ,jX,jY];have hO5:=kD HO.o (Mod.of_below (X:=[]) hb5) (fun _ _ h=>by cases h);have HO3:=Hd (kD hO5 (Mod.of_below (X:=[]) (jH (jU w5.heap.size w5) (.cells #[.string d] 9))) (fun _ _ h=>by cases h));have HBX:=Hd (jH (jW HB.o hb5) (.cells #[.string d] 9));have HSZ5:=Hd hb5.size;clear hO5 hb5;refine uC (.slice (some ⟨w5.heap.size,0,none⟩) 1 1) (w5.alloc (.cells #[.string d] 9)) qK qX ?_;simp only[Act.put,jZ,jX,jY];refine vG (o:=⟨some 16,_,_,_,_,_⟩) rfl (.tmp 12) (.tmp 15) 109 rfl w.heap.size 9 j0 _ 1 16 Tryz.underlying109 hj gz0 gz1 gz2 rfl qZ bx.1 k (uM wT (X k)) rfl HO3.o ⟨w5.heap.size,0,none⟩ 1 1 [.string d] rfl rfl (fun j u hj=>by rw[vF,kP];exact(at_ (jT rfl) j u qW).1) (Ja d) (by have :=HLZ.o.2;simp only[maxLen];omega) qZ3 (by have :=HSZ.o;have :=HSZ5.o;simp at *;omega) ?_;intro v' w7 ho hg hv'
    have HO7:Hid (w7.ownsRow w.heap.size 9 1 v' (k+1) (uM wT (X (k+1)))):=Hd (by rw[HXK.o,uI];exact ho);have HB7:=Hd (HBX.o.grown hg HBX.o.size (fun b hb=>(kL.lt (show kL _ _ _ _ _ _ _ from HO3.o) b hb).1));simp only[Act.put,jZ,jX,jY];clear ho hg hv'
    go_wp2
    go_roundw
    case rel=>exact⟨k+1,by go_num,by omega,HO7.o,HB7.o⟩
    case measure=>simp[intOf];omega
  · have hltI:¬(k:Int)<(L:Int):=by omega
    obtain rfl:k=L:=by omega
    obtain⟨b8,c8,hv8⟩:=gH HO.o HLZ.o.1;obtain⟨bv,bu⟩:=bx;simp only at hv8;subst hv8;have hcc:=Kh HO.o;have hlt8:=kL.lt (show kL _ _ _ _ _ _ _ from HO.o) b8 rfl;have hJ:=JE b8 c8 (X k) ⟨#[59]⟩ wr (fun j x hx=>by
     have :=kL.cells HO.o (g:=b8) rfl j (.string x) (Zd KQ hx rfl);rw[vF,kP]at this;exact this) hlt8.2 (by rw[HXL.o];have :=HLZ.o.2;omega) (by rw[HXL.o];exact hcc) (by have :=HXE.o.1;exact jI this qZ)
    rw[HXL.o,show(⟨(Lib.join ((X k).map (·.data.toList)) (⟨#[59]⟩:ByteArray).data.toList).toArray⟩:ByteArray)=s1 from HXE.o.2]at hJ;have HJ:=Hd hJ;clear hJ hcc hlt8
    go_wp2_with(go_at_call 55;(with_reducible refine HJ.o.mono ?_);rintro e w9 ⟨rfl,hb⟩;have HB9:=Hd (jW HB.o hb);clear hb)
    go_ret
    exact⟨rfl,HB9.o⟩
end
theorem X4:∀f:Fin 1024,∀k:Fin 10,(decide (bits .and .i64 (f.val:Int) (bJ.getD k.val (0,0)).2=0))= !(JY (f.val:Int) (bJ.getD k.val (0,0)).2):=by decide +kernel
def Ze:List Value:=[.int .i64 1,.int .i64 1,.int .i64 2,.int .i64 2,.int .i64 3,.int .i64 4,.int .i64 4,.int .i64 8,.int .i64 5,.int .i64 16,.int .i64 7,.int .i64 32,.int .i64 8,.int .i64 64,.int .i64 9,.int .i64 128,.int .i64 21,.int .i64 256,.int .i64 53,.int .i64 512]
theorem qKu:∀k:Fin 10,Ze[2*k.val]? =some (.int .i64 (((bJ.getD k.val (0,0)).1:Nat):Int))∧Ze[2*k.val+1]? =some (.int .i64 (bJ.getD k.val (0,0)).2):=fun k=>by
 have :k.val=0∨k.val=1∨k.val=2∨k.val=3∨k.val=4∨k.val=5∨k.val=6∨k.val=7∨k.val=8∨k.val=9:=by omega
 rcases this with h|h|h|h|h|h|h|h|h|h<;>(rw[h];exact⟨rfl,rfl⟩)
def eO(f:Int)(k:Nat):List Nat:=0::(((bJ.take k).filter (fun x=>JY f x.2)).map (·.1))
theorem Yp(f:Int)(k:Nat)(hk:k<10):eO f (k+1)=if JY f (bJ.getD k (0,0)).2 then eO f k++[(bJ.getD k (0,0)).1]else eO f k:=by
 unfold eO;have hl:k<bJ.length:=hk;rw[kQ hl,List.filter_append,vX];have e:bJ.getD k (0,0)=bJ[k]:=by rw[kX,jN hl];rfl
 rw[e];cases h:JY f bJ[k].2 with
 |true=>rw[if_pos rfl];simp[List.filter,h]
 |false=>rw[if_neg qZ];simp[List.filter,h]
theorem Js(f:Int)(k:Nat)(hk:k≤10):0<(eO f k).length∧(eO f k).length≤11:=by
 unfold eO;have :=List.length_filter_le (fun x:Nat×Int=>JY f x.2) (bJ.take k);have h2:(bJ.take k).length≤10:=by rw[kC];exact jI (Nat.min_le_right _ _) qZ
 simp only[List.length_cons,List.length_map];omega
theorem mW(a b:List Nat):dX (a++b)=dX a++dX b:=by unfold dX;rw[vX]
theorem mH(a:List Nat):(dX a).length=a.length:=by unfold dX;rw[List.length_map]
theorem iB(xs:List Int):uM pO xs=xs.map (Value.int .i64):=by
 induction xs with
 |nil=>rfl
 |cons x xs ih=>show pO x++uM pO xs=_;rw[ih];rfl
theorem Um{w:World}{A:Option Addr}{xs:List Int}(h:pT pO 1 w A xs)(h0:0<xs.length):∃ad,A=some ad∧∀j u,(uM pO xs)[j]? =some u→w.cell? (ad.add j)=some u:=by
 obtain⟨g,off,rfl,hx⟩:=h h0;refine⟨⟨g,off,none⟩,rfl,fun j u hj=>?_⟩;rw[iB,uX]at hj;cases hxj:xs[j]? with
 |none=>rw[hxj]at hj;cases hj
 |some x=>
  rw[hxj]at hj;have :=hx j x hxj 0 u hj;rw[Nat.mul_one,uA]at this;rw[vF];exact this
section
variable {w:World}
set_option maxHeartbeats 6400000 in
theorem qQk(a:Atr)(ha:vO a)(ht:fO w):
 Calls jG 233 #[.agg #[.int .i64 a.fk,.int .i64 a.fn,.int .i64 a.bk,.int .i64 a.bn,.int .i64 a.fl]] w fun e w'=>e=.returned (.string (strOfNums (yY (pX a))))∧Below w.heap.size w w':=by
 obtain⟨j0,hj,gz0,gz1,gz2⟩:=info_parts QH;have HR:=Hd (fun w'=>Qm a.fk a.fn a.bk a.bn a.fl ha w');obtain⟨hc1,hc2,hf0,hf1,-⟩:=ha.parts;have HP1:Hid (∀w',Calls jG 316 #[.agg #[.int .i64 a.fk,.int .i64 a.fn],.int .i64 38] w' (fun e w2=>∃v,e=.returned v∧∃(A:Option Addr) (c:Nat),v=.slice A (pN a.fk a.fn 38).length c∧pT pO 1 w2 A (dX (pN a.fk a.fn 38))∧Below w'.heap.size w' w2)):=Hd (fun w'=>(Qf a.fk a.fn 38 qZ hc1 w').mono (fun e w2 ⟨A,c,h1,h2⟩=>⟨_,h1,A,c,rfl,h2⟩));have HP2:Hid (∀w',Calls jG 316 #[.agg #[.int .i64 a.bk,.int .i64 a.bn],.int .i64 48] w' (fun e w2=>∃v,e=.returned v∧∃(A:Option Addr) (c:Nat),v=.slice A (pN a.bk a.bn 48).length c∧pT pO 1 w2 A (dX (pN a.bk a.bn 48))∧Below w'.heap.size w' w2)):=Hd (fun w'=>(Qf a.bk a.bn 48 qZ hc2 w').mono (fun e w2 ⟨A,c,h1,h2⟩=>⟨_,h1,A,c,rfl,h2⟩));have HQ1:=Hd (eZ (m:=38) qZ hc1).1;have HQ2:=Hd (eZ (m:=48) qZ hc2).1;have HAnd:Hid (∀k:Nat,k<10→(decide (bits .and .i64 a.fl (bJ.getD k (0,0)).2=0))= !(JY a.fl (bJ.getD k (0,0)).2)):=Hd (fun k hk=>by
  have :=X4 ⟨a.fl.toNat,by omega⟩ ⟨k,hk⟩
  rwa[show(((⟨a.fl.toNat,by omega⟩:Fin 1024).val:Nat):Int)=a.fl from by show((a.fl.toNat:Nat):Int)=a.fl;omega]at this)
 have hok:=nL ha;have HT:=Hd ht;have hcodes:pX a=eO a.fl 10++(pN a.fk a.fn 38++pN a.bk a.bn 48):=rfl;have HOK:=Hd hok;have HCd:=Hd hcodes;clear ht hok hcodes hc1 hc2 hf0 hf1 ha;obtain⟨W0,hW0⟩:∃W0,w.alloc (.cells #[.int .i64 a.fk,.int .i64 a.fn,.int .i64 a.bk,.int .i64 a.bn,.int .i64 a.fl] 63)=W0:=⟨_,rfl⟩;have HB0:Hid (Below w.heap.size w W0):=Hd (by rw[←hW0];exact jH (jU _ _) _);have HN0:Hid (W0.heap[w.heap.size]? =some (.cells #[.int .i64 a.fk,.int .i64 a.fn,.int .i64 a.bk,.int .i64 a.bn,.int .i64 a.fl] 63 (0,0))):=Hd (by rw[←hW0];exact jT rfl);have d0:W0.cell? ⟨w.heap.size,0,none⟩=some (.int .i64 a.fk):=(at_ HN0.o 0 _ rfl).1;have d1:W0.cell? ⟨w.heap.size,1,none⟩=some (.int .i64 a.fn):=(at_ HN0.o 1 _ rfl).1;have d2:W0.cell? ⟨w.heap.size,2,none⟩=some (.int .i64 a.bk):=(at_ HN0.o 2 _ rfl).1;have d3:W0.cell? ⟨w.heap.size,3,none⟩=some (.int .i64 a.bn):=(at_ HN0.o 3 _ rfl).1;have d4:W0.cell? ⟨w.heap.size,4,none⟩=some (.int .i64 a.fl):=(at_ HN0.o 4 _ rfl).1;obtain⟨sR,hsR⟩:∃sR,strOfNums (yY (pX a))=sR:=⟨_,rfl⟩;rw[hsR];have HSR:=Hd hsR;obtain⟨fk,fn,bk,bn,fl⟩:=a;simp only at HR HP1 HP2 HQ1 HQ2 HAnd HOK HCd HSR HN0 d0 d1 d2 d3 d4 hW0 ⊢;clear hsR
 go_enter Tryz.func233,Tryz.ntmps233
 go_wp2_with(go_at_call 93;(with_reducible refine(HR.o _).mono ?_);rintro e w1 ⟨rfl,hb⟩;have HB1:=Hd hb;clear hb d0 d1 d2 d3 d4)
 rename World=>W1
 clear hW0;obtain⟨W3,hW3⟩:∃W3,(W1.alloc (.cells #[.int .i64 0] 3)).alloc (.cells Ze.toArray 263)=W3:=⟨_,rfl⟩;have HTB:Hid (W3.heap[W1.heap.size+1]? =some (.cells Ze.toArray 263 (0,0))):=Hd (by rw[←hW3];exact jT qV);have HRW:Hid (W3.heap[W1.heap.size]? =some (.cells #[.int .i64 0] 3 (0,0))):=Hd (by rw[←hW3];exact vJ (jT rfl));have HB3:Hid (Below W1.heap.size W1 W3):=Hd (by rw[←hW3];exact jH (jH (jU _ _) _) _);rw[show(W1.alloc (.cells #[.int .i64 0] 3)).alloc (.cells #[.int .i64 1,.int .i64 1,.int .i64 2,.int .i64 2,.int .i64 3,.int .i64 4,.int .i64 4,.int .i64 8,.int .i64 5,.int .i64 16,.int .i64 7,.int .i64 32,.int .i64 8,.int .i64 64,.int .i64 9,.int .i64 128,.int .i64 21,.int .i64 256,.int .i64 53,.int .i64 512] 263)=W3 from hW3];clear hW3;have HBX:Hid (∀wr,Below W1.heap.size W1 wr→wr.heap[w.heap.size]? =some (.cells #[.int .i64 fk,.int .i64 fn,.int .i64 bk,.int .i64 bn,.int .i64 fl] 63 (0,0))):=Hd (fun wr hb=>by
  have h1:=(HB1.o.block _ (jR HN0.o)).trans HN0.o;exact(hb.block _ (jR h1)).trans h1)
 have HBW:=Hd (jW HB0.o HB1.o);clear HB0 HB1 HN0 HR;obtain⟨rb,hrb⟩:∃rb,W1.heap.size=rb:=⟨_,rfl⟩;obtain⟨tb,htb⟩:∃tb,rb+1=tb:=⟨_,rfl⟩;rw[hrb]at HTB HRW HB3 HBX ⊢;rw[htb]at HTB ⊢;have HRB:=Hd hrb;have HTB':=Hd htb;clear hrb htb;have hrow0:W3.ownsRow rb 3 1 (.slice (some ⟨rb,0,none⟩) 1 1) 1 [.int .i64 0]:=⟨rfl,.inr ⟨rb,1,#[.int .i64 0],rfl,jD _,HRW.o,jD _,by decide,by decide,rfl⟩⟩;have HRow:=Hd hrow0;clear hrow0
 go_loopw [3,5,22] (fun s3 _ s22 wr=>∃k:Nat,s22=.int .i64 k∧k≤10∧wr.ownsRow rb 3 1 s3 (eO fl k).length (uM pO (dX (eO fl k)))∧(∀g,s3.ownBlock=some g→g≠tb)∧wr.heap[tb]? =some (.cells Ze.toArray 263 (0,0))∧Below rb W1 wr) (fun _ _ s22 _=>10-(intOf s22).toNat)
 case atStart=>exact⟨0,rfl,by decide,HRow.o,fun g hg=>by obtain rfl:rb=g:=(by simpa[Value.ownBlock]using hg);have :=HTB'.o;omega,HTB.o,HB3.o⟩
 case round=>
  obtain⟨k,rfl,hk,hO,hne,htab,hB⟩:=hrel;obtain⟨bx,rfl⟩:∃bx:Value×Unit,u3=bx.1:=⟨(u3,()),rfl⟩;have HO:=Hd hO;have HNe:=Hd hne;have HTab:=Hd htab;have HB:=Hd hB;have hwk:jE.wrap ((k:Int)+1)=(k:Int)+1:=jF _ qJ;clear hO hne htab hB
  by_cases hlt:k<10
  · have hltI:(k:Int)<10:=by omega
    obtain⟨fv0,fv1⟩:=qKu ⟨k,hlt⟩;have hand:=HAnd.o k hlt;have hstep:=Yp fl k hlt;have hlen:=Js fl k qJ;simp only at fv0 fv1;obtain⟨cd,hcd⟩:∃cd,(bJ.getD k (0,0)).1=cd:=⟨_,rfl⟩;obtain⟨fg,hfg⟩:∃fg,(bJ.getD k (0,0)).2=fg:=⟨_,rfl⟩;rw[hcd]at fv0 hstep;rw[hfg]at fv1 hand hstep;have hc0:wr.cell? ⟨tb,k*2,none⟩=some (.int .i64 (cd:Nat)):=(at_ HTab.o (k*2) _ (by rw[List.getElem?_toArray,Nat.mul_comm];exact fv0)).1;have hc1:wr.cell? ⟨tb,k*2+1,none⟩=some (.int .i64 fg):=(at_ HTab.o (k*2+1) _ (by rw[List.getElem?_toArray,Nat.mul_comm];exact fv1)).1;have hx4:wr.cell? ⟨w.heap.size,4,none⟩=some (.int .i64 fl):=(at_ (HBX.o wr HB.o) 4 _ rfl).1;have HStep:=Hd hstep;have HLen:=Hd hlen;clear fv0 fv1 hcd hfg hstep hlen;obtain⟨q,hq⟩:∃q,bits .and .i64 fl fg=q:=⟨_,rfl⟩;rw[hq]at hand;have HSZ:Hid (rb≤wr.heap.size):=Hd qZc
    go_upto_region 7 with fail
    have hb5:=jH (jU wr.heap.size wr) (.cells #[.int .i64 (cd:Nat),.int .i64 fg] 263);have hn5:=jT (W:=wr) (o:=.cells #[.int .i64 (cd:Nat),.int .i64 fg] 263) rfl;have e0:=(at_ hn5 0 (.int .i64 (cd:Nat)) rfl).1;have e1:=(at_ hn5 1 (.int .i64 fg) rfl).1;have x4:=kZ hb5 hx4;have HO5:=Hd (kD HO.o (Mod.of_below (X:=[]) hb5) (fun _ _ h=>by cases h));have HTab5:=Hd ((hb5.block _ (jR HTab.o)).trans HTab.o);have HB5:Hid (Below rb W1 (wr.alloc (.cells #[.int .i64 (cd:Nat),.int .i64 fg] 263))):=Hd (HB.o.alloc HSZ.o _);have HSZ5:Hid (rb≤(wr.alloc (.cells #[.int .i64 (cd:Nat),.int .i64 fg] 263)).heap.size):=Hd (jI HSZ.o hb5.size);have HTL5:Hid (tb<(wr.alloc (.cells #[.int .i64 (cd:Nat),.int .i64 fg] 263)).heap.size):=Hd (jR HTab5.o);generalize wr.alloc (.cells #[.int .i64 (cd:Nat),.int .i64 fg] 263)=W5 at e0 e1 x4 HO5 HTab5 HB5 HSZ5 HTL5 ⊢;generalize wr.heap.size=nb at e0 e1 ⊢;clear hb5 hn5 hc0 hc1 hx4
    by_cases hq0:q=0
    · have hq1:(q==0)=true:=by simp[hq0]
      rw[show decide (q=0)=true from decide_eq_true hq0]at hand;have hstep:=HStep.o;rw[if_neg (by cases h:JY fl fg;decide;rw[h]at hand;cases hand)]at hstep;have HS2:=Hd hstep;subst hq0;clear hand hstep
      go_wp2_with fail
      go_roundw
      case rel=>exact⟨k+1,by go_num,by omega,by rw[HS2.o];exact HO5.o,HNe.o,HTab5.o,HB5.o⟩
      case measure=>simp[intOf];omega
    · have hq1:(q==0)=false:=beq_eq_false_iff_ne.2 hq0;have hq2:(q != 0)=true:=by simp[hq0]
      rw[show decide (q=0)=false from decide_eq_false hq0]at hand;have hstep:=HStep.o;rw[if_pos (by cases h:JY fl fg;rw[h]at hand;cases hand;rfl)]at hstep;have HS2:=Hd hstep;clear hand hstep
      go_upto_region 8 with fail
      clear hq hq0 hq1 hq2;refine wp_region_lit ?_;refine jB (bx.1) qK qK ?_;simp only[Act.put,jZ,jX,jY];refine jB (.pointer (some ⟨nb,0,none⟩)) qK qK ?_;simp only[Act.put,jZ,jX,jY];refine jB (.int .i64 (cd:Nat)) qK qX ?_;simp only[Act.put,jZ,jX,jY];have HO6:=Hd (kD HO5.o (Mod.of_below (X:=[]) (jH (jU W5.heap.size W5) (.cells #[.int .i64 (cd:Nat)] 3))) (fun _ _ h=>by cases h));have HTab6:=Hd (((jH (jU W5.heap.size W5) (.cells #[.int .i64 (cd:Nat)] 3)).block _ (jR HTab5.o)).trans HTab5.o);have HB6:=Hd (HB5.o.alloc HSZ5.o (.cells #[.int .i64 (cd:Nat)] 3));refine uC (.slice (some ⟨W5.heap.size,0,none⟩) 1 1) (W5.alloc (.cells #[.int .i64 (cd:Nat)] 3)) qK qX ?_;simp only[Act.put,jZ,jX,jY];refine vG (o:=⟨some 36,_,_,_,_,_⟩) rfl (.tmp 32) (.tmp 35) 241 rfl rb 3 j0 _ 1 8 Tryz.underlying241 hj gz0 gz1 gz2 rfl qZ bx.1 (eO fl k).length (uM pO (dX (eO fl k))) rfl HO6.o ⟨W5.heap.size,0,none⟩ 1 1 [.int .i64 (cd:Nat)] rfl rfl (fun j u hj=>by rw[vF,kP];exact(at_ (jT rfl) j u qW).1) (mL _) (by have :=HLen.o.2;simp only[maxLen];omega) (by have :=HLen.o.2;omega) (by have :=HSZ5.o;simp at *;omega) ?_;intro v' w7 ho hg hv'
      have HO7:Hid (w7.ownsRow rb 3 1 v' (eO fl (k+1)).length (uM pO (dX (eO fl (k+1))))):=Hd (by rw[HS2.o,mW,uI,jC];exact ho);have HB7:=Hd (HB6.o.grown hg (by have :=HSZ5.o;rw[World.size_alloc];omega) (fun b hb=>(kL.lt (show kL _ _ _ _ _ _ _ from HO6.o) b hb).1));have HTab7:=Hd ((hg.block tb (jR HTab6.o) (fun e=>HNe.o _ e.symm rfl)).trans HTab6.o);have HNe7:Hid (∀g,v'.ownBlock=some g→g≠tb):=Hd (fun g hg2=>by
       rcases hv' g hg2 with h|h
       · exact HNe.o g h
       · have :=HTL5.o;rw[World.size_alloc]at h;omega)
      simp only[Act.put,jZ,jX,jY];clear ho hg hv'
      go_wp2_with fail
      go_roundw
      case rel=>exact⟨k+1,by go_num,by omega,HO7.o,HNe7.o,HTab7.o,HB7.o⟩
      case measure=>simp[intOf];omega
  · have hltI:¬(k:Int)<10:=by omega
    obtain rfl:k=10:=by omega
    have hx0:wr.cell? ⟨w.heap.size,0,none⟩=some (.int .i64 fk):=(at_ (HBX.o wr HB.o) 0 _ rfl).1;have hx1:wr.cell? ⟨w.heap.size,1,none⟩=some (.int .i64 fn):=(at_ (HBX.o wr HB.o) 1 _ rfl).1;have hlen:=Js fl 10 qZ;obtain⟨FK,hFK⟩:∃FK,eO fl 10=FK:=⟨_,rfl⟩;obtain⟨P1,hP1⟩:∃P1,pN fk fn 38=P1:=⟨_,rfl⟩;obtain⟨P2,hP2⟩:∃P2,pN bk bn 48=P2:=⟨_,rfl⟩;rw[hFK]at HO hlen HCd;rw[hP1]at HP1 HQ1 HCd;rw[hP2]at HP2 HQ2 HCd;have HLen:=Hd hlen;have HSZ:Hid (rb≤wr.heap.size):=Hd qZc;clear hlen hFK hP1 hP2
    go_upto_region 10 with fail
    refine wp_region_lit ?_;refine jB (bx.1) qK qK ?_;simp only[Act.put,jZ,jX,jY];refine jB (.pointer (some ⟨w.heap.size,0,none⟩)) qK qK ?_;simp only[Act.put,jZ,jX,jY];refine jB (.agg #[.int .i64 fk,.int .i64 fn]) qK qX ?_;simp only[Act.put,jZ,jX,jY];refine zE rfl 316 #[.agg #[.int .i64 fk,.int .i64 fn],.int .i64 38] qX (HP1.o wr) ?_;rintro v5 w5 ⟨A5,c5,rfl,hg5,hb5⟩;simp only[Act.put,jZ,jX,jY];have HO5:=Hd (kD HO.o (Mod.of_below (X:=[]) hb5) (fun _ _ h=>by cases h));have HB5:Hid (Below rb W1 w5):=Hd (HB.o.trans (hb5.mono HSZ.o));have HSZ5:Hid (rb≤w5.heap.size):=Hd (jI HSZ.o hb5.size);clear hx0 hx1 hb5;refine lB (o:=⟨some 42,_,_,_,_,_⟩) rfl (.tmp 38) (.tmp 41) 241 rfl rb 3 j0 _ 1 8 Tryz.underlying241 hj gz0 gz1 gz2 rfl qZ bx.1 FK.length (uM pO (dX FK)) rfl HO5.o HLen.o.1 A5 P1.length c5 (uM pO (dX P1)) rfl (by rw[iB,List.length_map,mH,Nat.mul_one]) (fun h0=>Um hg5 (by rw[mH];exact h0)) (fun u hu=>by rw[iB]at hu;obtain⟨x,-,rfl⟩:=List.mem_map.1 hu;rfl) (by have :=HLen.o.2;have :=HQ1.o;simp only[maxLen];omega) (by have :=HLen.o.2;have :=HQ1.o;omega) HSZ5.o ?_;intro v' w7 ho hg hv';have HO7:Hid (w7.ownsRow rb 3 1 v' (FK++P1).length (uM pO (dX (FK++P1)))):=Hd (by rw[mW,uI,jC];exact ho)
    have HB7:=Hd (HB5.o.grown hg HSZ5.o (fun b hb=>(kL.lt (show kL _ _ _ _ _ _ _ from HO5.o) b hb).1));have HSZ7:Hid (rb≤w7.heap.size):=Hd (jI HSZ5.o hg.size);simp only[Act.put,jZ,jX,jY];clear ho hg hv' hg5;obtain⟨by_,rfl⟩:∃by_:Value×Unit,v'=by_.1:=⟨(v',()),rfl⟩;have hx2:w7.cell? ⟨w.heap.size,2,none⟩=some (.int .i64 bk):=(at_ (HBX.o w7 HB7.o) 2 _ rfl).1;have hx3:w7.cell? ⟨w.heap.size,3,none⟩=some (.int .i64 bn):=(at_ (HBX.o w7 HB7.o) 3 _ rfl).1
    go_upto_region 11 with fail
    refine wp_region_lit ?_;refine jB (by_.1) qK qK ?_;simp only[Act.put,jZ,jX,jY];refine jB (.pointer (some ⟨w.heap.size,2,none⟩)) qK qK ?_;simp only[Act.put,jZ,jX,jY];refine jB (.agg #[.int .i64 bk,.int .i64 bn]) qK qX ?_;simp only[Act.put,jZ,jX,jY];refine zE rfl 316 #[.agg #[.int .i64 bk,.int .i64 bn],.int .i64 48] qX (HP2.o w7) ?_;rintro v8 w8 ⟨A8,c8,rfl,hg8,hb8⟩;simp only[Act.put,jZ,jX,jY];have HO8:=Hd (kD HO7.o (Mod.of_below (X:=[]) hb8) (fun _ _ h=>by cases h));have HB8:Hid (Below rb W1 w8):=Hd (HB7.o.trans (hb8.mono HSZ7.o));have HSZ8:Hid (rb≤w8.heap.size):=Hd (jI HSZ7.o hb8.size);clear hx2 hx3 hb8;refine lB (o:=⟨some 47,_,_,_,_,_⟩) rfl (.tmp 43) (.tmp 46) 241 rfl rb 3 j0 _ 1 8 Tryz.underlying241 hj gz0 gz1 gz2 rfl qZ by_.1 (FK++P1).length (uM pO (dX (FK++P1))) rfl HO8.o (by have :=HLen.o.1;rw[jC];omega) A8 P2.length c8 (uM pO (dX P2)) rfl (by rw[iB,List.length_map,mH,Nat.mul_one]) (fun h0=>Um hg8 (by rw[mH];exact h0)) (fun u hu=>by rw[iB]at hu;obtain⟨x,-,rfl⟩:=List.mem_map.1 hu;rfl) (by have :=HLen.o.2;have :=HQ1.o;have :=HQ2.o;rw[jC];simp only[maxLen];omega) (by have :=HLen.o.2;have :=HQ1.o;have :=HQ2.o;rw[jC];omega) HSZ8.o ?_;intro v9 w9 ho hg hv'
    obtain⟨g9,c9,rfl⟩:=gH ho (by have :=HLen.o.1;rw[jC];omega);have HO9:Hid (w9.ownsRow rb 3 1 (.slice (some ⟨g9,0,none⟩) ((FK++P1).length+P2.length) c9) (FK++(P1++P2)).length (uM pO (dX (FK++(P1++P2))))):=Hd (by rw[show(FK++(P1++P2)).length=(FK++P1).length+P2.length by simp;omega,←kG,mW (FK++P1),uI];exact ho);have HB9:=Hd (HB8.o.grown hg HSZ8.o (fun b hb=>(kL.lt (show kL _ _ _ _ _ _ _ from HO8.o) b hb).1));simp only[Act.put,jZ,jX,jY];clear ho hg hv' hg8;rw[show(FK++P1).length+P2.length=(FK++(P1++P2)).length by simp;omega]at HO9 ⊢;rw[←HCd.o]at HO9 ⊢;have hBw:Below w.heap.size w w9:=HBW.o.trans (by
     have :=HB9.o;rw[←HRB.o]at this;exact this.mono HBW.o.size)
    have HBw:=Hd hBw;have HJ:=Hd (qQo (eE (X:=dX (pX ⟨fk,fn,bk,bn,fl⟩)) mR (by rw[mH];exact HO9.o)) c9 (List.length_pos_iff.2 HOK.o.1) HOK.o.2.1 HOK.o.2.2 (HT.o.below hBw));rw[HSR.o]at HJ;clear hBw;generalize (pX ⟨fk,fn,bk,bn,fl⟩).length=CL at HJ ⊢
    go_wp2_with(go_at_call 317;(with_reducible refine HJ.o.mono ?_);rintro e wz ⟨rfl,hb⟩;have HBz:=Hd (jW HBw.o hb);clear hb)
    go_ret
    exact⟨rfl,HBz.o⟩
end
def lG(on a:Atr):List Int:=if eqA on a then[]else yY (pX a)
section
variable {base:Nat}{w:World}
set_option maxHeartbeats 3200000 in
theorem XN(on a:Atr)(ha:vO a)(ht:fO w):
 Calls jG 248 #[.agg #[.int .i64 on.fk,.int .i64 on.fn,.int .i64 on.bk,.int .i64 on.bn,.int .i64 on.fl],.agg #[.int .i64 a.fk,.int .i64 a.fn,.int .i64 a.bk,.int .i64 a.bn,.int .i64 a.fl]] w fun e w'=>e=.returned (.string (strOfNums (lG on a)))∧Below w.heap.size w w':=by
 have HX:Hid (∀w',fO w'→Calls jG 233 #[.agg #[.int .i64 a.fk,.int .i64 a.fn,.int .i64 a.bk,.int .i64 a.bn,.int .i64 a.fl]] w' fun e w2=>e=.returned (.string (strOfNums (yY (pX a))))∧Below w'.heap.size w' w2):=Hd (fun w' ht=>qQk a ha ht);have HT:=Hd ht;have HB2:Hid (∀o1 o2:Obj,Below w.heap.size w ((w.alloc o1).alloc o2)):=Hd (fun o1 o2=>jH (jH (jU _ _) _) _)
 by_cases h:eqA on a=true
 · obtain rfl:=sS.1 h;unfold lG;rw[if_pos h];clear HX ht h ha;obtain⟨fk,fn,bk,bn,fl⟩:=on;simp only
   go_enter Tryz.func248,Tryz.ntmps248
   go_wp2
   go_ret
   exact⟨rfl,HB2.o _ _⟩
 · unfold lG;rw[if_neg h];obtain⟨s,hs⟩:∃s,strOfNums (yY (pX a))=s:=⟨_,rfl⟩;rw[hs]at HX ⊢;unfold eqA at h;obtain⟨fk,fn,bk,bn,fl⟩:=on;obtain⟨ak,an,ck,cn,al⟩:=a;simp only at HX h ⊢;have hne:(decide (fk=ak)&&decide (fn=an)&&decide (bk=ck)&&decide (bn=cn)&&decide (fl=al))=false:=by simpa using h
   clear ht ha h hs
   go_enter Tryz.func248,Tryz.ntmps248
   go_wp2_with(go_at_call 233;(with_reducible refine(HX.o _ (HT.o.below (HB2.o _ _))).mono ?_);rintro e w1 ⟨rfl,hb⟩;have HB3:=Hd (jW (HB2.o _ _) hb);clear hb)
   all_goals first
    |(go_ret;exact⟨rfl,HB3.o⟩)
    |(exfalso;simp_all;done)
end
end Go.Proofs.YtaefcahblmopfaaGreatDoor
