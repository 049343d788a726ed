/- Joined by a tool of this claim out of smaller texts. Conditions: as stated. -/
import Derived.Test.YtaefcahblmopfaaGreatDoorDg22
import Derived.Maps.AppendAt
set_option linter.unusedVariables false
set_option linter.unusedSimpArgs false
set_option maxRecDepth 100000
open Go.Lib renaming hid → Hd
open List renaming setIfInBounds_toArray → jZ, set_cons_zero → jX, set_cons_succ → jY, mem_singleton → jW, mem_append → kM, length_take → kS, getElem?_map → uV, take_of_length_le → vV, getElem?_drop → gH
open Go.Proofs.Tryz renaming prog → jG
open Go.RowKit.Below renaming refl → jU
open Nat renaming le_refl → jD, zero_le → kB, zero_add → kP
open Go.IntWalk renaming i64_in → jF
open Go.IntKind renaming i64 → jE
open ByteArray renaming empty → kU
open Go.World renaming ownsRow_nil → kD
namespace Go.Proofs.YtaefcahblmopfaaGreatDoor
open Go.RowKit
section
variable {P:Program}
theorem bB{ops:Array Oper}{rest:List Oper}{o:Oper}{a:Act}{w:World}{Q:Exit→Act→World→Prop}(hgd:o.guard=none)(s x:Operand)(t:TypeId)
 (ho:o.op=.call {callee:=.builtin .append,args:=#[s,x],argTypes:=#[t,t]}) (base:Nat) (e:TypeId) (i:TypeInfo) (z:Value) (size bytes:Nat) (ht:P.underlying t=some (.slice e)) (hi:P.info? e=some i) (hz:i.zero=some z) (hsize:i.size=size) (hby:i.bytes=bytes) (hzs:z.cells.size=size) (hsz:0<size)
 (v:Value) (n:Nat) (xs:List Value) (hs:a.eval s=v) (hown:w.ownsRow base e size v n xs) (ad:Addr) (m c:Nat) (news:List Value) (hx:a.eval x=.slice (some ad) m c) (hl:news.length=m*size) (hnews:∀j u,news[j]? =some u→w.cell? (ad.add j)=some u) (h1:∀u∈news,u.oneCell'=true)
 (h63:n+m≤maxLen) (hbytes:(n+m)*bytes≤140737488355328) (hbase:base≤w.heap.size)
 (h:∀v' w',w'.ownsRow base e size v' (n+m) (xs++news)→w.grownBy w' v.ownBlock→(∀g,v'.ownBlock=some g→v.ownBlock=some g∨w.heap.size≤g)→wpList P ops Q rest (a.put o.dst v') w'):wpList P ops Q (o::rest) a w:=by
 obtain⟨v',w',hr,h2,h3,-,h4⟩:=run_append_own_at (P:=P) w base t o.type e i z size bytes ht hi hz hsize hby hzs hsz v n xs hown ad m c news hl hnews h1 h63 hbytes hbase;refine wpList_plain hgd fun K hK=>?_;unfold Oper.wp execOp;simp only[ho,resolve,invoke,builtin,Sem.run_bind,Sem.run_pure,Result.andThen_ok,List.map_toArray,List.map_cons,List.map_nil,hs,hx,hr];exact hK _ _ (h _ _ h2 h3 (fun g hg=>by
  rcases h4 with h4|h4
  · exact .inl (by rw[←h4];exact hg)
  · rw[h4]at hg;injection hg with hg;exact .inr qJ))
end
def Zw(base:Nat)(w:World)(v:Value)(ys:List Int):Prop:=w.ownsRow base 5 1 v ys.length (ys.map (.int .u8))∧∀x∈ys,0≤x∧x<256
theorem BsS.src{w:World}{g off:Nat}{xs:List Int}(h:BsS w g off xs):∀j u,(xs.map (Value.int .u8))[j]? =some u→w.cell? ((⟨g,off,none⟩:Addr).add j)=some u:=fun j u hu=>by
 rw[uV]at hu;obtain⟨x,hx,rfl⟩:=Option.map_eq_some_iff.1 hu;rw[show(⟨g,off,none⟩:Addr).add j=⟨g,off+j,none⟩from by unfold Addr.add;split<;>simp_all];exact h j x hx
theorem qJo(xs:List Int):∀u∈xs.map (Value.int .u8),u.oneCell'=true:=fun u hu=>by
 obtain⟨x,_,rfl⟩:=List.mem_map.1 hu;rfl
theorem eQ{base n:Nat}{w:World}{v:Value}{xs:List Value}(h:w.ownsRow base 5 1 v n xs)(h0:0<n):∃g c,v=.slice (some ⟨g,0,none⟩) n c∧g<w.heap.size∧base≤g:=by
 rcases h.2 with⟨rfl,h1⟩|⟨g,cap,cur,rfl,hb,hg,_⟩
 · omega
 · exact⟨g,cap,rfl,jL hg,hb⟩
theorem lU{B:Nat}{w w1 w2:World}(h:Below B w w1)(hg:w1.grownBy w2 none)(hB:B≤w1.heap.size):Below B w w2:=h.grown hg hB (fun k e=>by cases e)
def TwoB(W:World)(k:Nat)(a b:Value)(w:World):Prop:=∃(m g1 c1 g2 c2:Nat) (ys zs:List Int),a=.slice (some ⟨g1,0,none⟩) m c1∧b=.slice (some ⟨g2,0,none⟩) m c2∧ys.length=m∧zs.length=m∧Zw W.heap.size w a ys∧Zw W.heap.size w b zs∧g1≠g2∧0<m∧m≤k∧Below W.heap.size W w
theorem Qo{B y1 y2 n n1 d1 d2:Nat}{w w1:World}{o:Obj}{ys zs:List Int}{x:Int}{v1:Value}(hy:Zw B w (.slice (some ⟨y1,0,none⟩) n1 d1) ys)(hz:Zw B w (.slice (some ⟨y2,0,none⟩) n d2) zs)(hne:y1≠y2)(hl:y2<w.heap.size)(hb1:B≤y1)(hB:B≤w.heap.size)(hx:0≤x∧x<256)
 (ho1:w1.ownsRow B 5 1 v1 (ys.length+1) (ys.map (Value.int .u8)++[.int .u8 x])) (hg1:(w.alloc o).grownBy w1 (some y1)) (hd1:∀g,v1.ownBlock=some g→some y1=some g∨(w.alloc o).heap.size≤g):
 ∃g1 c1,v1=.slice (some ⟨g1,0,none⟩) (ys.length+1) c1∧Zw B w1 v1 (ys++[x])∧Zw B w1 (.slice (some ⟨y2,0,none⟩) n d2) zs∧g1≠y2∧Below B w w1∧g1<w1.heap.size∧B≤g1:=by
 obtain⟨g1,c1,rfl,hl1,hbb⟩:=eQ ho1 qJ;refine⟨g1,c1,rfl,⟨by simpa using ho1,fun u hu=>?_⟩,⟨kC (KD hz.1 ((jU _ w).alloc (jD _) o)) (Mod.of_grown (X:=[y1]) hg1 (fun g e=>by cases e;simp)) (fun g e hm=>?_),hz.2⟩,fun e=>?_,((jU B w).alloc hB o).grown hg1 qY (fun k e=>by cases e;exact hb1),hl1,hbb⟩
 · rcases kM.1 hu with h|h
   · exact hy.2 u h
   · rw[jW.1 h];exact hx
 · obtain rfl:y2=g:=by simpa[Value.ownBlock]using e
   have hm':y2=y1:=by simpa using hm
   exact hne hm'.symm
 · subst e;rcases hd1 g1 rfl with h|h
   · cases h;exact hne rfl
   · simp at h;omega
theorem Zw.bss{B y n c:Nat}{w:World}{ys:List Int}(h:Zw B w (.slice (some ⟨y,0,none⟩) n c) ys):BsS w y 0 ys:=fun i x hx=>by
 have h2:=h.1.cells (g:=y) rfl i (.int .u8 x) (by simp[hx]);rw[kP]
 rwa[show(⟨y,0,none⟩:Addr).add i=⟨y,i,none⟩from by unfold Addr.add;split<;>simp_all]at h2
def dZ(k:Nat)(x:Int):Value→World→Prop
 | .slice (some a) _ _,w=>w.cell? ⟨a.block,k,none⟩=some (.int .i32 x)
 |_,_=>False
theorem dZ.pers(k:Nat)(x:Int)(v:Value):rW (dZ k x v):=fun w w' h hb=>by
 cases v<;>first|exact h.elim|skip
 rename_i a _ _
 cases a<;>first|exact h.elim|exact kZ hb h
def Za(w:World)(e:Ending)(w':World):Prop:=(∃t:Bool,e=.returned (.bool t))∧Below w.heap.size w w'
set_option maxHeartbeats 3200000 in
theorem VO(g off ca:Nat)(xs:List Int)(w:World)(hx:∀x∈xs,0≤x∧x<256)(h0:0<xs.length)(h3:xs.length≤3)(hb:BsS w g off xs):
 Calls jG 266 #[.slice (some ⟨g,off,none⟩) xs.length ca] w (Za w):=by
 obtain⟨i0,hi,hz0,hz1,hz2⟩:=info_parts JE;have HB:=Hd hb;have HX:=Hd hx;have hp:(0:Int)<xs.length:=by omega
 clear hb hx
 go_enter Tryz.func266,Tryz.ntmps266
 go_wp2_with fail
 go_loopw [3] (fun n wr=>∃k:Nat,xs.length<k∧k≤5∧n=.int .i64 k∧Below w.heap.size w wr) (fun n _=>6-(intOf n).toNat)
 case atStart=>exact⟨xs.length+1,by omega,by omega,by go_num,jU _ _⟩
 case round=>
  obtain⟨k,hk1,hk2,rfl,hB⟩:=hrel
  by_cases hlt:k≤4
  · have HA1:=Hd (rfl:(1:Nat)=1);have HA2:=Hd (rfl:(2:Nat)=2);have HBk:=Hd (HB.o.below hB);have HBB:=Hd hB;clear hB
    go_upto_region 5 with fail
    have hn1:=kD wr w.heap.size 5 1
    go_wp2_with(first
     |(at_builtin;have t1:=HA1;clear HA1;refine bB rfl _ _ 23 rfl w.heap.size 5 i0 (.int .u8 0) 1 1 Tryz.underlying23 hi hz0 hz1 hz2 rfl qZ _ 0 _ rfl hn1 ⟨g,off,none⟩ xs.length ca (xs.map (Value.int .u8)) rfl qV HBk.o.src (qJo xs) qU qJ HBB.o.size ?_;intro v1 w1 ho1 hg1 hd1;rw[kP,List.nil_append]at ho1;obtain⟨g1,c1,rfl,hl1,hbb1⟩:=eQ ho1 h0;have HB1:=Hd (lU HBB.o hg1 HBB.o.size);have HK1:=Hd (HBk.o.below (lU (jU _ _) hg1 (jD _)));have hn2:=kD w1 w.heap.size 5 1;have HO1:=Hd ho1;clear ho1 hg1 hd1 hn1)
     |(at_builtin;have t2:=HA2;clear HA2;refine bB rfl _ _ 23 rfl w.heap.size 5 i0 (.int .u8 0) 1 1 Tryz.underlying23 hi hz0 hz1 hz2 rfl qZ _ 0 _ rfl hn2 ⟨g,off,none⟩ xs.length ca (xs.map (Value.int .u8)) rfl qV HK1.o.src (qJo xs) qU qJ HB1.o.size ?_;intro v2 w2 ho2 hg2 hd2;rw[kP,List.nil_append]at ho2;obtain⟨g2,c2,rfl,hl2,hbb2⟩:=eQ ho2 h0;have hne:g1≠g2:=(hd2 g2 rfl).elim (fun e=>by cases e) (fun e=>by omega);have HT:=Hd (⟨xs.length,g1,c1,g2,c2,xs,xs,rfl,rfl,rfl,rfl,⟨KD HO1.o (lU (jU _ _) hg2 (jD _)),HX.o⟩,⟨ho2,HX.o⟩,hne,h0,by omega,lU HB1.o hg2 HB1.o.size⟩:TwoB w k (.slice (some ⟨g1,0,none⟩) xs.length c1) (.slice (some ⟨g2,0,none⟩) xs.length c2) w2);clear ho2 hg2 hd2 hn2 hne))
    go_loopw [4,5] (fun a b wr2=>TwoB w k a b wr2) (fun a _ _=>5-(match a with | .slice _ n _=>n|_=>0))
    case atStart=>exact HT.o
    case round=>
     obtain⟨m,y1,d1,y2,d2,ys,zs,rfl,rfl,hy,hz,hoy,hoz,hne,hm0,hmk,hB2⟩:=hrel;subst hy;have hly:y1<wr.heap.size∧w.heap.size≤y1:=by
      obtain⟨_,_,e,h1,h2⟩:=eQ hoy.1 hm0;simp only[Value.slice.injEq,Option.some.injEq,Addr.mk.injEq]at e;obtain⟨⟨rfl,-⟩,-⟩:=e;exact⟨h1,h2⟩
     have hlz:y2<wr.heap.size∧w.heap.size≤y2:=by
      obtain⟨_,_,e,h1,h2⟩:=eQ hoz.1 qJ;simp only[Value.slice.injEq,Option.some.injEq,Addr.mk.injEq]at e;obtain⟨⟨rfl,-⟩,-⟩:=e;exact⟨h1,h2⟩
     by_cases hml:ys.length<k
     · have HA3:=Hd (rfl:(1:Nat)=1);have HA4:=Hd (rfl:(2:Nat)=2);have hz3:zs.length≤4:=by omega
       have HZ:=Hd hz;have HOY:=Hd hoy;have HOZ:=Hd hoz;have HBX:=Hd hB2;have hoy1:=hoy.1.alloc (.cells #[.int .u8 128] 5);clear hoy hoz hz hB2
       go_wp2_with(first
        |(at_builtin;have t3:=HA3;clear HA3;refine bB rfl _ _ 23 rfl w.heap.size 5 i0 (.int .u8 0) 1 1 Tryz.underlying23 hi hz0 hz1 hz2 rfl qZ _ ys.length _ rfl hoy1 ⟨wr.heap.size,0,none⟩ 1 1 [.int .u8 128] rfl rfl (cell_one_new _ _ _) qVw qU qJ (by have :=HBX.o.size;simp;omega) ?_;intro v1 w1 ho1 hg1 hd1;obtain⟨g1,c1,rfl,hn1,hn2,hn3,hn4,hn5,hn6⟩:=Qo HOY.o HOZ.o hne hlz.1 hly.2 HBX.o.size qJ ho1 hg1 hd1;have HN1:=Hd hn1;have HN2:=Hd hn2;have HB4:=Hd hn4;have hoz1:=hn2.1.alloc (.cells #[.int .u8 191] 5);clear ho1 hg1 hd1 hn1 hn2 hn4 hoy1)
        |(at_builtin;have t4:=HA4;clear HA4;refine bB rfl _ _ 23 rfl w.heap.size 5 i0 (.int .u8 0) 1 1 Tryz.underlying23 hi hz0 hz1 hz2 rfl qZ _ zs.length _ rfl hoz1 ⟨w1.heap.size,0,none⟩ 1 1 [.int .u8 191] rfl rfl (cell_one_new _ _ _) qVw qU qJ (by have :=HBX.o.size;have :=HB4.o.size;simp;omega) ?_;intro v2 w2' ho2 hg2 hd2))
       obtain⟨g2',c2',rfl,hm1,hm2,hm3,hm4,hm5,hm6⟩:=Qo HN2.o HN1.o (fun e=>hn3 e.symm) hn5 (by have :=HB4.o.size;omega) (by have :=HBX.o.size;have :=HB4.o.size;omega) qJ ho2 hg2 hd2;rw[HZ.o]at hm1 ⊢
       go_roundw
       case rel=>exact⟨ys.length+1,g1,c1,g2',c2',ys++[128],zs++[191],rfl,rfl,by simp,by simp[HZ.o],hm2,hm1,hm3.symm,by omega,by omega,(HBX.o.trans HB4.o).trans hm4⟩
       case measure=>simp;omega
     · -- THE ROWS ARE FULL
       have hyk:ys.length=k:=by omega
       have hzk:zs.length=k:=by omega
       have HN1:=Hd (fK y1 0 d1 ys wr hoy.2 hm0 qJ hoy.bss);have HZS:=Hd hoz.bss;have HN2:Hid (∀w',Below wr.heap.size wr w'→Calls jG 265 #[.slice (some ⟨y2,0,none⟩) zs.length d2] w' fun e w2=>e=.returned (.int .i32 (lF zs))∧Below w'.heap.size w' w2):=Hd (fun w' hb=>fK y2 0 d2 zs w' hoz.2 qJ qJ (HZS.o.below hb));have hr1:=oL ys hoy.2;have hr2:=oL zs hoz.2;have HBI:=Hd hB2;rw[hyk]at HN1 ⊢;rw[hzk]at HN2;clear hyk hzk hoy hoz hz hB2 hmk;generalize lF ys=lo at HN1 hr1;generalize lF zs=hi' at HN2 hr2;have hk4:k=2∨k=3∨k=4:=by omega
       clear hml hm0
       by_cases hneg:lo<0∨hi'<0
       · rcases hneg with hneg|hneg
         · go_wp2_with(first|(go_at_call 265;(with_reducible refine HN1.o.mono ?_);rintro e w3 ⟨rfl,hb3⟩)|(go_at_call 265;(with_reducible refine(HN2.o _ hb3).mono ?_);rintro e w4 ⟨rfl,hb4⟩))
           go_roundw
           case rel=>exact⟨k+1,by omega,by omega,by go_num,jM (jM HBI.o hb3) hb4⟩
           case measure=>simp[intOf];omega
         · by_cases hl0:lo<0
           · go_wp2_with(first|(go_at_call 265;(with_reducible refine HN1.o.mono ?_);rintro e w3 ⟨rfl,hb3⟩)|(go_at_call 265;(with_reducible refine(HN2.o _ hb3).mono ?_);rintro e w4 ⟨rfl,hb4⟩))
             go_roundw
             case rel=>exact⟨k+1,by omega,by omega,by go_num,jM (jM HBI.o hb3) hb4⟩
             case measure=>simp[intOf];omega
           · go_wp2_with(first|(go_at_call 265;(with_reducible refine HN1.o.mono ?_);rintro e w3 ⟨rfl,hb3⟩)|(go_at_call 265;(with_reducible refine(HN2.o _ hb3).mono ?_);rintro e w4 ⟨rfl,hb4⟩))
             go_roundw
             case rel=>exact⟨k+1,by omega,by omega,by go_num,jM (jM HBI.o hb3) hb4⟩
             case measure=>simp[intOf];omega
       · have hl0:¬lo<0:=by omega
         have hh0:¬hi'<0:=by omega
         clear hneg;rcases hk4 with rfl|rfl|rfl
         · go_upto_region 10 with(first|(go_at_call 265;(with_reducible refine HN1.o.mono ?_);rintro e w3 ⟨rfl,hb3⟩)|(go_at_call 265;(with_reducible refine(HN2.o _ hb3).mono ?_);rintro e w4 ⟨rfl,hb4⟩))
           refine pV 9 (fun w'=>Below w4.heap.size w4 w') qQ qQ (fun w1 w2 hS hb=>jM hS hb) (jU _ _).drew ?_;refine AtN.take 1 (o:=⟨_,_,_,_,_,_⟩) (v:=?_) qQ rfl qV qQ qQ ?_ ?_;rotate_left
           · first|exact uJ.skip qK|(refine uJ.val qK ?_;intro w' hS;obtain hS0:=hS;go_simp;first|done|with_reducible rfl)
           simp only[Act.put,jZ,jX,jY];refine AtN.take 5 (o:=⟨_,_,_,_,_,_⟩) (v:=?_) qQ rfl qV qQ qQ ?_ ?_;rotate_left
           · first|exact uJ.skip qK|(refine uJ.val qK ?_;intro w' hS;obtain hS0:=hS;go_simp;first|done|with_reducible rfl)
           simp only[Act.put,jZ,jX,jY];have HFIN:Hid (∀w5,Below w4.heap.size w4 w5→Below w.heap.size w w5):=Hd (fun w5 h=>jM (jM (jM HBI.o hb3) hb4) h);refine AtN.two 0 4 _ _ _ _ qV qV qQ rfl rfl (dZ.pers _ _) (dZ.pers _ _) (uJ.new (fun v=>∃g,v=.slice (some ⟨g,0,none⟩) 5 5) (dZ 2 128) qK (fun w' hS=>⟨_,_,by go_simp;first|done|rfl,⟨_,rfl⟩,(at_ (jA (W:=w') (o:=.cells #[.int .i32 0,.int .i32 0,.int .i32 128,.int .i32 2048,.int .i32 65536] 21) rfl) 2 _ rfl).1,(jU _ _).alloc (jD _) _⟩)) (uJ.new (fun v=>∃g,v=.slice (some ⟨g,0,none⟩) 5 5) (dZ 2 2047) qK (fun w' hS=>⟨_,_,by go_simp;first|done|rfl,⟨_,rfl⟩,(at_ (jA (W:=w') (o:=.cells #[.int .i32 0,.int .i32 0,.int .i32 2047,.int .i32 65535,.int .i32 1114111] 21) rfl) 2 _ rfl).1,(jU _ _).alloc (jD _) _⟩)) ?_ ?_
           · rintro _ ⟨g1,rfl⟩;simp only[Act.put,jZ,jX,jY];refine AtN.take 2 (o:=⟨_,_,_,_,_,_⟩) (v:=?_) qQ rfl qV qQ qQ ?_ ?_;rotate_left
             · refine uJ.val qK ?_;intro w' hS;have hc:w'.cell? ⟨g1,2,none⟩=some (.int .i32 128):=hS.2;go_simp;first|done|with_reducible rfl
             simp only[Act.put,jZ,jX,jY];refine AtN.take 3 (o:=⟨_,_,_,_,_,_⟩) (v:=?_) qQ rfl qV qQ qQ ?_ ?_;rotate_left
             · refine uJ.val qK ?_;intro w' hS;have hc:w'.cell? ⟨g1,2,none⟩=some (.int .i32 128):=hS.2;go_simp;first|done|with_reducible rfl
             simp only[Act.put,jZ,jX,jY];refine AtN.take 8 (o:=⟨_,_,_,_,_,_⟩) (v:=?_) qQ rfl qV qQ qQ ?_ ?_;rotate_left
             · first|exact uJ.skip qK|(refine uJ.val qK ?_;intro w' hS;obtain hS0:=hS;go_simp;first|done|with_reducible rfl)
             simp only[Act.put,jZ,jX,jY];refine AtN.one 4 (o:=⟨_,_,_,_,_,_⟩) _ _ qV qQ rfl (dZ.pers _ _) (uJ.new (fun v=>∃g,v=.slice (some ⟨g,0,none⟩) 5 5) (dZ 2 2047) qK (fun w' hS=>⟨_,_,by go_simp;first|done|rfl,⟨_,rfl⟩,(at_ (jA (W:=w') (o:=.cells #[.int .i32 0,.int .i32 0,.int .i32 2047,.int .i32 65535,.int .i32 1114111] 21) rfl) 2 _ rfl).1,(jU _ _).alloc (jD _) _⟩)) ?_;rintro _ ⟨g2,rfl⟩;simp only[Act.put,jZ,jX,jY];refine AtN.take 6 (o:=⟨_,_,_,_,_,_⟩) (v:=?_) qQ rfl qV qQ qQ ?_ ?_;rotate_left
             · refine uJ.val qK ?_;intro w' hS;have hc:w'.cell? ⟨g2,2,none⟩=some (.int .i32 2047):=hS.2;go_simp;first|done|with_reducible rfl
             simp only[Act.put,jZ,jX,jY];refine AtN.take 7 (o:=⟨_,_,_,_,_,_⟩) (v:=?_) qQ rfl qV qQ qQ ?_ ?_;rotate_left
             · refine uJ.val qK ?_;intro w' hS;have hc:w'.cell? ⟨g2,2,none⟩=some (.int .i32 2047):=hS.2;go_simp;first|done|with_reducible rfl
             simp only[Act.put,jZ,jX,jY];refine AtN.done qQ (fun w' hS=>?_);have HB9:=Hd (HFIN.o _ hS.1.1);clear hS
             go_wp2
             all_goals
              first
              |(go_ret;exact⟨⟨_,rfl⟩,HB9.o⟩)
              |(go_roundw
                case rel=>exact⟨3,by omega,by omega,by go_num,HB9.o⟩
                case measure=>simp[intOf])
           · rintro _ ⟨g1,rfl⟩;simp only[Act.put,jZ,jX,jY];refine AtN.take 6 (o:=⟨_,_,_,_,_,_⟩) (v:=?_) qQ rfl qV qQ qQ ?_ ?_;rotate_left
             · refine uJ.val qK ?_;intro w' hS;have hc:w'.cell? ⟨g1,2,none⟩=some (.int .i32 2047):=hS.2;go_simp;first|done|with_reducible rfl
             simp only[Act.put,jZ,jX,jY];refine AtN.take 7 (o:=⟨_,_,_,_,_,_⟩) (v:=?_) qQ rfl qV qQ qQ ?_ ?_;rotate_left
             · refine uJ.val qK ?_;intro w' hS;have hc:w'.cell? ⟨g1,2,none⟩=some (.int .i32 2047):=hS.2;go_simp;first|done|with_reducible rfl
             simp only[Act.put,jZ,jX,jY];refine AtN.one 0 (o:=⟨_,_,_,_,_,_⟩) _ _ qV qQ rfl (dZ.pers _ _) (uJ.new (fun v=>∃g,v=.slice (some ⟨g,0,none⟩) 5 5) (dZ 2 128) qK (fun w' hS=>⟨_,_,by go_simp;first|done|rfl,⟨_,rfl⟩,(at_ (jA (W:=w') (o:=.cells #[.int .i32 0,.int .i32 0,.int .i32 128,.int .i32 2048,.int .i32 65536] 21) rfl) 2 _ rfl).1,(jU _ _).alloc (jD _) _⟩)) ?_;rintro _ ⟨g2,rfl⟩;simp only[Act.put,jZ,jX,jY];refine AtN.take 2 (o:=⟨_,_,_,_,_,_⟩) (v:=?_) qQ rfl qV qQ qQ ?_ ?_;rotate_left
             · refine uJ.val qK ?_;intro w' hS;have hc:w'.cell? ⟨g2,2,none⟩=some (.int .i32 128):=hS.2;go_simp;first|done|with_reducible rfl
             simp only[Act.put,jZ,jX,jY];refine AtN.take 3 (o:=⟨_,_,_,_,_,_⟩) (v:=?_) qQ rfl qV qQ qQ ?_ ?_;rotate_left
             · refine uJ.val qK ?_;intro w' hS;have hc:w'.cell? ⟨g2,2,none⟩=some (.int .i32 128):=hS.2;go_simp;first|done|with_reducible rfl
             simp only[Act.put,jZ,jX,jY];refine AtN.take 8 (o:=⟨_,_,_,_,_,_⟩) (v:=?_) qQ rfl qV qQ qQ ?_ ?_;rotate_left
             · first|exact uJ.skip qK|(refine uJ.val qK ?_;intro w' hS;obtain hS0:=hS;go_simp;first|done|with_reducible rfl)
             simp only[Act.put,jZ,jX,jY];refine AtN.done qQ (fun w' hS=>?_);have HB9:=Hd (HFIN.o _ hS.1.1);clear hS
             go_wp2
             all_goals
              first
              |(go_ret;exact⟨⟨_,rfl⟩,HB9.o⟩)
              |(go_roundw
                case rel=>exact⟨3,by omega,by omega,by go_num,HB9.o⟩
                case measure=>simp[intOf])
         · go_upto_region 10 with(first|(go_at_call 265;(with_reducible refine HN1.o.mono ?_);rintro e w3 ⟨rfl,hb3⟩)|(go_at_call 265;(with_reducible refine(HN2.o _ hb3).mono ?_);rintro e w4 ⟨rfl,hb4⟩))
           refine pV 9 (fun w'=>Below w4.heap.size w4 w') qQ qQ (fun w1 w2 hS hb=>jM hS hb) (jU _ _).drew ?_;refine AtN.take 1 (o:=⟨_,_,_,_,_,_⟩) (v:=?_) qQ rfl qV qQ qQ ?_ ?_;rotate_left
           · first|exact uJ.skip qK|(refine uJ.val qK ?_;intro w' hS;obtain hS0:=hS;go_simp;first|done|with_reducible rfl)
           simp only[Act.put,jZ,jX,jY];refine AtN.take 5 (o:=⟨_,_,_,_,_,_⟩) (v:=?_) qQ rfl qV qQ qQ ?_ ?_;rotate_left
           · first|exact uJ.skip qK|(refine uJ.val qK ?_;intro w' hS;obtain hS0:=hS;go_simp;first|done|with_reducible rfl)
           simp only[Act.put,jZ,jX,jY];have HFIN:Hid (∀w5,Below w4.heap.size w4 w5→Below w.heap.size w w5):=Hd (fun w5 h=>jM (jM (jM HBI.o hb3) hb4) h);refine AtN.two 0 4 _ _ _ _ qV qV qQ rfl rfl (dZ.pers _ _) (dZ.pers _ _) (uJ.new (fun v=>∃g,v=.slice (some ⟨g,0,none⟩) 5 5) (dZ 3 2048) qK (fun w' hS=>⟨_,_,by go_simp;first|done|rfl,⟨_,rfl⟩,(at_ (jA (W:=w') (o:=.cells #[.int .i32 0,.int .i32 0,.int .i32 128,.int .i32 2048,.int .i32 65536] 21) rfl) 3 _ rfl).1,(jU _ _).alloc (jD _) _⟩)) (uJ.new (fun v=>∃g,v=.slice (some ⟨g,0,none⟩) 5 5) (dZ 3 65535) qK (fun w' hS=>⟨_,_,by go_simp;first|done|rfl,⟨_,rfl⟩,(at_ (jA (W:=w') (o:=.cells #[.int .i32 0,.int .i32 0,.int .i32 2047,.int .i32 65535,.int .i32 1114111] 21) rfl) 3 _ rfl).1,(jU _ _).alloc (jD _) _⟩)) ?_ ?_
           · rintro _ ⟨g1,rfl⟩;simp only[Act.put,jZ,jX,jY];refine AtN.take 2 (o:=⟨_,_,_,_,_,_⟩) (v:=?_) qQ rfl qV qQ qQ ?_ ?_;rotate_left
             · refine uJ.val qK ?_;intro w' hS;have hc:w'.cell? ⟨g1,3,none⟩=some (.int .i32 2048):=hS.2;go_simp;first|done|with_reducible rfl
             simp only[Act.put,jZ,jX,jY];refine AtN.take 3 (o:=⟨_,_,_,_,_,_⟩) (v:=?_) qQ rfl qV qQ qQ ?_ ?_;rotate_left
             · refine uJ.val qK ?_;intro w' hS;have hc:w'.cell? ⟨g1,3,none⟩=some (.int .i32 2048):=hS.2;go_simp;first|done|with_reducible rfl
             simp only[Act.put,jZ,jX,jY];refine AtN.take 8 (o:=⟨_,_,_,_,_,_⟩) (v:=?_) qQ rfl qV qQ qQ ?_ ?_;rotate_left
             · first|exact uJ.skip qK|(refine uJ.val qK ?_;intro w' hS;obtain hS0:=hS;go_simp;first|done|with_reducible rfl)
             simp only[Act.put,jZ,jX,jY];refine AtN.one 4 (o:=⟨_,_,_,_,_,_⟩) _ _ qV qQ rfl (dZ.pers _ _) (uJ.new (fun v=>∃g,v=.slice (some ⟨g,0,none⟩) 5 5) (dZ 3 65535) qK (fun w' hS=>⟨_,_,by go_simp;first|done|rfl,⟨_,rfl⟩,(at_ (jA (W:=w') (o:=.cells #[.int .i32 0,.int .i32 0,.int .i32 2047,.int .i32 65535,.int .i32 1114111] 21) rfl) 3 _ rfl).1,(jU _ _).alloc (jD _) _⟩)) ?_;rintro _ ⟨g2,rfl⟩;simp only[Act.put,jZ,jX,jY];refine AtN.take 6 (o:=⟨_,_,_,_,_,_⟩) (v:=?_) qQ rfl qV qQ qQ ?_ ?_;rotate_left
             · refine uJ.val qK ?_;intro w' hS;have hc:w'.cell? ⟨g2,3,none⟩=some (.int .i32 65535):=hS.2;go_simp;first|done|with_reducible rfl
             simp only[Act.put,jZ,jX,jY];refine AtN.take 7 (o:=⟨_,_,_,_,_,_⟩) (v:=?_) qQ rfl qV qQ qQ ?_ ?_;rotate_left
             · refine uJ.val qK ?_;intro w' hS;have hc:w'.cell? ⟨g2,3,none⟩=some (.int .i32 65535):=hS.2;go_simp;first|done|with_reducible rfl
             simp only[Act.put,jZ,jX,jY];refine AtN.done qQ (fun w' hS=>?_);have HB9:=Hd (HFIN.o _ hS.1.1);clear hS
             go_wp2
             all_goals
              first
              |(go_ret;exact⟨⟨_,rfl⟩,HB9.o⟩)
              |(go_roundw
                case rel=>exact⟨4,by omega,by omega,by go_num,HB9.o⟩
                case measure=>simp[intOf])
           · rintro _ ⟨g1,rfl⟩;simp only[Act.put,jZ,jX,jY];refine AtN.take 6 (o:=⟨_,_,_,_,_,_⟩) (v:=?_) qQ rfl qV qQ qQ ?_ ?_;rotate_left
             · refine uJ.val qK ?_;intro w' hS;have hc:w'.cell? ⟨g1,3,none⟩=some (.int .i32 65535):=hS.2;go_simp;first|done|with_reducible rfl
             simp only[Act.put,jZ,jX,jY];refine AtN.take 7 (o:=⟨_,_,_,_,_,_⟩) (v:=?_) qQ rfl qV qQ qQ ?_ ?_;rotate_left
             · refine uJ.val qK ?_;intro w' hS;have hc:w'.cell? ⟨g1,3,none⟩=some (.int .i32 65535):=hS.2;go_simp;first|done|with_reducible rfl
             simp only[Act.put,jZ,jX,jY];refine AtN.one 0 (o:=⟨_,_,_,_,_,_⟩) _ _ qV qQ rfl (dZ.pers _ _) (uJ.new (fun v=>∃g,v=.slice (some ⟨g,0,none⟩) 5 5) (dZ 3 2048) qK (fun w' hS=>⟨_,_,by go_simp;first|done|rfl,⟨_,rfl⟩,(at_ (jA (W:=w') (o:=.cells #[.int .i32 0,.int .i32 0,.int .i32 128,.int .i32 2048,.int .i32 65536] 21) rfl) 3 _ rfl).1,(jU _ _).alloc (jD _) _⟩)) ?_;rintro _ ⟨g2,rfl⟩;simp only[Act.put,jZ,jX,jY];refine AtN.take 2 (o:=⟨_,_,_,_,_,_⟩) (v:=?_) qQ rfl qV qQ qQ ?_ ?_;rotate_left
             · refine uJ.val qK ?_;intro w' hS;have hc:w'.cell? ⟨g2,3,none⟩=some (.int .i32 2048):=hS.2;go_simp;first|done|with_reducible rfl
             simp only[Act.put,jZ,jX,jY];refine AtN.take 3 (o:=⟨_,_,_,_,_,_⟩) (v:=?_) qQ rfl qV qQ qQ ?_ ?_;rotate_left
             · refine uJ.val qK ?_;intro w' hS;have hc:w'.cell? ⟨g2,3,none⟩=some (.int .i32 2048):=hS.2;go_simp;first|done|with_reducible rfl
             simp only[Act.put,jZ,jX,jY];refine AtN.take 8 (o:=⟨_,_,_,_,_,_⟩) (v:=?_) qQ rfl qV qQ qQ ?_ ?_;rotate_left
             · first|exact uJ.skip qK|(refine uJ.val qK ?_;intro w' hS;obtain hS0:=hS;go_simp;first|done|with_reducible rfl)
             simp only[Act.put,jZ,jX,jY];refine AtN.done qQ (fun w' hS=>?_);have HB9:=Hd (HFIN.o _ hS.1.1);clear hS
             go_wp2
             all_goals
              first
              |(go_ret;exact⟨⟨_,rfl⟩,HB9.o⟩)
              |(go_roundw
                case rel=>exact⟨4,by omega,by omega,by go_num,HB9.o⟩
                case measure=>simp[intOf])
         · go_upto_region 10 with(first|(go_at_call 265;(with_reducible refine HN1.o.mono ?_);rintro e w3 ⟨rfl,hb3⟩)|(go_at_call 265;(with_reducible refine(HN2.o _ hb3).mono ?_);rintro e w4 ⟨rfl,hb4⟩))
           refine pV 9 (fun w'=>Below w4.heap.size w4 w') qQ qQ (fun w1 w2 hS hb=>jM hS hb) (jU _ _).drew ?_;refine AtN.take 1 (o:=⟨_,_,_,_,_,_⟩) (v:=?_) qQ rfl qV qQ qQ ?_ ?_;rotate_left
           · first|exact uJ.skip qK|(refine uJ.val qK ?_;intro w' hS;obtain hS0:=hS;go_simp;first|done|with_reducible rfl)
           simp only[Act.put,jZ,jX,jY];refine AtN.take 5 (o:=⟨_,_,_,_,_,_⟩) (v:=?_) qQ rfl qV qQ qQ ?_ ?_;rotate_left
           · first|exact uJ.skip qK|(refine uJ.val qK ?_;intro w' hS;obtain hS0:=hS;go_simp;first|done|with_reducible rfl)
           simp only[Act.put,jZ,jX,jY];have HFIN:Hid (∀w5,Below w4.heap.size w4 w5→Below w.heap.size w w5):=Hd (fun w5 h=>jM (jM (jM HBI.o hb3) hb4) h);refine AtN.two 0 4 _ _ _ _ qV qV qQ rfl rfl (dZ.pers _ _) (dZ.pers _ _) (uJ.new (fun v=>∃g,v=.slice (some ⟨g,0,none⟩) 5 5) (dZ 4 65536) qK (fun w' hS=>⟨_,_,by go_simp;first|done|rfl,⟨_,rfl⟩,(at_ (jA (W:=w') (o:=.cells #[.int .i32 0,.int .i32 0,.int .i32 128,.int .i32 2048,.int .i32 65536] 21) rfl) 4 _ rfl).1,(jU _ _).alloc (jD _) _⟩)) (uJ.new (fun v=>∃g,v=.slice (some ⟨g,0,none⟩) 5 5) (dZ 4 1114111) qK (fun w' hS=>⟨_,_,by go_simp;first|done|rfl,⟨_,rfl⟩,(at_ (jA (W:=w') (o:=.cells #[.int .i32 0,.int .i32 0,.int .i32 2047,.int .i32 65535,.int .i32 1114111] 21) rfl) 4 _ rfl).1,(jU _ _).alloc (jD _) _⟩)) ?_ ?_
           · rintro _ ⟨g1,rfl⟩;simp only[Act.put,jZ,jX,jY];refine AtN.take 2 (o:=⟨_,_,_,_,_,_⟩) (v:=?_) qQ rfl qV qQ qQ ?_ ?_;rotate_left
             · refine uJ.val qK ?_;intro w' hS;have hc:w'.cell? ⟨g1,4,none⟩=some (.int .i32 65536):=hS.2;go_simp;first|done|with_reducible rfl
             simp only[Act.put,jZ,jX,jY];refine AtN.take 3 (o:=⟨_,_,_,_,_,_⟩) (v:=?_) qQ rfl qV qQ qQ ?_ ?_;rotate_left
             · refine uJ.val qK ?_;intro w' hS;have hc:w'.cell? ⟨g1,4,none⟩=some (.int .i32 65536):=hS.2;go_simp;first|done|with_reducible rfl
             simp only[Act.put,jZ,jX,jY];refine AtN.take 8 (o:=⟨_,_,_,_,_,_⟩) (v:=?_) qQ rfl qV qQ qQ ?_ ?_;rotate_left
             · first|exact uJ.skip qK|(refine uJ.val qK ?_;intro w' hS;obtain hS0:=hS;go_simp;first|done|with_reducible rfl)
             simp only[Act.put,jZ,jX,jY];refine AtN.one 4 (o:=⟨_,_,_,_,_,_⟩) _ _ qV qQ rfl (dZ.pers _ _) (uJ.new (fun v=>∃g,v=.slice (some ⟨g,0,none⟩) 5 5) (dZ 4 1114111) qK (fun w' hS=>⟨_,_,by go_simp;first|done|rfl,⟨_,rfl⟩,(at_ (jA (W:=w') (o:=.cells #[.int .i32 0,.int .i32 0,.int .i32 2047,.int .i32 65535,.int .i32 1114111] 21) rfl) 4 _ rfl).1,(jU _ _).alloc (jD _) _⟩)) ?_;rintro _ ⟨g2,rfl⟩;simp only[Act.put,jZ,jX,jY];refine AtN.take 6 (o:=⟨_,_,_,_,_,_⟩) (v:=?_) qQ rfl qV qQ qQ ?_ ?_;rotate_left
             · refine uJ.val qK ?_;intro w' hS;have hc:w'.cell? ⟨g2,4,none⟩=some (.int .i32 1114111):=hS.2;go_simp;first|done|with_reducible rfl
             simp only[Act.put,jZ,jX,jY];refine AtN.take 7 (o:=⟨_,_,_,_,_,_⟩) (v:=?_) qQ rfl qV qQ qQ ?_ ?_;rotate_left
             · refine uJ.val qK ?_;intro w' hS;have hc:w'.cell? ⟨g2,4,none⟩=some (.int .i32 1114111):=hS.2;go_simp;first|done|with_reducible rfl
             simp only[Act.put,jZ,jX,jY];refine AtN.done qQ (fun w' hS=>?_);have HB9:=Hd (HFIN.o _ hS.1.1);clear hS
             go_wp2
             all_goals
              first
              |(go_ret;exact⟨⟨_,rfl⟩,HB9.o⟩)
              |(go_roundw
                case rel=>exact⟨5,by omega,by omega,by go_num,HB9.o⟩
                case measure=>simp[intOf])
           · rintro _ ⟨g1,rfl⟩;simp only[Act.put,jZ,jX,jY];refine AtN.take 6 (o:=⟨_,_,_,_,_,_⟩) (v:=?_) qQ rfl qV qQ qQ ?_ ?_;rotate_left
             · refine uJ.val qK ?_;intro w' hS;have hc:w'.cell? ⟨g1,4,none⟩=some (.int .i32 1114111):=hS.2;go_simp;first|done|with_reducible rfl
             simp only[Act.put,jZ,jX,jY];refine AtN.take 7 (o:=⟨_,_,_,_,_,_⟩) (v:=?_) qQ rfl qV qQ qQ ?_ ?_;rotate_left
             · refine uJ.val qK ?_;intro w' hS;have hc:w'.cell? ⟨g1,4,none⟩=some (.int .i32 1114111):=hS.2;go_simp;first|done|with_reducible rfl
             simp only[Act.put,jZ,jX,jY];refine AtN.one 0 (o:=⟨_,_,_,_,_,_⟩) _ _ qV qQ rfl (dZ.pers _ _) (uJ.new (fun v=>∃g,v=.slice (some ⟨g,0,none⟩) 5 5) (dZ 4 65536) qK (fun w' hS=>⟨_,_,by go_simp;first|done|rfl,⟨_,rfl⟩,(at_ (jA (W:=w') (o:=.cells #[.int .i32 0,.int .i32 0,.int .i32 128,.int .i32 2048,.int .i32 65536] 21) rfl) 4 _ rfl).1,(jU _ _).alloc (jD _) _⟩)) ?_;rintro _ ⟨g2,rfl⟩;simp only[Act.put,jZ,jX,jY];refine AtN.take 2 (o:=⟨_,_,_,_,_,_⟩) (v:=?_) qQ rfl qV qQ qQ ?_ ?_;rotate_left
             · refine uJ.val qK ?_;intro w' hS;have hc:w'.cell? ⟨g2,4,none⟩=some (.int .i32 65536):=hS.2;go_simp;first|done|with_reducible rfl
             simp only[Act.put,jZ,jX,jY];refine AtN.take 3 (o:=⟨_,_,_,_,_,_⟩) (v:=?_) qQ rfl qV qQ qQ ?_ ?_;rotate_left
             · refine uJ.val qK ?_;intro w' hS;have hc:w'.cell? ⟨g2,4,none⟩=some (.int .i32 65536):=hS.2;go_simp;first|done|with_reducible rfl
             simp only[Act.put,jZ,jX,jY];refine AtN.take 8 (o:=⟨_,_,_,_,_,_⟩) (v:=?_) qQ rfl qV qQ qQ ?_ ?_;rotate_left
             · first|exact uJ.skip qK|(refine uJ.val qK ?_;intro w' hS;obtain hS0:=hS;go_simp;first|done|with_reducible rfl)
             simp only[Act.put,jZ,jX,jY];refine AtN.done qQ (fun w' hS=>?_);have HB9:=Hd (HFIN.o _ hS.1.1);clear hS
             go_wp2
             all_goals
              first
              |(go_ret;exact⟨⟨_,rfl⟩,HB9.o⟩)
              |(go_roundw
                case rel=>exact⟨5,by omega,by omega,by go_num,HB9.o⟩
                case measure=>simp[intOf])
  · go_wp2
    go_ret
    exact⟨⟨_,rfl⟩,hB⟩
theorem BsS.take{w:World}{g off:Nat}{xs:List Int}(h:BsS w g off xs)(k:Nat):BsS w g off (xs.take k):=fun i x hx=>by
 rw[List.getElem?_take]at hx
 split at hx
 · exact h i x hx
 · cases hx
theorem scal_of(r:Int)(xs:List Int)(h0:0<xs.length)(h:vO r=strOfNums xs):gD r=true:=by
 cases hs:gD r with
 |true=>rfl
 |false=>
  exfalso;have h1:(vO r).size=xs.length:=by rw[h,gE]
  rw[show vO r=kU from by unfold vO;rw[hs];rfl]at h1;have :kU.size=0:=rfl;omega
def Up(n:Nat)(w:World)(e:Ending)(w':World):Prop:=∃(r:Int) (m:Nat),e=.returned (.tuple #[.int .i32 r,.int .i64 m])∧gD r=true∧1≤m∧m≤n∧Below w.heap.size w w'
set_option maxHeartbeats 3200000 in
theorem qQ3(g off ca:Nat)(xs:List Int)(w:World)(hx:∀x∈xs,0≤x∧x<256)(h0:0<xs.length)(hca:xs.length≤ca)(hcm:xs.length≤2000000)(hb:BsS w g off xs):
 Calls jG 173 #[.slice (some ⟨g,off,none⟩) xs.length ca] w (Up xs.length w):=by
 have HI:Hid (∀(k:Nat) (w':World),1≤k→k≤4→k≤xs.length→Below w.heap.size w w'→Calls jG 264 #[.slice (some ⟨g,off,none⟩) k ca] w' (UJ (xs.take k) w')):=Hd (fun k w' h1 h2 h3 hB=>by
  have :=ris_any g off ca (xs.take k) w' (fun x hx'=>hx x (List.mem_of_mem_take hx')) qR qR ((hb.take k).below hB)
  rwa[kS,Nat.min_eq_left h3]at this)
 have HN:Hid (∀(k:Nat) (w':World),1≤k→k≤4→k≤xs.length→Below w.heap.size w w'→Calls jG 265 #[.slice (some ⟨g,off,none⟩) k ca] w' fun e w2=>e=.returned (.int .i32 (lF (xs.take k)))∧Below w'.heap.size w' w2):=Hd (fun k w' h1 h2 h3 hB=>by
  have :=fK g off ca (xs.take k) w' (fun x hx'=>hx x (List.mem_of_mem_take hx')) qR qR ((hb.take k).below hB)
  rwa[kS,Nat.min_eq_left h3]at this)
 have HG:Hid (∀(k:Nat) (w':World),1≤k→k≤3→k≤xs.length→Below w.heap.size w w'→Calls jG 266 #[.slice (some ⟨g,off,none⟩) k ca] w' (Za w')):=Hd (fun k w' h1 h2 h3 hB=>by
  have :=VO g off ca (xs.take k) w' (fun x hx'=>hx x (List.mem_of_mem_take hx')) qR qR ((hb.take k).below hB)
  rwa[kS,Nat.min_eq_left h3]at this)
 have HSC:Hid (∀k,1≤k→k≤xs.length→vO (lF (xs.take k))=strOfNums (xs.take k)→gD (lF (xs.take k))=true):=Hd (fun k h1 h2 h=>scal_of _ _ qR h);obtain⟨n,hn⟩:∃n,n=xs.length:=⟨_,rfl⟩;rw[←hn]at HI HN HG HSC h0 hca hcm ⊢;clear hx hb hn
 go_enter Tryz.func173,Tryz.ntmps173
 go_wp2_with fail
 go_loopw [4] (fun i wr=>∃k:Nat,1≤k∧k≤5∧k≤n+1∧i=.int .i64 k∧Below w.heap.size w wr) (fun i _=>6-(intOf i).toNat)
 case atStart=>exact⟨1,by omega,by omega,by omega,rfl,jU _ _⟩
 case round=>
  obtain⟨k,hk1,hk2,hk3,rfl,hB⟩:=hrel
  by_cases hlt:k≤4∧k≤n
  · obtain⟨hl1,hl2⟩:=hlt;have HI1:=Hd (HI.o k wr hk1 hl1 hl2 hB)
    go_wp2_with(first|(go_at_call 264;(with_reducible refine HI1.o.mono ?_);rintro e w1 ⟨t,rfl,ht,hb1⟩;have HT:=Hd ht;clear ht)|(go_at_call 265;(with_reducible refine(HN.o k _ hk1 hl1 hl2 (jM hB hb1)).mono ?_);rintro e w2 ⟨rfl,hb2⟩))
    all_goals
     first
     |exact⟨⟨k+1,by omega,by omega,by omega,by go_num,jM hB hb1⟩,by simp[intOf];omega⟩
     |(go_ret2;exact⟨_,_,rfl,HSC.o k hk1 hl2 (HT.o (by assumption)).2,hk1,hl2,jM (jM hB hb1) hb2⟩)
  · clear HI HN HSC;have hex:(k≤4∧n<k)∨(4<k∧4<k):=by omega
    rcases hex with⟨hex,hex2⟩|⟨hex,hex2⟩
    all_goals
     go_wp2_with fail
     try simp only[show decide (k≤n)=false from decide_eq_false qJ]
     go_loopw [5,6] (fun s i w5=>∃m j:Nat,1≤m∧m≤n∧1≤j∧j≤4∧j≤n+1∧s=.int .i64 m∧i=.int .i64 j∧Below w.heap.size w w5) (fun _ i _=>6-(intOf i).toNat)
     case atStart=>exact⟨1,1,by omega,by omega,by omega,by omega,by omega,rfl,rfl,hB⟩
     case round=>
      obtain⟨m,j,hm1,hm2,hj1,hj2,hj3,rfl,rfl,hB5⟩:=hrel
      by_cases hlj:j≤3∧j≤n
      · obtain⟨hj4,hj5⟩:=hlj;have HG1:=Hd (HG.o j _ hj1 hj4 hj5 hB5)
        go_wp2_with(go_at_call 266;(with_reducible refine HG1.o.mono ?_);rintro e w6 ⟨⟨t,rfl⟩,hb6⟩)
        all_goals
         first
         |exact⟨⟨m,j+1,by omega,by omega,by omega,by omega,by omega,rfl,by go_num,jM hB5 hb6⟩,by simp[intOf];omega⟩
         |(go_roundw
           case rel=>exact⟨j,j+1,by omega,by omega,by omega,by omega,by omega,rfl,by go_num,jM hB5 hb6⟩
           case measure=>simp[intOf];omega)
      · go_wp2
        all_goals
         go_ret2
         exact⟨_,_,rfl,by decide,hm1,hm2,hB5⟩
theorem BsS.drop{w:World}{g off:Nat}{xs:List Int}(h:BsS w g off xs)(i:Nat):BsS w g (off+i) (xs.drop i):=fun j x hx=>by
 rw[gH]at hx;have :=h (i+j) x hx
 rwa[←Nat.add_assoc]at this
def Ja(n:Nat)(w:World)(e:Ending)(w':World):Prop:=∃(v:Value) (L:List Int),e=.returned v∧w'.ownsRow w.heap.size 21 1 v L.length (L.map (.int .i32))∧(∀r∈L,gD r=true)∧L.length≤n∧Below w.heap.size w w'
set_option maxHeartbeats 3200000 in
theorem WA(g off ca:Nat)(xs:List Int)(w:World)(hx:∀x∈xs,0≤x∧x<256)(hca:xs.length≤ca)(hcm:xs.length≤2000000)(hb:BsS w g off xs):
 Calls jG 109 #[.slice (some ⟨g,off,none⟩) xs.length ca] w (Ja xs.length w):=by
 obtain⟨n,hn⟩:∃n,n=xs.length:=⟨_,rfl⟩;have HO:Hid (∀(i:Nat) (w':World),i<n→Below w.heap.size w w'→Calls jG 173 #[.slice (some ⟨g,off+i,none⟩) (n-i) (ca-i)] w' (Up (n-i) w')):=Hd (fun i w' h1 hB=>by
  have :=qQ3 g (off+i) (ca-i) (xs.drop i) w' (fun x hx'=>hx x (List.mem_of_mem_drop hx')) jJ jJ jJ ((hb.drop i).below hB)
  rwa[List.length_drop,←hn]at this)
 rw[←hn]at hca hcm ⊢;clear hx hb hn;obtain⟨i0,hi,hz0,hz1,hz2⟩:=info_parts JA
 go_enter Tryz.func109,Tryz.ntmps109
 go_wp2_with fail
 go_loopw [0,3] (fun s o wr=>∃(i:Nat) (L:List Int) (A:Option Addr),i≤n∧(i<n→A=some ⟨g,off+i,none⟩)∧s=.slice A (n-i) (ca-i)∧wr.ownsRow w.heap.size 21 1 o L.length (L.map (.int .i32))∧(∀r∈L,gD r=true)∧L.length≤i∧Below w.heap.size w wr) (fun s _ _=>match s with | .slice _ m _=>m|_=>0)
 case atStart=>exact⟨0,[],_,kB _,fun _=>rfl,rfl,kD _ _ _ _,by simp,jD _,jU _ _⟩
 case round=>
  obtain⟨i,L,A,hin,hA,rfl,ho,hL,hLi,hB⟩:=hrel
  by_cases hlt:i<n
  · obtain rfl:=hA hlt;have HO1:=Hd (HO.o i wr hlt hB);have HOW:=Hd ho;have HB:=Hd hB;have HL:=Hd hL;have hp:0<n-i:=by omega
    have hp2:(0:Int)<((n-i:Nat):Int):=by omega
    clear ho hB hL
    go_wp2_with(first
     |(go_at_call 173;(with_reducible refine HO1.o.mono ?_);rintro e w1 ⟨r,m,rfl,hr,hm1,hm2,hb1⟩;have HB1:=Hd (jM HB.o hb1);have ho1:=(KD HOW.o hb1).alloc (.cells #[.int .i32 r] 21);clear hb1)
     |(at_builtin;refine wpList_append_own _ rfl _ _ 136 rfl w.heap.size 21 i0 (.int .i32 0) 1 4 Tryz.underlying136 hi hz0 hz1 hz2 rfl qZ _ L.length _ rfl ho1 ⟨w1.heap.size,0,none⟩ 1 1 [.int .i32 r] rfl rfl (cell_one_new _ _ _) qVw qU qJ (by have :=HB1.o.size;simp;omega) ?_;intro v' w2 hown' hgrow _;have HB2:=Hd (show Below w.heap.size w w2 from(HB1.o.alloc HB1.o.size _).grown hgrow (by have :=HB1.o.size;simp;omega) (fun k hk=>(ho1.lt k hk).1));have HO2:=Hd hown';clear hown' hgrow))
    refine⟨⟨i+m,L++[r],_,by omega,fun h=>?_,by rw[Nat.sub_add_eq,Nat.sub_add_eq],by simpa using HO2.o,fun x hx=>?_,by simp;omega,HB2.o⟩,by simp only[];omega⟩
    · rw[if_neg qJ];rw[Nat.add_assoc]
    · rcases kM.1 hx with h|h
      · exact HL.o x h
      · rw[jW.1 h];exact hr
  · have hz:n-i=0:=by omega
    rw[hz]
    go_wp2
    go_ret
    exact⟨_,L,rfl,ho,hL,by omega,hB⟩
def Zt(l:List (Int×Int))(w:World)(e:Ending)(w':World):Prop:=∃g,e=.returned (.slice (some ⟨g,0,none⟩) (l.length*2) (l.length*2))∧pZ QK 2 w' (some ⟨g,0,none⟩) l∧Below w.heap.size w w'
set_option maxHeartbeats 1600000 in
theorem Xk(w:World):Calls jG 107 #[] w (Zt eB w):=by
 go_enter Tryz.func107,Tryz.ntmps107
 go_wp2
 go_ret
 exact⟨w.heap.size,rfl,Kk nM (l:=eB) (jA rfl),jH (jU _ _) _⟩
set_option maxHeartbeats 1600000 in
theorem XO(w:World):Calls jG 108 #[] w (Zt eU w):=by
 go_enter Tryz.func108,Tryz.ntmps108
 go_wp2
 go_ret
 exact⟨w.heap.size,rfl,Kk nM (l:=eU) (jA rfl),jH (jU _ _) _⟩
set_option maxHeartbeats 3200000 in
theorem UN(r:Int)(a:Nat)(l:List (Int×Int))(w:World)(hl:pZ QK 2 w (some ⟨a,0,none⟩) l)(hz:l.length≤1000):
 Calls jG 106 #[.slice (some ⟨a,0,none⟩) (l.length*2) (l.length*2),.int .i32 r] w fun e w'=>e=.returned (.bool (yL l r))∧w=w':=by
 obtain⟨L2,hL2⟩:∃L2,l.length*2=L2:=⟨_,rfl⟩;rw[hL2];have HL:=Hd hl;have HL2:=Hd hL2;clear hl hL2
 go_enter Tryz.func106,Tryz.ntmps106
 go_wp2_with fail
 go_loopw [5] (fun s5 wr=>∃i j:Nat,s5=.int .i64 j∧j=i*2∧i≤l.length∧yL (l.take i) r=false∧wr=w) (fun s5 _=>L2-(intOf s5).toNat)
 case atStart=>exact⟨0,0,rfl,rfl,kB _,rfl,rfl⟩
 case round=>
  obtain⟨i,j,rfl,hij,hi,hf,rfl⟩:=hrel;have HIJ:=Hd hij;have HF:=Hd hf;clear hf
  by_cases hlt:i<l.length
  rotate_left
  · have hge:¬(j:Int)<(L2:Int):=by have :=HL2.o;omega
    have HE:Hid (yL l r=false):=Hd (by have :=HF.o;rwa[vV qJ]at this);clear hij
    go_wp2
    go_ret
    exact⟨by rw[HE.o];rfl,rfl⟩
  · have hltI:(j:Int)<(L2:Int):=by have :=HL2.o;omega
    obtain⟨j1,hj1⟩:∃j1:Nat,j1=j+1:=⟨_,rfl⟩;have hj1I:(j:Int)+1=(j1:Int):=by omega
    have hwj1:jE.wrap (j1:Int)=(j1:Int):=jF _ qJ;have hj1L:(j1:Int)<(L2:Int):=by have :=HL2.o;omega
    obtain⟨j2,hj2⟩:∃j2:Nat,j2=j+2:=⟨_,rfl⟩;have hj2I:(j:Int)+2=(j2:Int):=by omega
    have hwj2:jE.wrap (j2:Int)=(j2:Int):=jF _ qJ;obtain⟨b,off,x,e,hx,hc⟩:=HL.o.at_ hlt;simp only[Option.some.injEq,Addr.mk.injEq,and_true]at e;obtain⟨rfl,rfl⟩:=e;have y0:wr.cell? ⟨a,j,none⟩=some (.int .i32 x.1):=by have :=hc 0 _ rfl;rw[hij];simpa using this
    have y1:wr.cell? ⟨a,j1,none⟩=some (.int .i32 x.2):=by have :=hc 1 _ rfl;rw[hj1,hij];simpa using this
    have HX:=Hd hx;have HJ2:=Hd hj2;have hjL:j<L2:=by omega
    have hj1LN:j1<L2:=by omega
    clear hc hx hij hj1 hj2
    by_cases h1:x.1≤r
    · by_cases h2:r≤x.2
      · have HE:Hid (yL l r=true):=Hd (oJ (k:=i+1) (by rw[lH HX.o];unfold ZY;simp[h1,h2]))
        go_wp2
        go_ret
        exact⟨by rw[HE.o];rfl,rfl⟩
      · have HE:Hid (yL (l.take (i+1)) r=false):=Hd (by rw[lH HX.o,HF.o];unfold ZY;simp;omega)
        go_wp2
        go_roundw
        case rel=>exact⟨i+1,j2,by go_num,by have :=HIJ.o;have :=HJ2.o;omega,by omega,HE.o,by first|rfl|trivial⟩
        case measure=>have :=HJ2.o;simp[intOf];omega
    · have HE:Hid (yL (l.take (i+1)) r=false):=Hd (by rw[lH HX.o,HF.o];unfold ZY;simp;omega)
      go_wp2
      go_roundw
      case rel=>exact⟨i+1,j2,by go_num,by have :=HIJ.o;have :=HJ2.o;omega,by omega,HE.o,by first|rfl|trivial⟩
      case measure=>have :=HJ2.o;simp[intOf];omega
theorem Vn(r:Int):(bK r=true∧(r<32∨(126<r∧r<160∧¬r<32)∨(55295<r∧r<57344∧126<r∧¬r<160∧¬r<32)∨(1114111<r∧55295<r∧¬r<57344∧126<r∧¬r<160∧¬r<32)))∨
 (bK r=false∧((¬r<32∧¬126<r∧¬55295<r∧¬1114111<r)∨(¬r<32∧126<r∧¬r<160∧¬55295<r∧¬1114111<r)∨(¬r<32∧126<r∧¬r<160∧55295<r∧¬r<57344∧¬1114111<r))):=by
 unfold bK;simp only[Bool.or_eq_true,Bool.and_eq_true,decide_eq_true_eq,Bool.or_eq_false_iff,Bool.and_eq_false_iff,decide_eq_false_iff_not];omega
set_option maxHeartbeats 3200000 in
theorem UB(r:Int)(w:World):Calls jG 58 #[.int .i32 r] w fun e w'=>e=.returned (.int .i64 (gZ r))∧Below w.heap.size w w':=by
 have HM:=Hd (fun w=>Xk w);have HW:=Hd (fun w=>XO w);have HA1:=Hd (fun a w hl=>UN r a eB w hl qZ);have HA2:=Hd (fun a w hl=>UN r a eU w hl qZ);unfold gZ;rcases Vn r with⟨hn,h⟩|⟨hn,h⟩
 · rw[hn];clear hn HM HW HA1 HA2;rcases h with h1|⟨h1,h2,h3⟩|⟨h1,h2,h3,h4,h5⟩|⟨h1,h2,h3,h4,h5,h6⟩
   all_goals
    go_enter Tryz.func58,Tryz.ntmps58
    go_wp2
    go_ret
    exact⟨rfl,jU _ _⟩
 · rw[hn];clear hn;generalize yL eB r=b1 at HA1;generalize yL eU r=b2 at HA2;rcases h with⟨h1,h2,h3,h4⟩|⟨h1,h2,h3,h4,h5⟩|⟨h1,h2,h3,h4,h5,h6⟩<;>cases b1<;>cases b2
   all_goals
    go_enter Tryz.func58,Tryz.ntmps58
    go_wp2_with(first
     |(go_at_call 107;refine(HM.o _).mono ?_;rintro e w2 ⟨g,rfl,hg,hb2⟩;have HG:=Hd hg;have HB:=Hd hb2;clear hg hb2)
     |(go_at_call 108;refine(HW.o _).mono ?_;rintro e w4 ⟨g2,rfl,hg,hb2⟩;have HG2:=Hd hg;have HB3:=Hd (jM HB.o hb2);clear hg hb2)
     |(go_at_call 106;first
        |(have hpv:=HB3.o;clear hpv;refine(HA2.o _ _ HG2.o).mono ?_;rintro e w5 ⟨rfl,rfl⟩)
        |(refine(HA1.o _ _ HG.o).mono ?_;rintro e w3 ⟨rfl,rfl⟩)))
    go_ret
    exact⟨rfl,by first|exact HB3.o|exact HB.o⟩
end Go.Proofs.YtaefcahblmopfaaGreatDoor
