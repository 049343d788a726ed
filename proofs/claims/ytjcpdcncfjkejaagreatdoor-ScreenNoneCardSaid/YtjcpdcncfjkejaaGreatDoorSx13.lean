/- Joined by a tool of this claim out of smaller texts. Conditions: as stated. -/
import Derived.Test.YtjcpdcncfjkejaaGreatDoorSx12
set_option linter.unusedVariables false
set_option linter.unusedSimpArgs false
set_option maxRecDepth 100000
open Go.Lib renaming hid → Hd
open Go.Proofs.Tryz renaming prog → jG, underlying38 → kE, underlying40 → vN
open Go.RowKit.Below renaming refl → jU
open Go.IntWalk renaming i64_in → jH
open Go.IntKind renaming i64 → jP
open List renaming getElem?_eq_getElem → jD, mem_singleton → jR, getElem?_eq_some_iff → jE, length_append → jI, replicate → kJ, mem_cons → kW, getD_eq_getElem?_getD → kP, mem_append → kL, length_replicate → kS, getElem?_eq_none → kI, length_set → uG, mem_of_getElem? → uW, getElem?_map → vQ, take_succ_eq_append_getElem → vJ, ext_getElem? → vV, length_take → vH, getElem?_set → vP, take_of_length_le → vT, map_append → gK, getElem?_drop → gV
open Nat renaming le_refl → jS, zero_add → kB, zero_le → kT, le_trans → vY, add_zero → vO
open Option renaming mem_toList → jT
open Go.World renaming ownsRow → kK, setCell → uQ, ownsRow_nil → uE
open And renaming intro → kM
open ByteArray renaming empty → kD
open Array renaming getElem?_eq_some_iff → kF
open Int renaming toNat_natCast → uJ
namespace Go.Proofs.YtjcpdcncfjkejaaGreatDoor
open Go.RowKit
theorem Vo(r:Int)(w:World):Calls jG 284 #[.int .i32 r] w fun e w'=>e=.returned (.bool (nV r))∧w=w':=by
 unfold nV
 by_cases h1:0≤r<;>by_cases h2:r≤1114111<;>by_cases h3:r<55296<;>by_cases h4:57343<r<;>
 · go_enter Tryz.func284,Tryz.ntmps284
   go_wp2
   go_ret
   refine⟨?_,rfl⟩;simp[h1,h2,h3,h4]
   try omega
def rN(w:World)(v:Value)(xs:List Int):Prop:=(xs=[]∧v=.slice none 0 0)∨∃g c,v=.slice (some ⟨g,0,none⟩) xs.length c∧w.heap[g]? =some (.cells (xs.map (Value.int .u8)).toArray 5 (0,0))
def K4(b:ByteArray)(w:World)(e:Ending)(w':World):Prop:=∃v xs,e=.returned v∧rN w' v xs∧strOfNums xs=b∧Below w.heap.size w w'
theorem We:(jG.info? 5).map (fun i=>(i.zero,i.size,i.bytes))=some (some (.int .u8 0),1,1):=by kernel_rfl
theorem YM(n:Nat):madeCells #[Value.int .u8 0] n=(kJ n (Value.int .u8 0)).toArray:=by
 have h:=QO (enc:=fun v:Value=>[v]) (K:=1) (fun _=>rfl) qZ (Value.int .u8 0) n;rw[Nat.mul_one]at h;refine Array.ext' (h.trans ?_);clear h
 induction n with
 |zero=>rfl
 |succ n ih=>
  rw[List.replicate_succ];show Value.int .u8 0::uS _ (kJ n (Value.int .u8 0))=_;rw[ih]
theorem sY(n:Nat)(h:n≤1000)(W:World):Sem.run jG (Instr.makeSlice 223 (.int .i64 (n:Int)) (.int .i64 (n:Int))) W=.ok (.slice (some ⟨W.heap.size,0,none⟩) n n) (W.alloc (.cells (kJ n (Value.int .u8 0)).toArray 5)):=by
 rw[←YM];exact run_make_row' 223 5 (.int .u8 0) 1 Tryz.underlying223 We rfl .i64 .i64 n qJ qJ W
set_option maxHeartbeats 1600000 in
theorem Uw(r:Int)(w:World):Calls jG 250 #[.int .i32 r] w (K4 (cV r) w):=by
 have HS:=Hd (fun w=>Vo r w);cases hs:nV r with
 |false=>
  have HV:=Hd (show cV r=kD from by unfold cV;rw[hs];rfl);rw[hs]at HS;clear hs
  go_enter Tryz.func250,Tryz.ntmps250
  go_wp2_with(go_at_call 284;refine(HS.o _).mono ?_;rintro e w1 ⟨rfl,rfl⟩)
  go_ret
  exact⟨_,[],rfl,.inl ⟨rfl,rfl⟩,by rw[HV.o];rfl,jU _ _⟩
 |true=>
  rw[hs]at HS;have hr:0≤r∧r≤1114111:=by unfold nV at hs;simp at hs;omega
  obtain⟨hr0,hr1⟩:=hr
  by_cases hA:r<128
  · have HV:=Hd (show cV r=⟨#[r.toNat.toUInt8]⟩from by unfold cV;rw[hs,if_pos rfl,if_pos hA]);clear hs;have hA1:¬127<r:=by omega
    have hA2:¬2047<r:=by omega
    have hA3:¬65535<r:=by omega
    go_enter Tryz.func250,Tryz.ntmps250
    go_wp2_with(go_at_call 284;refine(HS.o _).mono ?_;rintro e w1 ⟨rfl,rfl⟩)
    refine wp_loop_rounds 4 ?_;rw[rounds_succ];go_wp2;rw[rounds_succ];go_wp2;rw[rounds_succ];go_wp2;rw[rounds_succ];go_wp2
    go_ret
    exact⟨_,[r],rfl,.inr ⟨w.heap.size+1,1,rfl,kZ qV⟩,by rw[HV.o];rfl,jW (jW (jU _ _) _) _⟩
  by_cases hB:r<2048
  · have HV:=Hd (show cV r=⟨#[(192+r/64).toNat.toUInt8,(128+r%64).toNat.toUInt8]⟩from by unfold cV;rw[hs,if_pos rfl,if_neg (show ¬r<0x80 from hA),if_pos hB]);clear hs;have hmk:∀W:World,Sem.run jG (Instr.makeSlice 223 (.int .i64 2) (.int .i64 2)) W=.ok (.slice (some ⟨W.heap.size,0,none⟩) 2 2) (W.alloc (.cells #[.int .u8 0,.int .u8 0] 5)):=fun W=>sY 2 qJ W;have hA1:127<r:=by omega
    have hA2:¬2047<r:=by omega
    have hA3:¬65535<r:=by omega
    go_enter Tryz.func250,Tryz.ntmps250
    go_wp2_with(go_at_call 284;refine(HS.o _).mono ?_;rintro e w1 ⟨rfl,rfl⟩)
    refine wp_loop_rounds 4 ?_;rw[rounds_succ];go_wp2;rw[rounds_succ];go_wp2;rw[rounds_succ];go_wp2;rw[rounds_succ];go_wp2;refine wp_loop_rounds 2 ?_;rw[rounds_succ];go_wp2;rw[rounds_succ];go_wp2
    go_ret
    exact⟨_,[192+r/64,128+r%64],rfl,.inr ⟨w.heap.size+1,2,rfl,uI (kZ qV)⟩,by rw[HV.o];rfl,jW (jW (jW (jU _ _) _) _) _⟩
  by_cases hC:r<65536
  · have HV:=Hd (show cV r=⟨#[(224+r/4096).toNat.toUInt8,(128+r/64%64).toNat.toUInt8,(128+r%64).toNat.toUInt8]⟩from by unfold cV;rw[hs,if_pos rfl,if_neg (show ¬r<0x80 from hA),if_neg (show ¬r<0x800 from hB),if_pos hC]);clear hs;have hmk:∀W:World,Sem.run jG (Instr.makeSlice 223 (.int .i64 3) (.int .i64 3)) W=.ok (.slice (some ⟨W.heap.size,0,none⟩) 3 3) (W.alloc (.cells #[.int .u8 0,.int .u8 0,.int .u8 0] 5)):=fun W=>sY 3 qJ W;have hA1:127<r:=by omega
    have hA2:2047<r:=by omega
    have hA3:¬65535<r:=by omega
    have hdd:r/64/64=r/4096:=by omega
    go_enter Tryz.func250,Tryz.ntmps250
    go_wp2_with(go_at_call 284;refine(HS.o _).mono ?_;rintro e w1 ⟨rfl,rfl⟩)
    refine wp_loop_rounds 4 ?_;rw[rounds_succ];go_wp2;rw[rounds_succ];go_wp2;rw[rounds_succ];go_wp2;rw[rounds_succ];go_wp2;refine wp_loop_rounds 3 ?_;rw[rounds_succ];go_wp2;rw[rounds_succ];go_wp2;rw[rounds_succ];go_wp2
    go_ret
    exact⟨_,[224+r/4096,128+r/64%64,128+r%64],rfl,.inr ⟨w.heap.size+1,3,rfl,uI (kZ qV)⟩,by rw[HV.o];rfl,jW (jW (jW (jU _ _) _) _) _⟩
  have HV:=Hd (show cV r=⟨#[(240+r/262144).toNat.toUInt8,(128+r/4096%64).toNat.toUInt8,(128+r/64%64).toNat.toUInt8,(128+r%64).toNat.toUInt8]⟩from by unfold cV;rw[hs,if_pos rfl,if_neg (show ¬r<0x80 from hA),if_neg (show ¬r<0x800 from hB),if_neg (show ¬r<0x10000 from hC)]);clear hs;have hmk:∀W:World,Sem.run jG (Instr.makeSlice 223 (.int .i64 4) (.int .i64 4)) W=.ok (.slice (some ⟨W.heap.size,0,none⟩) 4 4) (W.alloc (.cells #[.int .u8 0,.int .u8 0,.int .u8 0,.int .u8 0] 5)):=fun W=>sY 4 qJ W;have hA1:127<r:=by omega
  have hA2:2047<r:=by omega
  have hA3:65535<r:=by omega
  have hdd:r/64/64=r/4096:=by omega
  have hdd2:r/4096/64=r/262144:=by omega
  go_enter Tryz.func250,Tryz.ntmps250
  go_wp2_with(go_at_call 284;refine(HS.o _).mono ?_;rintro e w1 ⟨rfl,rfl⟩)
  refine wp_loop_rounds 4 ?_;rw[rounds_succ];go_wp2;rw[rounds_succ];go_wp2;rw[rounds_succ];go_wp2;rw[rounds_succ];go_wp2;refine wp_loop_rounds 4 ?_;rw[rounds_succ];go_wp2;rw[rounds_succ];go_wp2;rw[rounds_succ];go_wp2;rw[rounds_succ];go_wp2
  go_ret
  exact⟨_,[240+r/262144,128+r/4096%64,128+r/64%64,128+r%64],rfl,.inr ⟨w.heap.size+1,4,rfl,uI (kZ qV)⟩,by rw[HV.o];rfl,jW (jW (jW (jU _ _) _) _) _⟩
theorem rN.below{w w':World}{v:Value}{xs:List Int}(h:rN w v xs)(hb:Below w.heap.size w w'):rN w' v xs:=by
 rcases h with h|⟨g,c,hv,hg⟩
 · exact .inl h
 · exact .inr ⟨g,c,hv,(hb.block g (kQ hg)).trans hg⟩
theorem Yy{w:World}{v:Value}{xs:List Int}(h:rN w v xs):(convert 223 9 v).run jG w=.ok (.string (strOfNums xs)) w:=by
 rcases h with⟨rfl,rfl⟩|⟨g,c,rfl,hg⟩
 · kernel_rfl
 · exact tP xs xs.length c g w 5 hg rfl
def qQ0(k:Nat)(h:Int)(j:Nat):Bool:=decide (j=k)||(decide (j=k+1)&&decide (h=1))||(decide (j+1=k)&&decide (h=2))
def iK(o:List Cl)(k:Nat)(h:Int)(m:ByteArray)(i:Nat):List Cl:=o.mapIdx (fun j c=>if decide (j<i)&&qQ0 k h j then yV m c else c)
theorem mH(o:List Cl)(k:Nat)(h:Int)(m:ByteArray)(i:Nat):(iK o k h m i).length=o.length:=by unfold iK;simp
theorem YG(o:List Cl)(k:Nat)(h:Int)(m:ByteArray):iK o k h m 0=o:=by
 unfold iK;refine List.ext_getElem qV (fun j h1 h2=>?_);simp
theorem Wq(o:List Cl)(k:Nat)(h:Int)(m:ByteArray)(i:Nat)(hh:qQ0 k h i=true):(iK o k h m i).modify i (yV m)=iK o k h m (i+1):=by
 unfold iK;refine List.ext_getElem qV (fun j h1 h2=>?_);rw[List.getElem_modify];simp only[List.getElem_mapIdx]
 by_cases hj:i=j
 · subst hj;simp[hh]
 · rw[if_neg hj]
   by_cases h3:j<i
   · simp[h3,show j<i+1 by omega]
   · simp[h3,show ¬j<i+1 by omega]
theorem YU(o:List Cl)(k:Nat)(h:Int)(m:ByteArray)(i:Nat)(hh:qQ0 k h i=false):iK o k h m i=iK o k h m (i+1):=by
 unfold iK;refine List.ext_getElem qV (fun j h1 h2=>?_);simp only[List.getElem_mapIdx]
 by_cases hj:i=j
 · subst hj;simp[hh]
 · by_cases h3:j<i
   · simp[h3,show j<i+1 by omega]
   · simp[h3,show ¬j<i+1 by omega]
theorem Wj(o:List Cl)(k:Nat)(h:Int)(m:ByteArray)(hk:k<o.length)(h2:h=2→1≤k):
 iK o k h m o.length=(if h=1 then o.modify (k+1) (yV m)else if h=2 then o.modify (k-1) (yV m)else o).modify k (yV m):=by
 refine List.ext_getElem (by
  rw[mH,List.length_modify]
  split
  · simp
  split
  · simp
  · rfl) (fun j q1 q2=>?_)
 have hj:j<o.length:=by rwa[mH]at q1
 unfold iK qQ0;simp only[List.getElem_mapIdx,List.getElem_modify]
 by_cases e1:h=1
 · subst e1;simp only[if_pos,List.getElem_modify]
   by_cases a1:j=k
   · subst a1;simp[hj]
   by_cases a2:j=k+1
   · subst a2;simp[hj]
   · simp[hj,a1,a2,show ¬k=j by omega,show ¬k+1=j by omega]
 by_cases e2:h=2
 · subst e2;have h1k:=h2 rfl;simp only[if_neg e1,if_pos,List.getElem_modify]
   by_cases a1:j=k
   · subst a1;simp[hj,show ¬j-1=j by omega]
   by_cases a2:j+1=k
   · simp[hj,a2,show k-1=j by omega,show ¬k=j by omega]
   · simp[hj,a1,a2,show ¬k=j by omega,show ¬k-1=j by omega]
 · simp only[if_neg e1,if_neg e2]
   by_cases a1:j=k
   · subst a1;simp[hj]
   · simp[hj,a1,e1,e2,show ¬k=j by omega]
theorem YH(o:List Cl)(k:Nat)(h:Int)(m:ByteArray)(i:Nat){j:Nat}{c:Cl}(hc:o[j]? =some c):∃c',(iK o k h m i)[j]? =some c'∧c'.half=c.half:=by
 obtain⟨hlt,he⟩:=jE.1 hc;refine⟨_,jD (by rw[mH];exact hlt),?_⟩;unfold iK;simp only[List.getElem_mapIdx]
 split
 · rw[he];rfl
 · rw[he]
set_option maxHeartbeats 3200000 in
theorem WJ(A:Option Addr)(l:List Cl)(ca:Nat)(x r:Int)(w:World)(hl:pA kX 8 w A l)(h0:0<l.length)(hz:l.length≤10000)(hf:zN l):
 Calls jG 177 #[.slice A l.length ca,.int .i64 x,.int .i32 r] w (pK (fK l x r) w):=by
 have HM:=Hd (eX A l l.length ca w hl rfl h0 hz);have HW:=Hd (fun w=>tZ r w);have HU:=Hd (fun w=>Uw r w);have HM2:=Hd (fun(g cap base:Nat) (o:List Cl) (w':World) (h:CrO w' base g cap o) (hn:o.length=l.length)=>eX (some ⟨g,0,none⟩) o l.length cap w' h.gr hn h0 hz);have HML:=Hd (kR l);have HPL:=Hd (VV l x r);have HPN:=Hd (mU l x r);have hM:zN (uX l):=hf.mend;have hH:=fE l;generalize fK l x r=GO at HPL HPN ⊢;have hid:uX (uX l)=uX l:=bT l;generalize hOO:uX l=O at HM HML HPL hM hH hid;have HZ:=Hd hz;have H0:=Hd h0;have HID:=Hd hid;clear hl hf hOO hid
 by_cases hx0:x<0
 · have HV:=Hd (show O=GO from by
    rw[←HPL.o,show eV O x r=O from by
     unfold eV
     split
     · rfl
     · rw[if_pos (Or.inl hx0)]]
    exact HID.o.symm)
   clear hH hM
   go_enter Tryz.func177,Tryz.ntmps177
   go_wp2_with(go_at_call 164;(with_reducible refine HM.o.mono ?_);rintro e w1 ⟨g,cap,rfl,hc,hb⟩;have HC:=Hd hc;have HB1:=Hd hb;clear hc hb)
   go_ret
   rw[←HV.o];exact⟨g,cap,by rw[HML.o];rfl,HC.o,HB1.o⟩
 obtain⟨k,rfl⟩:∃k:Nat,x=(k:Int):=⟨x.toNat,by omega⟩
 by_cases hxl:(l.length:Int)≤(k:Int)
 · have HV:=Hd (show O=GO from by
    rw[←HPL.o,show eV O k r=O from by unfold eV;rw[uJ,kI qVs]];exact HID.o.symm)
   clear hH hM
   go_enter Tryz.func177,Tryz.ntmps177
   go_wp2_with(go_at_call 164;(with_reducible refine HM.o.mono ?_);rintro e w1 ⟨g,cap,rfl,hc,hb⟩;have HC:=Hd hc;have HB1:=Hd hb;clear hc hb)
   go_ret
   rw[←HV.o];exact⟨g,cap,by rw[HML.o];rfl,HC.o,HB1.o⟩
 have hkl:k<l.length:=by omega
 have hd0:decide ((k:Int)<0)=false:=decide_eq_false qJ;have hd1:decide (l.length≤k)=false:=decide_eq_false qJ;have hklI:(k:Int)<(l.length:Int):=by omega
 have HKO:Hid (k<O.length):=Hd (by rw[HML.o];exact hkl);obtain⟨c,hc⟩:∃c,O[k]? =some c:=⟨O[k]'(HKO.o),jD HKO.o⟩;have HV0:Hid (eV O k r=if(k:Int)<0∨c.r=0∨pR r≠0∨32<(c.more++cV r).size then O else(if c.half=1 then O.modify (k+1) (yV (c.more++cV r))else if c.half=2 then O.modify (k-1) (yV (c.more++cV r))else O).modify k (yV (c.more++cV r))):=Hd (by unfold eV;rw[uJ,hc]);have HH:=Hd (hH k c hc);have hm32:c.more.size≤32:=hM c (uW hc);have hp32:(cV r).size≤32:=Jn r;generalize eV O k r=RES at HV0 HPL;have HCC:=Hd hc;clear hH hM hc
 by_cases hr0:c.r=0
 · have hr0b:(c.r==0)=true:=beq_iff_eq.2 hr0;have HV:=Hd (show O=GO from by
    rw[←HPL.o,HV0.o,if_pos (.inr (.inl hr0))];exact HID.o.symm)
   go_enter Tryz.func177,Tryz.ntmps177
   go_wp2_with(go_at_call 164;(with_reducible refine HM.o.mono ?_);rintro e w1 ⟨g,cap,rfl,hc,hb⟩;have q0:w1.cell? ⟨g,k*8,none⟩=some (.int .i32 c.r):=hc.range HCC.o 0 _ rfl;have HC:=Hd hc;have HB1:=Hd hb;clear hc hb)
   go_ret
   rw[←HV.o];exact⟨g,cap,by rw[HML.o];rfl,HC.o,HB1.o⟩
 have hr0b:(c.r==0)=false:=zb hr0;have HC0:=Hd hr0;generalize hwd:pR r=wd at HW HV0
 by_cases hw0:wd=0
 rotate_left
 · have hw0b:(wd==0)=false:=zb hw0;clear hwd;have HV:=Hd (show O=GO from by
    rw[←HPL.o,HV0.o,if_pos (.inr (.inr (.inl hw0)))];exact HID.o.symm)
   go_enter Tryz.func177,Tryz.ntmps177
   go_wp2_with(first
    |(go_at_call 164;(with_reducible refine HM.o.mono ?_);rintro e w1 ⟨g,cap,rfl,hc,hb⟩;have q0:w1.cell? ⟨g,k*8,none⟩=some (.int .i32 c.r):=hc.range HCC.o 0 _ rfl;have HC:=Hd hc;have HB1:=Hd hb;clear hc hb)
    |(go_at_call 176;refine(HW.o _).mono ?_;rintro e w2 ⟨rfl,hb⟩;have HC2:=Hd (HC.o.below hb);have HB2:=Hd (jN HB1.o hb);clear hb))
   go_ret
   rw[←HV.o];exact⟨g,cap,by rw[HML.o];rfl,HC2.o,HB2.o⟩
 subst hw0;clear hwd;generalize cV r=pr at HU HV0 hp32;obtain⟨m,hm⟩:∃m,c.more++pr=m:=⟨_,rfl⟩;rw[hm]at HV0;have hsz:¬9223372036854775807<c.more.size+pr.size:=by omega
 clear hm32 hp32
 go_enter Tryz.func177,Tryz.ntmps177
 go_upto_region 4 with(first
  |(go_at_call 164;(with_reducible refine HM.o.mono ?_);rintro e w1 ⟨g,cap,rfl,hc,hb⟩;have q0:w1.cell? ⟨g,k*8,none⟩=some (.int .i32 c.r):=hc.range HCC.o 0 _ rfl;have HC:=Hd hc;have HB1:=Hd hb;clear hc hb)
  |(go_at_call 176;refine(HW.o _).mono ?_;rintro e w2 ⟨rfl,hb⟩;have HC2:=Hd (HC.o.below hb);have HB2:=Hd (jN HB1.o hb);clear hb q0)
  |fail)
 have q1:w2.cell? ⟨g,k*8+1,none⟩=some (.string c.more):=HC2.o.range HCC.o 1 _ rfl;refine gG 8 (fun w'=>Below w2.heap.size w2 w'∧w'.cell? ⟨g,k*8+1,none⟩=some (.string c.more)) qQ qQ (fun w1 w2 hS hb=>⟨jN hS.1 hb,jA hb hS.2⟩) ⟨(jU _ _).drew,q1⟩ ?_;refine AtN.go 0 ?_
 iterate 6 refine zA ?_
 refine AtC.back ?_;refine AtN.one 6 (o:=⟨_,_,_,_,_,_⟩) (fun v=>True) (fun v w'=>∃xs,rN w' v xs∧strOfNums xs=pr) qV qQ rfl (fun v w1 w2 ⟨xs,hv,hr⟩ hb=>⟨xs,hv.below hb,hr⟩) (uY.call 250 #[.int .i32 r] _ _ qK ?_ (fun w' hS=>?_)) ?_
 · intro w'
   go_simp
 · refine(HU.o w').mono ?_;rintro e w3 ⟨v,xs,rfl,hx,hs,hb⟩;exact⟨v,rfl,⟨trivial,xs,hx,hs⟩,hb⟩
 rintro v -;refine zP ?_;refine AtN.take 7 (o:=⟨_,_,_,_,_,_⟩) (v:=.string pr) qQ rfl qV qQ qQ (uY.val qK (fun w' hS=>?_)) ?_
 · obtain⟨-,xs,hv,hs⟩:=hS;have hcv:=Yy hv;rw[hs]at hcv
   go_simp
 refine zP ?_;refine AtN.done qQ (fun w' hS=>?_);have HB3:=Hd (jN HB2.o hS.1.1);have HC3:=Hd (HC2.o.below hS.1.1);have HMM:=Hd hm;have w4:=hS.1.2;clear hS q1
 by_cases hbig:32<m.size
 · have hbI:(32:Int)<(m.size:Int):=by omega
   have HV:=Hd (show O=GO from by
    rw[←HPL.o,HV0.o,if_pos (.inr (.inr (.inr hbig)))];exact HID.o.symm)
   go_wp2
   go_ret
   rw[←HV.o];exact⟨g,cap,by rw[HML.o];rfl,HC3.o,HB3.o⟩
 have hbI:¬(32:Int)<(m.size:Int):=by omega
 have HV:=Hd (show RES=iK O k c.half m O.length from by
  rw[HV0.o,if_neg (by have :=HC0.o;simp;omega),Wj O k c.half m HKO.o HH.o.2])
 clear hbig HV0 hr0 hr0b
 go_wp2_with fail
 clear hsz hm w4
 go_loopw [9] (fun s9 wr=>∃(i:Nat) (o:List Cl),s9=.int .i64 i∧i≤l.length∧o=iK O k c.half m i∧CrO wr w.heap.size g cap o∧Mod [g] w' wr) (fun s9 _=>l.length-(intOf s9).toNat)
 case atStart=>exact⟨0,O,rfl,kT _,(YG _ _ _ _).symm,HC3.o,Mod.refl _ _⟩
 case round=>
  obtain⟨i,o,rfl,hi,ho,hO,hMd⟩:=hrel;have HO:=Hd hO;have HMd:=Hd hMd;have HE:=Hd ho;have HOL:Hid (o.length=l.length):=Hd (by rw[ho,mH,HML.o]);have HBM:=Hd (HB3.o.trans (hMd.below (fun x hx=>by rw[jR.1 hx];exact HC3.o.lt.1) HB3.o.size));clear hO hMd ho
  by_cases hlt:i<l.length
  rotate_left
  · have hge:¬(i:Int)<(l.length:Int):=by omega
    have hO':=HO.o;rw[HE.o,show i=O.length by rw[HML.o];omega,←HV.o]at hO';have HM3:=Hd (HM2.o _ _ _ _ _ hO' (by rw[HV.o,mH,HML.o]));clear hO'
    go_wp2_with(go_at_call 164;refine HM3.o.mono ?_;rintro e w4 ⟨g',cap',rfl,hc,hb⟩;have HC4:=Hd hc;have HB4:=Hd hb;clear hc hb)
    go_ret
    have hO2:=HC4.o;rw[HPL.o]at hO2;exact⟨g',cap',by rw[HPN.o];rfl,gJ hO2 HBM.o.size,jN HBM.o HB4.o⟩
  · have hltI:(i:Int)<(l.length:Int):=by omega
    have HI:=Hd hlt;obtain⟨c',hc',hh'⟩:=YH O k c.half m i HCC.o;rw[←HE.o]at hc';have q2:wr.cell? ⟨g,k*8+2,none⟩=some (.int .i64 c.half):=by rw[←hh'];exact HO.o.range hc' 2 _ rfl
    clear hc' hh';obtain⟨k1,hk1⟩:∃k1:Nat,k1=k+1:=⟨_,rfl⟩;have hk1I:(k:Int)+1=(k1:Int):=by omega
    have hwk1:jP.wrap (k1:Int)=(k1:Int):=jH _ qJ;obtain⟨k2,hk2⟩:∃k2:Int,k2=(k:Int)-1:=⟨_,rfl⟩;have hk2I:(k:Int)-1=k2:=hk2.symm;have hwk2:jP.wrap k2=k2:=jH _ qJ;have HK12:=Hd (kM hk1 hk2);obtain⟨d,hd⟩:∃d,o[i]? =some d:=⟨_,jD (by rw[HOL.o];exact hlt)⟩;obtain⟨dm,hdm⟩:=HO.o.holdMore hd;clear hd hk1 hk2;obtain⟨ib,hib⟩:∃ib:Int,ib=(i:Int):=⟨_,rfl⟩;have e0:((i:Int)==(k:Int))=decide (i=k):=by rw[Bool.eq_iff_iff];simp;omega
    have e1:((i:Int)==(k1:Int))=decide (i=k+1):=by rw[Bool.eq_iff_iff];have :=HK12.o.1;simp;omega
    have e2:((i:Int)==k2)=decide (i+1=k):=by rw[Bool.eq_iff_iff];have :=HK12.o.2;simp;omega
    have e3:(c.half==1)=decide (c.half=1):=by rw[Bool.eq_iff_iff];simp
    have e4:(c.half==2)=decide (c.half=2):=by rw[Bool.eq_iff_iff];simp
    have HHB:Hid (qQ0 k c.half i=(decide (i=k)||(decide (i=k+1)&&decide (c.half=1))||(decide (i+1=k)&&decide (c.half=2)))):=Hd rfl;generalize decide (i=k)=b0 at e0 HHB;generalize decide (i=k+1)=b1 at e1 HHB;generalize decide (i+1=k)=b2 at e2 HHB;generalize decide (c.half=1)=b3 at e3 HHB;generalize decide (c.half=2)=b4 at e4 HHB;clear hib hlt;cases b0<;>cases b1<;>cases b2<;>cases b3<;>cases b4
    all_goals
     go_wp2
     go_roundw
     case rel=>first
      |exact⟨i+1,_,by go_num,HI.o,by rw[HE.o];exact YU _ _ _ _ _ HHB.o,HO.o,HMd.o⟩
      |exact⟨i+1,_,by go_num,HI.o,(by rw[HE.o];exact Wq _ _ _ _ _ HHB.o),HO.o.more (by rw[HOL.o];exact HI.o) m |>.len qV,HMd.o.setCell (a:=⟨g,i*8+1,none⟩) (.inl qV) (.string m)⟩
     case measure=>have :=HI.o;simp[intOf];omega
structure Dv where
 D:Nat
 vl:Value
 vt:Value
 S:List Rh
def dcX(q:Dv):List Nat:=q.D::(q.vl.ownBlock.toList++q.vt.ownBlock.toList)
structure DcO(base:Nat)(w:World)(q:Dv)(d:Dc):Prop where
 blk:w.heap[q.D]? =some (.cells #[q.vl,.int .i64 d.base,.int .i64 d.cols,.int .i64 d.room,.int .u64 (d.gone%18446744073709551616),q.vt] 61 (0,0))
 hb:base≤q.D
 own:w.ownsRow base 97 2 q.vl q.S.length (uS yZ q.S)
 told:w.ownsRow base 119 3 q.vt d.told.length (uS dQ d.told)
 rl:q.S.map yA=d.L
 rows:∀r∈q.S,pX w r∧r.cs.length=d.cols
 cols2:2≤d.cols
 cols1000:d.cols≤1000
 gone0:0≤d.gone
section
variable {base:Nat}{w:World}{q:Dv}{d:Dc}
theorem DcO.len(h:DcO base w q d):q.S.length=d.L.length:=by rw[←h.rl,List.length_map]
theorem DcO.vform(h:DcO base w q d):∃A c,q.vl=.slice A q.S.length c:=gU h.own
theorem DcO.nocel(h:DcO base w q d):yD w (dcX q):=by
 intro b hb cs f he;rcases kW.1 hb with rfl|hb
 · exact qZj
 rcases kL.1 hb with hb|hb
 · obtain⟨cur,hc⟩:=uA h.own qJ8;exact uP hc he qZ rfl
 · obtain⟨cur,hc⟩:=uA h.told qJ8;exact uP hc he qZ rfl
theorem DcO.lt(h:DcO base w q d):∀b∈dcX q,base≤b∧b<w.heap.size:=by
 intro b hb;rcases kW.1 hb with rfl|hb
 · exact qZh
 rcases kL.1 hb with hb|hb
 · exact h.own.lt b qJ8
 · exact h.told.lt b qJ8
theorem DcO.mod{X:List Nat}{w':World}(h:DcO base w q d)(hm:Mod X w w')(hX:yD w X)(hd:∀b∈dcX q,b∉X):DcO base w' q d:=
 ⟨(hm.block q.D (kF.1 h.blk).1 (hd q.D qV9)).trans h.blk,h.hb,uL h.own hm (fun b hb=>hd b (by simp[dcX,hb])),uL h.told hm (fun b hb=>hd b (by simp[dcX,hb])),h.rl,fun r hr=>⟨(h.rows r hr).1.mod hm hX,(h.rows r hr).2⟩,h.cols2,h.cols1000,h.gone0⟩
theorem DcO.below{w':World}(h:DcO base w q d)(hb:Below w.heap.size w w'):DcO base w' q d:=h.mod (Mod.of_below (X:=[]) hb) (yD.nil w) (fun _ _ h=>by cases h)
def gB(base:Nat)(w:World)(q:Dv)(d':Dc)(w':World):Prop:=
 ∃q',q'.D=q.D∧DcO base w' q' d'∧Mod (dcX q) w w'∧∀b∈dcX q',b∈dcX q∨w.heap.size≤b
def pL(base:Nat)(w:World)(q:Dv)(d':Dc)(e:Ending)(w':World):Prop:=e=.returned (.tuple #[])∧gB base w q d' w'
theorem DcO.res(h:DcO base w q d):gB base w q d w:=⟨q,rfl,h,Mod.refl _ _,fun b hb=>.inl hb⟩
theorem DcO.res_below{w':World}(h:DcO base w q d)(hb:Below w.heap.size w w'):gB base w q d w':=⟨q,rfl,h.below hb,Mod.of_below hb,fun b hb=>.inl hb⟩
theorem gB.trans{w1 w2:World}{q1:Dv}{d2:Dc}(h1:q1.D=q.D∧Mod (dcX q) w w1∧∀b∈dcX q1,b∈dcX q∨w.heap.size≤b)(h2:gB base w1 q1 d2 w2):gB base w q d2 w2:=by
 obtain⟨e1,hm,hx⟩:=h1;obtain⟨q2,a1,a3,a4,a5⟩:=h2;refine⟨q2,a1.trans e1,a3,hm.trans a4 hx,fun b hb=>?_⟩;rcases a5 b hb with h|h
 · exact hx b h
 · exact .inr (vY hm.size h)
theorem gB.pre{w1 w2:World}{d2:Dc}(hb:Below w.heap.size w w1)(h2:gB base w1 q d2 w2):gB base w q d2 w2:=gB.trans ⟨rfl,Mod.of_below hb,fun b hb=>.inl hb⟩ h2
theorem gB.post{w1 w2:World}{d2:Dc}(h:gB base w q d2 w1)(hb:Below w1.heap.size w1 w2):gB base w q d2 w2:=by
 obtain⟨q',a1,a3,a4,a5⟩:=h;exact⟨q',a1,a3.below hb,a4.then_below hb,a5⟩
theorem nG{f:FuncId}{args:Array Value}{w1:World}{d1 d2:Dc}(hs:gB base w q d1 w1)(hc:∀q1,q1.D=q.D→DcO base w1 q1 d1→Calls jG f args w1 (pL base w1 q1 d2)):Calls jG f args w1 (pL base w q d2):=by
 obtain⟨q1,e1,h1,hm,hx⟩:=hs;exact(hc q1 e1 h1).mono fun e w2 ⟨he,h2⟩=>⟨he,gB.trans ⟨e1,hm,hx⟩ h2⟩
theorem gB.hold{w1:World}{d1:Dc}(hs:gB base w q d1 w1){b o:Nat}{v:Value}(hb:b∉dcX q)(hc:w.cell? ⟨b,o,none⟩=some v):w1.cell? ⟨b,o,none⟩=some v:=by
 obtain⟨q1,-,-,hm,-⟩:=hs;exact hm.cell hb hc
theorem DcO.cells(h:DcO base w q d):(w.cell? ⟨q.D,0,none⟩=some q.vl∧w.frozen? ⟨q.D,0,none⟩=false)∧(w.cell? ⟨q.D,1,none⟩=some (.int .i64 d.base)∧w.frozen? ⟨q.D,1,none⟩=false)∧(w.cell? ⟨q.D,2,none⟩=some (.int .i64 d.cols)∧w.frozen? ⟨q.D,2,none⟩=false)∧(w.cell? ⟨q.D,3,none⟩=some (.int .i64 d.room)∧w.frozen? ⟨q.D,3,none⟩=false)∧(w.cell? ⟨q.D,4,none⟩=some (.int .u64 (d.gone%18446744073709551616))∧w.frozen? ⟨q.D,4,none⟩=false)∧(w.cell? ⟨q.D,5,none⟩=some q.vt∧w.frozen? ⟨q.D,5,none⟩=false):=
 ⟨at_ h.blk 0 _ rfl,at_ h.blk 1 _ rfl,at_ h.blk 2 _ rfl,at_ h.blk 3 _ rfl,at_ h.blk 4 _ rfl,at_ h.blk 5 _ rfl⟩
theorem QH(h:DcO base w q d)(hL:d.L.length≤1000000)(hbs:d.base≤d.L.length):Calls jG 87 #[.pointer (some ⟨q.D,0,none⟩)] w fun e w'=>e=.returned (.int .i64 (hE d))∧Below w.heap.size w w':=by
 obtain⟨A,c,hv⟩:=h.vform;have hl:=h.len;obtain⟨⟨x0,-⟩,⟨x1,-⟩,-⟩:=h.cells;rw[hv,hl]at x0;have HD:=Hd (show hE d=(d.L.length:Int)-d.base from rfl);generalize hE d=R at HD ⊢;have hR:(d.L.length:Int)-(d.base:Int)=R:=HD.o.symm;have hwR:jP.wrap R=R:=jH _ qJ;clear h hl hv hbs
 go_enter Tryz.func87,Tryz.ntmps87
 go_upto_region 1 with fail
 refine zW2 9 x0 x1 fun w' hS=>?_;have HB:=Hd hS.1;clear hS x0 x1
 go_wp2
 go_ret
 exact⟨rfl,HB.o⟩
theorem oZ(h:DcO base w q d)(hL:d.L.length≤1000000)(hbs:d.base≤d.L.length)(y:Int):Calls jG 125 #[.pointer (some ⟨q.D,0,none⟩),.int .i64 y] w fun e w'=>e=.returned (.bool (nU d y))∧Below w.heap.size w w':=by
 have HR:=Hd (QH h hL hbs);unfold nU;clear h
 by_cases hy:0≤y
 · go_enter Tryz.func125,Tryz.ntmps125
   go_wp2_with(go_at_call 87;refine HR.o.mono ?_;rintro e w1 ⟨rfl,hb⟩;have HB:=Hd hb;clear hb)
   go_ret
   refine⟨?_,HB.o⟩;simp[hy]
 · have HB:=Hd (jU w.heap.size w)
   go_enter Tryz.func125,Tryz.ntmps125
   go_wp2
   go_ret
   refine⟨?_,HB.o⟩;simp[hy]
   try(intro h;omega)
theorem DcO.screen{w':World}{S':List Rh}{L':List Ro}(h:DcO base w q d)(ho:w'.ownsRow base 97 2 q.vl S'.length (uS yZ S'))(hm:Mod q.vl.ownBlock.toList w w')(hs:S'.map yA=L')(hr:∀r∈S',pX w' r∧r.cs.length=d.cols):
 gB base w q {d with L:=L'} w':=by
 have hX:yD w q.vl.ownBlock.toList:=fun b hb cs f he=>h.nocel b (by simp[dcX,(jT.1 hb)]) cs f he;have hvs:∀b,q.vl.ownBlock=some b→∃cur:Array Value,w.heap[b]? =some (.cells cur 97 (0,0)):=fun b hb=>uA h.own hb;refine⟨{q with S:=S'},rfl,⟨(hm.block q.D (kF.1 h.blk).1 (fun hb=>?_)).trans h.blk,h.hb,ho,uL h.told hm (fun b hb hbX=>?_),hs,hr,h.cols2,h.cols1000,h.gone0⟩,hm.mono (fun b hb=>?_),fun b hb=>.inl hb⟩
 · obtain⟨cur,hc⟩:=hvs _ (jT.1 hb);exact qZk
 · obtain⟨cur,hc⟩:=hvs _ (jT.1 hbX);obtain⟨cur2,hc2⟩:=uA h.told hb;exact uP hc2 hc qZ rfl
 · simp[dcX,jT.1 hb]
theorem DcO.setCont(h:DcO base w q d){k gs c:Nat}(hv:q.vl=.slice (some ⟨gs,0,none⟩) q.S.length c)(hk:k<q.S.length)(b:Bool):gB base w q {d with L:=d.L.modify k (fun r=>{r with cont:=b})} (w.setCell ⟨gs,k*2+1,none⟩ (.bool b)):=by
 have hx:q.S[k]? =some q.S[k]:=jD hk;have hM:Mod q.vl.ownBlock.toList w (w.setCell ⟨gs,k*2+1,none⟩ (.bool b)):=(Mod.refl _ _).setCell (a:=⟨gs,k*2+1,none⟩) (.inl qKk) _;have hX:yD w q.vl.ownBlock.toList:=fun x hx cs f he=>h.nocel x (by simp[dcX,(jT.1 hx)]) cs f he;have hown:=h.own;rw[hv]at hown;have h1:=cR hown (k*2+1) (.bool b);rw[cT zJ q.S k q.S[k] {q.S[k]with cont:=b} 1 (.bool b) hx qZ rfl]at h1;refine h.screen (S':=q.S.set k {q.S[k]with cont:=b}) qV1 hM ?_ (fun r hr=>?_)
 · rw[←h.rl];refine vV fun i=>?_;rw[vQ,vP,List.getElem?_modify,vQ]
   by_cases hi:k=i
   · subst hi;rw[if_pos rfl,if_pos hk,hx];simp[yA]
   · rw[if_neg hi];cases q.S[i]? with
     |none=>rfl
     |some x=>simp[hi]
 · rcases List.mem_or_eq_of_mem_set hr with hr|rfl
   · exact⟨(h.rows r hr).1.mod hM hX,(h.rows r hr).2⟩
   · have :=h.rows q.S[k] (List.getElem_mem hk);exact⟨(this.1.mod hM hX).cont b,this.2⟩
theorem DcO.setRow(h:DcO base w q d){k gs c:Nat}{r:Rh}(hv:q.vl=.slice (some ⟨gs,0,none⟩) q.S.length c)(hr:q.S[k]? =some r){A:Option Addr}{cap:Nat}(F:List Cl→List Cl)(hF:(F r.cs).length=r.cs.length)(hc:pX w ⟨A,F r.cs,cap,r.cont⟩):
 gB base w q {d with L:=d.L.modify k (fun r=>{r with cs:=F r.cs})} (w.setCell ⟨gs,k*2,none⟩ (.slice A r.cs.length cap)):=by
 have hk:=(jE.1 hr).1;have hM:Mod q.vl.ownBlock.toList w (w.setCell ⟨gs,k*2,none⟩ (.slice A r.cs.length cap)):=(Mod.refl _ _).setCell (a:=⟨gs,k*2,none⟩) (.inl qKk) _;have hX:yD w q.vl.ownBlock.toList:=fun x hx cs f he=>h.nocel x (by simp[dcX,(jT.1 hx)]) cs f he;have hown:=h.own;rw[hv]at hown;have h1:=cR hown (k*2) (.slice A r.cs.length cap);have e0:=cT zJ q.S k r ⟨A,F r.cs,cap,r.cont⟩ 0 (.slice A r.cs.length cap) hr qZ (by simp[yZ,hF]);rw[vO]at e0;rw[e0]at h1;refine h.screen (S':=q.S.set k ⟨A,F r.cs,cap,r.cont⟩) qV1 hM ?_ (fun x hx=>?_)
 · rw[←h.rl];refine vV fun i=>?_;rw[vQ,vP,List.getElem?_modify,vQ]
   by_cases hi:k=i
   · subst hi;rw[if_pos rfl,if_pos hk,hr];simp[yA]
   · rw[if_neg hi];cases q.S[i]? with
     |none=>rfl
     |some x=>simp[hi]
 · rcases List.mem_or_eq_of_mem_set hx with hx|rfl
   · exact qZl
   · exact⟨hc.mod hM hX,hF.trans (h.rows r (uW hr)).2⟩
end
section
variable {base:Nat}{w:World}{q:Dv}{d:Dc}
theorem Vh(h:DcO base w q d)(y:Nat){r:Rh}(hr:q.S[d.base+y]? =some r)(hL:d.L.length≤1000000):Calls jG 133 #[.pointer (some ⟨q.D,0,none⟩),.int .i64 y] w fun e w'=>e=.returned (.slice r.A r.cs.length r.cap)∧Below w.heap.size w w':=by
 have hk:=(jE.1 hr).1;have hl:=h.len;obtain⟨gs,c,hv⟩:=gE h.own qJ;obtain⟨⟨x0,-⟩,⟨x1,-⟩,-⟩:=h.cells;have hown:=h.own;rw[hv]at x0 hown;obtain⟨⟨y0,-⟩,-⟩:=yL hown hr;obtain⟨k,hk0⟩:∃k:Nat,k=d.base+y:=⟨_,rfl⟩;rw[←hk0]at y0 hk;have hkI:(d.base:Int)+(y:Int)=(k:Int):=by omega
 have hwk:jP.wrap (k:Int)=(k:Int):=jH _ qJ;have hkl:(k:Int)<(q.S.length:Int):=by omega
 clear h hl hv hown hr hk0
 go_enter Tryz.func133,Tryz.ntmps133
 go_upto_region 1 with fail
 refine zW3 13 x0 x1 y0 fun w' hS=>?_;have HB:=Hd hS.1;clear hS x0 x1 y0
 go_wp2
 go_ret
 exact⟨rfl,HB.o⟩
theorem xV(h:DcO base w q d)(y:Nat){r:Rh}(hr:q.S[d.base+y]? =some r)(hL:d.L.length≤1000000)(A:Option Addr)(cap:Nat)(F:List Cl→List Cl)(hF:(F r.cs).length=r.cs.length)(hc:pX w ⟨A,F r.cs,cap,r.cont⟩):
 Calls jG 131 #[.pointer (some ⟨q.D,0,none⟩),.int .i64 y,.slice A r.cs.length cap] w (pL base w q {d with L:=d.L.modify (d.base+y) (fun r=>{r with cs:=F r.cs})}):=by
 have hk:=(jE.1 hr).1;have hl:=h.len;obtain⟨gs,c,hv⟩:=gE h.own qJ;obtain⟨⟨x0,-⟩,⟨x1,-⟩,-⟩:=h.cells;have hown:=h.own;have H:=Hd h;have HV:=Hd hv;have HR:=Hd hr;have HF:=Hd hF;have HC:=Hd hc;rw[hv]at x0 hown;obtain⟨⟨y0,y0f⟩,-⟩:=yL hown hr;have HY:=Hd (kM y0 y0f);obtain⟨k,hk0⟩:∃k:Nat,k=d.base+y:=⟨_,rfl⟩;rw[←hk0]at HR HY ⊢;rw[←hk0]at hk;have hkI:(d.base:Int)+(y:Int)=(k:Int):=by omega
 have hwk:jP.wrap (k:Int)=(k:Int):=jH _ qJ;have hkl:(k:Int)<(q.S.length:Int):=by omega
 clear h hl hv hown hr hk0 y0 y0f hF hc
 go_enter Tryz.func131,Tryz.ntmps131
 go_upto_region 0 with fail
 refine zW2 11 x0 x1 fun w' hS=>?_;have HB:=Hd hS.1;obtain⟨y0,y0f⟩:=bQ HB.o HY.o;clear hS x0 x1
 go_wp2
 go_end0
 have :=((H.o.below HB.o).setRow HV.o HR.o F HF.o (HC.o.below HB.o)).pre HB.o;exact⟨rfl,this⟩
theorem QW(h:DcO base w q d)(hL:d.L.length≤1000000)(hbs:d.base≤d.L.length)(y:Int):Calls jG 141 #[.pointer (some ⟨q.D,0,none⟩),.int .i64 y] w (pL base w q (gN d y)):=by
 have HIN:=Hd (oZ h hL hbs y);cases hin:nU d y with
 |false=>
  rw[hin]at HIN;have H:=Hd h;have HC:=Hd (show gN d y=d from by unfold gN;rw[hin];rfl);clear h
  go_enter Tryz.func141,Tryz.ntmps141
  go_wp2_with(go_at_call 125;refine HIN.o.mono ?_;rintro e w1 ⟨rfl,hb⟩;have HB:=Hd hb;clear hb)
  go_end0
  rw[HC.o];exact⟨rfl,H.o.res_below HB.o⟩
 |true=>
  rw[hin]at HIN;have hy:0≤y∧y<hE d:=by unfold nU at hin;simpa using hin
  have HC:=Hd (show gN d y={d with L:=d.L.modify (d.base+y.toNat) (fun r=>{r with cont:=false})}from by unfold gN;rw[hin];rfl);obtain⟨k0,rfl⟩:∃k:Nat,y=k:=⟨y.toNat,by omega⟩;have hl:=h.len;have hkk:d.base+k0<q.S.length:=by unfold hE at hy;omega
  rw[uJ]at HC;generalize gN d (k0:Int)=R at HC ⊢;obtain⟨gs,c,hv⟩:=gE h.own qJ;obtain⟨⟨x0,x0f⟩,⟨x1,x1f⟩,-⟩:=h.cells;have hown:=h.own;have H:=Hd h;have HV:=Hd hv;rw[hv]at x0 hown;obtain⟨r0,hr0⟩:∃r,q.S[d.base+k0]? =some r:=⟨_,jD hkk⟩;obtain⟨-,y1⟩:=yL hown hr0;clear hr0;have HY:=Hd y1;obtain⟨k,hk0⟩:∃k:Nat,k=d.base+k0:=⟨_,rfl⟩;have HX:=Hd (kM x0 x1);rw[←hk0]at HC HY hkk;have hkI:(d.base:Int)+(k0:Int)=(k:Int):=by omega
  have hwk:jP.wrap (k:Int)=(k:Int):=jH _ qJ;have hkl:(k:Int)<(q.S.length:Int):=by omega
  clear h hl hv hown hk0 y1 x0 x1 x0f x1f hy hin
  go_enter Tryz.func141,Tryz.ntmps141
  go_upto_region 1 with(go_at_call 125;refine HIN.o.mono ?_;rintro e w1 ⟨rfl,hb⟩;have HB:=Hd hb;have x0:=jA hb HX.o.1;have x1:=jA hb HX.o.2;clear hb)
  refine zW2 10 x0 x1 fun w' hS=>?_;have HB2:=Hd (jN HB.o hS.1);obtain⟨y0,y0f⟩:=bQ HB2.o HY.o;clear hS x0 x1
  go_wp2
  go_end0
  have :=((H.o.below HB2.o).setCont HV.o hkk false).pre HB2.o;rw[HC.o];exact⟨rfl,this⟩
set_option maxHeartbeats 1600000 in
theorem Vf(h:DcO base w q d)(b:Col):
 Calls jG 167 #[.pointer (some ⟨q.D,0,none⟩),.agg #[.int .i64 b.k,.int .i64 b.n]] w (fD d.cols b w):=by
 obtain⟨cols,hcols⟩:∃c,c=d.cols:=⟨_,rfl⟩;have h2:=h.cols2;have h3:=h.cols1000;obtain⟨-,-,⟨x2,-⟩,-⟩:=h.cells;rw[←hcols]at h2 h3 x2 ⊢;clear h hcols;have HBL:=Hd (fun w=>ZQ cols b w qJ h3);have x:=uI (o:=.cells #[.slice none 0 0,.bool false] 97) (kZ (W:=w) (b:=w.heap.size) (o:=.cells #[.int .i64 b.k,.int .i64 b.n] 38) rfl);have y:=kZ (W:=w.alloc (.cells #[.int .i64 b.k,.int .i64 b.n] 38)) (b:=w.heap.size+1) (o:=.cells #[.slice none 0 0,.bool false] 97) qV;have hb0:=jW (jW (jU w.heap.size w) (.cells #[.int .i64 b.k,.int .i64 b.n] 38)) (.cells #[.slice none 0 0,.bool false] 97);have HB:=Hd hb0;have X2:=Hd (jA hb0 x2);have X0:=Hd (at_ x 0 _ rfl).1;have X1:=Hd (at_ x 1 _ rfl).1;have Y:=Hd y;clear x y hb0 x2
 go_enter Tryz.func167,Tryz.ntmps167
 go_upto_region 1 with fail
 generalize World.alloc _ _=W at HB X2 X0 X1 Y ⊢;have x2:=X2.o;have x0:=X0.o;have x1:=X1.o;refine zW3 5 x2 x0 x1 fun w' hS=>?_;have HB1:=Hd (jN HB.o hS.1);have HY:=Hd ((hS.1.block _ (kQ Y.o)).trans Y.o);clear hS x2 x0 x1 X2 X0 X1 Y
 go_wp2_with(go_at_call 236;refine(HBL.o _).mono ?_;rintro e w2 ⟨g,cap,rfl,hc,hb⟩;rw[kS];have HC:=Hd hc;have HB2:=Hd hb
             have HY2:=Hd ((hb.block _ (kQ HY.o)).trans HY.o);obtain⟨y0,y0f⟩:=at_ HY2.o 0 _ rfl;obtain⟨y1,y1f⟩:=at_ HY2.o 1 _ rfl;clear hc hb)
 have hset:=eZ (u':=.slice (some ⟨g,0,none⟩) cols cap) (v':=.bool false) ⟨y0,y0f⟩ ⟨y1,y1f⟩;have HB3:=kH (kH (jN HB1.o HB2.o) (show w.heap.size≤w.heap.size+1 by omega) (o:=0) (.slice (some ⟨g,0,none⟩) cols cap)) (show w.heap.size≤w.heap.size+1 by omega) (o:=1) (.bool false);refine bodyPost_ret (tQ rfl _ _ (w.heap.size+1) _ _ rfl hset.1.1 hset.2.1) rfl ⟨g,cap,rfl,(pX.of_own HC.o qW (Qd _ _) false).mod (X:=[w.heap.size+1]) (yB (Mod.refl _ _) (.inl qV)) ?_,HB3⟩;intro x hx cs' f he;rw[jR.1 hx]at he;exact uP HY2.o he qZ rfl
end
def RsO(B:Nat)(w:World)(v:Value)(X:List Rh):Prop:=w.ownsRow B 97 2 v X.length (uS yZ X)
theorem RsO.mod{B:Nat}{w w':World}{v:Value}{X:List Rh}{Z:List Nat}(h:RsO B w v X)(hm:Mod Z w w')(hZ:∀g,v.ownBlock=some g→g∉Z):RsO B w' v X:=uL h hm hZ
theorem RsO.below{B:Nat}{w w':World}{v:Value}{X:List Rh}(h:RsO B w v X)(hb:Below w.heap.size w w'):RsO B w' v X:=h.mod (Mod.of_below (X:=[]) hb) (fun _ _ h=>by cases h)
theorem oV{w:World}{base gs n c:Nat}{S:List Rh}(h:w.ownsRow base 97 2 (.slice (some ⟨gs,0,none⟩) n c) n (uS yZ S))(i m off:Nat)(hoff:0<((S.drop i).take m).length→off=i*2)(j:Nat)(u:Value)
 (hj:(uS yZ ((S.drop i).take m))[j]? =some u):w.cell? ((⟨gs,off,none⟩:Addr).add j)=some u:=by
 have hlt:=(jE.1 hj).1;rw[yP zJ]at hlt;have hpos:0<((S.drop i).take m).length:=by omega
 rw[hoff hpos,vZ];refine(pC h ?_).1;rw[←iC zJ,←iD zJ,List.getElem?_take_of_lt,gV]at hj
 · exact hj
 · simp only[vH]at hlt;omega
section
variable {ops:Array Oper}{rest:List Oper}{o:Oper}{a:Act}{w:World}{Q:Exit→Act→World→Prop}
theorem dJ(hgd:o.guard=none)(s x:Operand)(ho:o.op=.call {callee:=.builtin .append,args:=#[s,x],argTypes:=#[58,58]})
 (B:Nat) (v:Value) (X:List Rh) (hs:a.eval s=v) (hown:RsO B w v X) (ad:Addr) (m c:Nat) (Y:List Rh) (hx:a.eval x=.slice (some ad) m c) (hm:Y.length=m)
 (hnews:∀j u,(uS yZ Y)[j]? =some u→w.cell? (ad.add j)=some u) (hlen:X.length+Y.length≤4000000) (N:Nat) (hN:X.length+Y.length=N) (hB:B≤w.heap.size)
 (h:∀A' c' w',RsO B w' (.slice A' N c') (X++Y)→Mod v.ownBlock.toList w w'→(∀g,(Value.slice A' N c').ownBlock=some g→v.ownBlock=some g∨w.heap.size≤g)→wpList jG ops Q rest (a.put o.dst (.slice A' N c')) w'):wpList jG ops Q (o::rest) a w:=by
 subst hm;obtain⟨j0,hj,gz0,gz1,gz2⟩:=info_parts iB;refine kO hgd s x 58 ho B 97 j0 _ 2 32 Tryz.underlying58 hj gz0 gz1 gz2 rfl qZ v X.length (uS yZ X) hs hown ad Y.length c (uS yZ Y) hx (yP zJ Y) hnews (mC fP Y) qJv qJ hB ?_;intro v' w' ho' hg hv';rw[←uC]at ho';obtain⟨A',c',rfl⟩:=gU ho';rw[hN]at ho' hv' ⊢;exact h A' c' w' (by unfold RsO;rw[jI,hN];exact ho') (Mod.of_grown hg (fun g hg=>by rw[hg];simp)) hv'
theorem lW(hgd:o.guard=none)(s x:Operand)(ho:o.op=.call {callee:=.builtin .append,args:=#[s,x],argTypes:=#[56,56]})
 (B:Nat) (v:Value) (X:List Tl) (hs:a.eval s=v) (hown:w.ownsRow B 119 3 v X.length (uS dQ X)) (g c:Nat) (t:Tl) (hx:a.eval x=.slice (some ⟨g,0,none⟩) 1 c)
 (hnew:w.heap[g]? =some (.cells (dQ t).toArray 119 (0,0))) (hlen:X.length≤4000000) (hB:B≤w.heap.size)
 (h:∀A' c' w',w'.ownsRow B 119 3 (.slice A' (X.length+1) c') (X.length+1) (uS dQ (X++[t]))→Mod v.ownBlock.toList w w'→(∀g,(Value.slice A' (X.length+1) c').ownBlock=some g→v.ownBlock=some g∨w.heap.size≤g)→wpList jG ops Q rest (a.put o.dst (.slice A' (X.length+1) c')) w'):wpList jG ops Q (o::rest) a w:=by
 obtain⟨j0,hj,gz0,gz1,gz2⟩:=info_parts xR;refine kO hgd s x 56 ho B 119 j0 _ 3 24 Tryz.underlying56 hj gz0 gz1 gz2 rfl qZ v X.length (uS dQ X) hs hown ⟨g,0,none⟩ 1 c (dQ t) hx rfl (fun j u hj=>by rw[vZ,kB];exact(kC hnew j u hj).1) (KN _) qJv qJ hB ?_;intro v' w' ho' hg hv';rw[show uS dQ X++dQ t=uS dQ (X++[t]) by rw[uC];simp[uS]]at ho';obtain⟨A',c',rfl⟩:=gU ho';exact h A' c' w' ho' (Mod.of_grown hg (fun g hg=>by rw[hg];simp)) hv'
end
section
variable {base:Nat}{w:World}{q:Dv}{d:Dc}
theorem DcO.relist{w1:World}{vl':Value}{S':List Rh}{L':List Ro}(h:DcO base w q d)(ho:w1.ownsRow base 97 2 vl' S'.length (uS yZ S'))(hm:Below w.heap.size w w1)(hv:∀b,vl'.ownBlock=some b→w.heap.size≤b)(hs:S'.map yA=L')(hr:∀r∈S',pX w r∧r.cs.length=d.cols):
 gB base w q {d with L:=L'} (w1.setCell ⟨q.D,0,none⟩ vl'):=by
 have hDl:=(kF.1 h.blk).1;have hm2:Mod [q.D] w (w1.setCell ⟨q.D,0,none⟩ vl'):=(Mod.of_below hm).setCell (a:=⟨q.D,0,none⟩) (.inl qV) _;have hX:yD w [q.D]:=fun b hb cs f he=>h.nocel b (by rw[jR.1 hb];simp[dcX]) cs f he;have hblk:=kY (cs:=[q.vl,.int .i64 d.base,.int .i64 d.cols,.int .i64 d.room,.int .u64 (d.gone%18446744073709551616),q.vt]) ((hm.block q.D hDl).trans h.blk) 0 vl' (cs':=[vl',.int .i64 d.base,.int .i64 d.cols,.int .i64 d.room,.int .u64 (d.gone%18446744073709551616),q.vt]) rfl;refine⟨{q with vl:=vl',S:=S'},rfl,⟨hblk,h.hb,?_,uL h.told hm2 (fun b hb hx=>?_),hs,fun r hr'=>⟨(hr r hr').1.mod hm2 hX,(hr r hr').2⟩,h.cols2,h.cols1000,h.gone0⟩,hm2.mono (fun b hb=>by rw[jR.1 hb];simp[dcX]),fun b hb=>?_⟩
 · refine uL ho ((Mod.refl [q.D] w1).setCell (a:=⟨q.D,0,none⟩) (.inl qV) vl') (fun b hb hx=>?_);have :=hv b hb;have :=jR.1 hx;omega
 · obtain⟨cur,hc⟩:=uA h.told hb;rw[jR.1 hx]at hc;exact qZk
 · rcases kW.1 hb with rfl|hb
   · exact .inl qV9
   rcases kL.1 hb with hb|hb
   · exact .inr (hv b (jT.1 hb))
   · exact .inl (by simp[dcX,jT.1 hb])
theorem DcO.retold{w1:World}{vt':Value}{t':List Tl}(h:DcO base w q d)(ho:w1.ownsRow base 119 3 vt' t'.length (uS dQ t'))(hm:Mod q.vt.ownBlock.toList w w1)(hv:∀b,vt'.ownBlock=some b→q.vt.ownBlock=some b∨w.heap.size≤b):
 gB base w q {d with told:=t'} (w1.setCell ⟨q.D,5,none⟩ vt'):=by
 have hvt:∀b,q.vt.ownBlock=some b→∃cur:Array Value,w.heap[b]? =some (.cells cur 119 (0,0)):=fun b hb=>uA h.told hb;have hPv:q.D∉q.vt.ownBlock.toList:=fun hb=>by
  obtain⟨cur,hc⟩:=hvt _ (jT.1 hb);exact qZk
 have hPl:=(kF.1 h.blk).1;have hm2:Mod (q.D::q.vt.ownBlock.toList) w (w1.setCell ⟨q.D,5,none⟩ vt'):=(hm.mono (fun b hb=>by simp[jT.1 hb])).setCell (a:=⟨q.D,5,none⟩) (.inl qV) _;have hX:yD w (q.D::q.vt.ownBlock.toList):=fun b hb cs f he=>by
  refine h.nocel b ?_ cs f he;rcases kW.1 hb with rfl|hb
  · simp[dcX]
  · simp[dcX,jT.1 hb]
 have hblk:=kY (cs:=[q.vl,.int .i64 d.base,.int .i64 d.cols,.int .i64 d.room,.int .u64 (d.gone%18446744073709551616),q.vt]) ((hm.block q.D hPl hPv).trans h.blk) 5 vt' (cs':=[q.vl,.int .i64 d.base,.int .i64 d.cols,.int .i64 d.room,.int .u64 (d.gone%18446744073709551616),vt']) rfl;refine⟨{q with vt:=vt'},rfl,⟨hblk,h.hb,uL h.own hm2 (fun b hb hx=>?_),?_,h.rl,fun r hr=>⟨(h.rows r hr).1.mod hm2 hX,(h.rows r hr).2⟩,h.cols2,h.cols1000,h.gone0⟩,hm2.mono (fun b hb=>?_),fun b hb=>?_⟩
 · obtain⟨cur,hc⟩:=uA h.own hb;rcases kW.1 hx with rfl|hx
   · exact qZk
   · obtain⟨cur2,hc2⟩:=hvt _ (jT.1 hx);exact uP hc2 hc qZ rfl
 · refine uL ho ((Mod.refl [q.D] w1).setCell (a:=⟨q.D,5,none⟩) (.inl qV) vt') (fun b hb hx=>?_);have e:=jR.1 hx;rcases hv b hb with h1|h1
   · exact hPv qV7
   · omega
 · rcases kW.1 hb with rfl|hb
   · simp[dcX]
   · simp[dcX,jT.1 hb]
 · rcases kW.1 hb with rfl|hb
   · exact .inl qV9
   rcases kL.1 hb with hb|hb
   · exact .inl (by simp[dcX,jT.1 hb])
   · rcases hv b (jT.1 hb)with h1|h1
     · exact .inl (by simp[dcX,h1])
     · exact .inr h1
theorem DcO.renum(h:DcO base w q d)(i:Nat)(hi:i<6)(v:Value)(d':Dc)(hL:d'.L=d.L)(ht:d'.told=d.told)(hc:d'.cols=d.cols)(hg:0≤d'.gone)(hcs:([q.vl,.int .i64 d.base,.int .i64 d.cols,.int .i64 d.room,.int .u64 (d.gone%18446744073709551616),q.vt]:List Value).set i v=[q.vl,.int .i64 d'.base,.int .i64 d'.cols,.int .i64 d'.room,.int .u64 (d'.gone%18446744073709551616),q.vt]):
 gB base w q d' (w.setCell ⟨q.D,i,none⟩ v):=by
 have hm2:Mod [q.D] w (w.setCell ⟨q.D,i,none⟩ v):=(Mod.refl _ _).setCell (a:=⟨q.D,i,none⟩) (.inl qV) _;have hX:yD w [q.D]:=fun b hb cs f he=>h.nocel b (by rw[jR.1 hb];simp[dcX]) cs f he;have hblk:=kY (cs:=[q.vl,.int .i64 d.base,.int .i64 d.cols,.int .i64 d.room,.int .u64 (d.gone%18446744073709551616),q.vt]) h.blk i v hcs;refine⟨q,rfl,⟨hblk,h.hb,uL h.own hm2 (fun b hb hx=>?_),?_,by rw[hL];exact h.rl,fun r hr=>⟨(h.rows r hr).1.mod hm2 hX,by rw[hc];exact(h.rows r hr).2⟩,by rw[hc];exact h.cols2,by rw[hc];exact h.cols1000,hg⟩,hm2.mono (fun b hb=>by rw[jR.1 hb];simp[dcX]),fun b hb=>.inl hb⟩
 · obtain⟨cur,hc⟩:=uA h.own hb;rw[jR.1 hx]at hc;exact qZk
 · rw[ht];refine uL h.told hm2 (fun b hb hx=>?_);obtain⟨cur,hc⟩:=uA h.told hb;rw[jR.1 hx]at hc;exact qZk
end
section
variable {base:Nat}{w:World}{q:Dv}{d:Dc}
set_option maxHeartbeats 3200000 in
theorem JL(h:DcO base w q d)(hsm:q.vl≠ .slice none 0 0)(k:Nat)(hk:k≤d.L.length)(r:Rh)(hr:pX w r)(hrl:r.cs.length=d.cols)(hL:d.L.length≤1000000)(ht:d.told.length≤1000000)(hbw:base≤w.heap.size):
 Calls jG 258 #[.pointer (some ⟨q.D,0,none⟩),.int .i64 k,.agg #[.slice r.A r.cs.length r.cap,.bool r.cont]] w (pL base w q (pJ d k (yA r))):=by
 have hl:=h.len;obtain⟨gs,c,hv⟩:∃gs c,q.vl=.slice (some ⟨gs,0,none⟩) q.S.length c:=by
  rcases h.own.2 with⟨e,-⟩|⟨g',c',cur,e,_⟩
  · exact absurd e hsm
  · exact⟨g',c',e⟩
 clear hsm;obtain⟨⟨x0,x0f⟩,-,-,-,-,-⟩:=h.cells;have H:=Hd h;have HV:=Hd hv;have HR:=Hd hr;have HRL:=Hd hrl;have hown:=h.own;rw[hv]at x0 hown;have HOWN:=Hd hown;have HHL:=Hd hl;obtain⟨n,hn⟩:∃n,n=q.S.length:=⟨_,rfl⟩;rw[←hn]at x0;have hcap:n≤c:=by rw[hn];rcases hown.2 with⟨e,-⟩|⟨g',c',cur,e,_,_,hc,_⟩<;>simp at e<;>omega
 have hkn:k≤n:=by omega
 have hkI:(k:Int)≤(n:Int):=by omega
 have hkc:k≤c:=by omega
 obtain⟨W,hW⟩:∃W,w.alloc (.cells #[.slice r.A r.cs.length r.cap,.bool r.cont] 97)=W:=⟨_,rfl⟩;have hb:Below w.heap.size w W:=by rw[←hW];exact jW (jU _ _) _
 have HB:=Hd hb;have HN0:=Hd (show W.heap[w.heap.size]? =some (.cells #[.slice r.A r.cs.length r.cap,.bool r.cont] 97 (0,0))from by rw[←hW];exact kZ rfl);have X0:=Hd (jA hb x0);have X00:=Hd x0;have HX0:=Hd (kM x0 x0f);have HKN:=Hd (kM hkn hn);have HW:=Hd hW;clear h hv hr hrl hl hn hb hown hk x0 x0f hW
 go_enter Tryz.func258,Tryz.ntmps258
 go_upto_region 1 with fail
 rw[HW.o];clear HW;have x0:=X0.o
 go_upto_region 2 with fail
 refine wp_region_lit ?_;refine zG (.slice none 0 0) ?_;refine zG (.pointer (some ⟨q.D,0,none⟩)) ?_;refine zGs (.pointer (some ⟨q.D,0,none⟩)) ?_;refine zGs (.pointer (some ⟨q.D,0,none⟩)) ?_;refine zGs (.slice (some ⟨gs,0,none⟩) n c) ?_;refine zG (.int .i64 (k:Int)) ?_;refine zGs (.slice (some ⟨gs,0,none⟩) k c) ?_;refine dJ (o:=⟨some 14,_,_,_,_,_⟩) rfl (.tmp 7) (.tmp 13) rfl w.heap.size (.slice none 0 0) [] rfl (uE _ _ _ _) ⟨gs,0,none⟩ k c (q.S.take k) rfl qA (fun j u hj=>oV (uL HOWN.o (Mod.of_below (X:=[]) HB.o) (fun _ _ h=>by cases h)) 0 k 0 (fun _=>rfl) j u qF) qKh k qA HB.o.size ?_;rintro A1 c1 w1 ho1 hm1 -;rw[List.nil_append]at ho1;refine zP ?_;have HO1:=Hd ho1;have hb1:Below W.heap.size W w1:=hm1.below (fun g hg=>by cases hg) (jS _);have HB1:=Hd (jN HB.o hb1);have HN1:=Hd ((hb1.block _ (kQ HN0.o)).trans HN0.o);have HX1:=Hd (jA hb1 x0);have r0:=(at_ HN1.o 0 _ rfl).1;have r1:=(at_ HN1.o 1 _ rfl).1;clear ho1 hm1 hb1 x0
 go_upto_region 3 with fail
 refine wp_region_lit ?_;refine zG (.slice A1 k c1) ?_;refine zGs (.agg #[.slice r.A r.cs.length r.cap,.bool r.cont]) ?_;refine uM (.slice (some ⟨w1.heap.size,0,none⟩) 1 1) (w1.alloc (.cells #[.slice r.A r.cs.length r.cap,.bool r.cont] 97)) qK qY ?_;refine zP ?_;have hba:=jW (jU w1.heap.size w1) (.cells #[.slice r.A r.cs.length r.cap,.bool r.cont] 97);have HBA:=Hd (jN HB1.o hba);refine dJ (o:=⟨some 18,_,_,_,_,_⟩) rfl (.tmp 15) (.tmp 17) rfl w.heap.size (.slice A1 k c1) (q.S.take k) rfl (HO1.o.below hba) ⟨w1.heap.size,0,none⟩ 1 1 [r] rfl rfl (fun j u hj=>by rw[vZ,kB];exact(at_ (kZ rfl) j u (by simpa[uS,yZ]using hj)).1) qKh (k+1) qA HBA.o.size ?_;intro A2 c2 w2 ho2 hm2 hv2;refine zP ?_;have hb2:Below w.heap.size w w2:=HBA.o.trans (hm2.below (fun g hg=>(kK.lt (show kK _ _ _ _ _ _ _ from HO1.o) g (jT.1 hg)).1) HBA.o.size);have HB2:=Hd hb2;have HO2:=Hd ho2;have x0:=jA hb2 X00.o;obtain⟨off,hoff,hoff2⟩:∃off,(if c=k then(some ⟨gs,0,none⟩:Option Addr)else some ⟨gs,k*2,none⟩)=some ⟨gs,off,none⟩∧(k<c→off=k*2):=by
  by_cases h:c=k
  · exact⟨0,if_pos h,fun h2=>by omega⟩
  · exact⟨k*2,if_neg h,fun _=>rfl⟩
 have HOFF:=Hd hoff2;clear ho2 hm2 hv2 hb2 r0 r1 hba hoff2
 go_upto_region 4 with fail
 refine wp_region_lit ?_;refine zG (.pointer (some ⟨q.D,0,none⟩)) ?_;refine zG (.slice A2 (k+1) c2) ?_;refine zG (.pointer (some ⟨q.D,0,none⟩)) ?_;refine zGs (.pointer (some ⟨q.D,0,none⟩)) ?_;refine zGs (.pointer (some ⟨q.D,0,none⟩)) ?_;refine zGs (.slice (some ⟨gs,0,none⟩) n c) ?_;refine zG (.int .i64 (k:Int)) ?_;refine zGs (.slice (some ⟨gs,off,none⟩) (n-k) (c-k)) ?_;refine dJ (o:=⟨some 27,_,_,_,_,_⟩) rfl (.tmp 20) (.tmp 26) rfl w.heap.size (.slice A2 (k+1) c2) (q.S.take k++[r]) rfl HO2.o ⟨gs,off,none⟩ (n-k) (c-k) ((q.S.drop k).take (n-k)) rfl qA (fun j u hj=>oV (uL HOWN.o (Mod.of_below (X:=[]) HB2.o) (fun _ _ h=>by cases h)) k (n-k) off (fun h=>HOFF.o (by simp at h;omega)) j u hj) qKh (n+1) qA HB2.o.size ?_;intro A3 c3 w3 ho3 hm3 hv3;refine zP ?_;have hb3:Below w.heap.size w w3:=HB2.o.trans (hm3.below (fun g hg=>(kK.lt (show kK _ _ _ _ _ _ _ from HO2.o) g (jT.1 hg)).1) HB2.o.size);have HB3:=Hd hb3;have HO3:=Hd ho3;have HXD:=Hd (bQ hb3 HX0.o);obtain⟨x0,x0f⟩:=HXD.o;have hres:=H.o.relist (w1:=w3) (vl':=.slice A3 (n+1) c3) (S':=q.S.take k++[r]++(q.S.drop k).take (n-k)) (L':=d.L.take k++(yA r::d.L.drop k)) (by
  have e:(q.S.take k++[r]++(q.S.drop k).take (n-k)).length=n+1:=by simp;have :=HKN.o;omega
  have :=gJ (show kK _ _ _ _ _ _ _ from HO3.o) hbw;exact this) hb3 (fun b hb=>(kK.lt (show kK _ _ _ _ _ _ _ from HO3.o) b hb).1) (by
  rw[show(q.S.drop k).take (n-k)=q.S.drop k from vT qA,←H.o.rl,gK,gK,List.map_take,List.map_drop];simp) (fun x hx=>by
  rcases kL.1 hx with hx|hx
  · rcases kL.1 hx with hx|hx
    · exact H.o.rows x (List.mem_of_mem_take hx)
    · rw[jR.1 hx];exact⟨HR.o,HRL.o⟩
  · exact H.o.rows x (List.mem_of_mem_drop (List.mem_of_mem_take hx)))
 have HRES:=Hd hres;clear ho3 hm3 hv3 hb3 hoff hres
 go_upto_region 5 with fail
 generalize uQ _ _ _=W5 at HRES ⊢;obtain⟨q1,e1,h1,hm1,hx1⟩:=HRES.o;have HE1:=Hd e1;have HM1:=Hd (kM hm1 hx1);have H1:=Hd h1;obtain⟨A5,c5,hv5⟩:=gU h1.told;have y5:=h1.cells.2.2.2.2.2;rw[hv5,e1]at y5;have Y5:=Hd y5;have HV5:=Hd hv5;obtain⟨y5,-⟩:=y5;obtain⟨tl,htl⟩:∃tl,tl=d.told.length:=⟨_,rfl⟩;have HTL:=Hd htl;rw[←htl]at y5;clear x0 x0f HXD h1 hm1 hx1 e1 hv5 htl HRES;refine wp_region_lit ?_;refine zG (.pointer (some ⟨q.D,0,none⟩)) ?_;refine zG (.pointer (some ⟨q.D,0,none⟩)) ?_;refine zGs (.pointer (some ⟨q.D,0,none⟩)) ?_;refine zGs (.pointer (some ⟨q.D,5,none⟩)) ?_;refine zGs (.slice A5 tl c5) ?_;refine zG (.int .i64 (k:Int)) ?_;refine zGs (.agg #[.int .i64 0,.int .i64 (k:Int),.int .i64 1]) ?_;refine uM (.slice (some ⟨W5.heap.size,0,none⟩) 1 1) (W5.alloc (.cells #[.int .i64 0,.int .i64 (k:Int),.int .i64 1] 119)) qK qY ?_;refine zP ?_;have hba:=jW (jU W5.heap.size W5) (.cells #[.int .i64 0,.int .i64 (k:Int),.int .i64 1] 119);have hbz:base≤(W5.alloc (.cells #[.int .i64 0,.int .i64 (k:Int),.int .i64 1] 119)).heap.size:=by have :=HM1.o.1.size;simp;omega
 have HBA:=Hd hba;refine lW (o:=⟨some 38,_,_,_,_,_⟩) rfl (.tmp 34) (.tmp 37) rfl base (.slice A5 tl c5) d.told rfl jJ W5.heap.size 1 ⟨0,k,1⟩ rfl (kZ rfl) qJ hbz ?_;intro A6 c6 w6 ho6 hm6 hv6;rw[←HTL.o]at ho6 hv6 ⊢;refine zP ?_;have hm7:Mod q1.vt.ownBlock.toList W5 w6:=(Mod.of_below HBA.o).trans qKz (fun b hb=>.inl hb);have HM7:=Hd hm7;have hDne:q.D∉q1.vt.ownBlock.toList:=fun hb=>by
  obtain⟨cur,hc⟩:=uA H1.o.told (jT.1 hb);rw[←HE1.o]at hc;exact uP H1.o.blk hc qZ rfl
 obtain⟨z5,z5f⟩:=hm7.hold hDne Y5.o;have HFIN:=Hd (H1.o.retold (t':=d.told++[⟨0,k,1⟩]) (vt':=.slice A6 (tl+1) c6) qK8 hm7 (fun b hb=>by
  rcases hv6 b hb with h|h
  · exact .inl qK5
  · exact .inr qVh))
 rw[HE1.o]at HFIN;clear y5 hba hbz ho6 hm6 hv6 hm7 hDne
 go_wp2
 go_end0
 exact qZt
set_option maxHeartbeats 3200000 in
theorem Ke(h:DcO base w q d)(hv:q.vl=.slice none 0 0)(r:Rh)(hr:pX w r)(hrl:r.cs.length=d.cols)(ht:d.told.length≤1000000)(hbw:base≤w.heap.size):
 Calls jG 258 #[.pointer (some ⟨q.D,0,none⟩),.int .i64 (0:Nat),.agg #[.slice r.A r.cs.length r.cap,.bool r.cont]] w (pL base w q (pJ d 0 (yA r))):=by
 have hSn:q.S=[]:=by
  rcases h.own.2 with⟨-,e⟩|⟨g',c',cur,e,_⟩
  · exact List.length_eq_zero_iff.1 qJ
  · rw[hv]at e;cases e
 have hLn:d.L=[]:=by rw[←h.rl,hSn];rfl
 obtain⟨⟨x0,x0f⟩,-,-,-,-,-⟩:=h.cells;have H:=Hd h;have HLN:=Hd hLn;have HR:=Hd hr;have HRL:=Hd hrl;rw[hv]at x0;obtain⟨W,hW⟩:∃W,w.alloc (.cells #[.slice r.A r.cs.length r.cap,.bool r.cont] 97)=W:=⟨_,rfl⟩;have hb:Below w.heap.size w W:=by rw[←hW];exact jW (jU _ _) _
 have HB:=Hd hb;have HN0:=Hd (show W.heap[w.heap.size]? =some (.cells #[.slice r.A r.cs.length r.cap,.bool r.cont] 97 (0,0))from by rw[←hW];exact kZ rfl);have X0:=Hd (jA hb x0);have HX0:=Hd (kM x0 x0f);have HW:=Hd hW;clear h hv hr hrl hb x0 x0f hW hSn hLn
 go_enter Tryz.func258,Tryz.ntmps258
 go_upto_region 1 with fail
 rw[HW.o];clear HW;have x0:=X0.o;have r0:=(at_ HN0.o 0 _ rfl).1;have r1:=(at_ HN0.o 1 _ rfl).1
 go_upto_region 3 with fail
 refine wp_region_lit ?_;refine zG (.slice none 0 0) ?_;refine zGs (.agg #[.slice r.A r.cs.length r.cap,.bool r.cont]) ?_;refine uM (.slice (some ⟨W.heap.size,0,none⟩) 1 1) (W.alloc (.cells #[.slice r.A r.cs.length r.cap,.bool r.cont] 97)) qK qY ?_;refine zP ?_;have hba:=jW (jU W.heap.size W) (.cells #[.slice r.A r.cs.length r.cap,.bool r.cont] 97);have HBA:=Hd (jN HB.o hba);refine dJ (o:=⟨some 18,_,_,_,_,_⟩) rfl (.tmp 15) (.tmp 17) rfl w.heap.size (.slice none 0 0) [] rfl (uE _ _ _ _) ⟨W.heap.size,0,none⟩ 1 1 [r] rfl rfl (fun j u hj=>by rw[vZ,kB];exact(at_ (kZ rfl) j u (by simpa[uS,yZ]using hj)).1) qV 1 qV HBA.o.size ?_;rw[List.nil_append];intro A3 c3 w3 ho3 hm3 hv3;refine zP ?_;have hb3:Below w.heap.size w w3:=HBA.o.trans (hm3.below (fun g hg=>by cases hg) HBA.o.size);have HB3:=Hd hb3;have HO3:=Hd ho3;have HXD:=Hd (bQ hb3 HX0.o);have hc13:1≤c3:=by
  rcases(show kK _ _ _ _ _ _ _ from ho3).2 with⟨e,-⟩|⟨g',c',cur,e,_,_,hc,_⟩
  · simp at e
  · simp at e hc;omega
 obtain⟨g3,c3',hg3⟩:=gE (show kK _ _ _ _ _ _ _ from ho3) qV;simp only[Value.slice.injEq]at hg3;obtain⟨rfl,-,rfl⟩:=hg3;clear x0;obtain⟨x0,x0f⟩:=HXD.o;have hres:=H.o.relist (w1:=w3) (vl':=.slice (some ⟨g3,0,none⟩) 1 c3) (S':=[r]) (L':=d.L.take 0++(yA r::d.L.drop 0)) (by
  have :=gJ (show kK _ _ _ _ _ _ _ from HO3.o) hbw;exact this) hb3 (fun b hb=>(kK.lt (show kK _ _ _ _ _ _ _ from HO3.o) b hb).1) (by rw[HLN.o];rfl) (fun x hx=>by rw[jR.1 hx];exact⟨HR.o,HRL.o⟩)
 have HRES:=Hd hres;clear ho3 hm3 hv3 hb3 hres hba r0 r1
 go_upto_region 5 with fail
 generalize uQ _ _ _=W5 at HRES ⊢;obtain⟨q1,e1,h1,hm1,hx1⟩:=HRES.o;have HE1:=Hd e1;have HM1:=Hd (kM hm1 hx1);have H1:=Hd h1;obtain⟨A5,c5,hv5⟩:=gU h1.told;have y5:=h1.cells.2.2.2.2.2;rw[hv5,e1]at y5;have Y5:=Hd y5;have HV5:=Hd hv5;obtain⟨y5,-⟩:=y5;obtain⟨tl,htl⟩:∃tl,tl=d.told.length:=⟨_,rfl⟩;have HTL:=Hd htl;rw[←htl]at y5;clear x0 x0f HXD h1 hm1 hx1 e1 hv5 htl HRES;refine wp_region_lit ?_;refine zG (.pointer (some ⟨q.D,0,none⟩)) ?_;refine zG (.pointer (some ⟨q.D,0,none⟩)) ?_;refine zGs (.pointer (some ⟨q.D,0,none⟩)) ?_;refine zGs (.pointer (some ⟨q.D,5,none⟩)) ?_;refine zGs (.slice A5 tl c5) ?_;refine zG (.int .i64 (0:Int)) ?_;refine zGs (.agg #[.int .i64 0,.int .i64 (0:Int),.int .i64 1]) ?_;refine uM (.slice (some ⟨W5.heap.size,0,none⟩) 1 1) (W5.alloc (.cells #[.int .i64 0,.int .i64 (0:Int),.int .i64 1] 119)) qK qY ?_;refine zP ?_;have hba:=jW (jU W5.heap.size W5) (.cells #[.int .i64 0,.int .i64 (0:Int),.int .i64 1] 119);have hbz:base≤(W5.alloc (.cells #[.int .i64 0,.int .i64 (0:Int),.int .i64 1] 119)).heap.size:=by have :=HM1.o.1.size;simp;omega
 have HBA:=Hd hba;refine lW (o:=⟨some 38,_,_,_,_,_⟩) rfl (.tmp 34) (.tmp 37) rfl base (.slice A5 tl c5) d.told rfl jJ W5.heap.size 1 ⟨0,(0:Nat),1⟩ rfl (kZ rfl) qJ hbz ?_;intro A6 c6 w6 ho6 hm6 hv6;rw[←HTL.o]at ho6 hv6 ⊢;refine zP ?_;have hm7:Mod q1.vt.ownBlock.toList W5 w6:=(Mod.of_below HBA.o).trans qKz (fun b hb=>.inl hb);have HM7:=Hd hm7;have hDne:q.D∉q1.vt.ownBlock.toList:=fun hb=>by
  obtain⟨cur,hc⟩:=uA H1.o.told (jT.1 hb);rw[←HE1.o]at hc;exact uP H1.o.blk hc qZ rfl
 obtain⟨z5,z5f⟩:=hm7.hold hDne Y5.o;have HFIN:=Hd (H1.o.retold (t':=d.told++[⟨0,(0:Nat),1⟩]) (vt':=.slice A6 (tl+1) c6) qK8 hm7 (fun b hb=>by
  rcases hv6 b hb with h|h
  · exact .inl qK5
  · exact .inr qVh))
 rw[HE1.o]at HFIN;clear y5 hba hbz ho6 hm6 hv6 hm7 hDne
 go_wp2
 go_end0
 exact qZt
theorem Kf(h:DcO base w q d)(k:Nat)(hk:k≤d.L.length)(r:Rh)(hr:pX w r)(hrl:r.cs.length=d.cols)(hL:d.L.length≤1000000)(ht:d.told.length≤1000000)(hbw:base≤w.heap.size):
 Calls jG 258 #[.pointer (some ⟨q.D,0,none⟩),.int .i64 k,.agg #[.slice r.A r.cs.length r.cap,.bool r.cont]] w (pL base w q (pJ d k (yA r))):=by
 by_cases hv:q.vl=.slice none 0 0
 · have hSn:q.S=[]:=by
    rcases h.own.2 with⟨-,e⟩|⟨g',c',cur,e,_⟩
    · exact List.length_eq_zero_iff.1 qJ
    · rw[hv]at e;cases e
   have hLn:d.L=[]:=by rw[←h.rl,hSn];rfl
   obtain rfl:k=0:=by rw[hLn]at hk;simpa using hk
   exact Ke h hv r hr hrl ht hbw
 · exact JL h hv k hk r hr hrl hL ht hbw
end
section
variable {base:Nat}{w:World}{q:Dv}{d:Dc}
set_option maxHeartbeats 3200000 in
theorem Kd(h:DcO base w q d)(k:Nat)(hk:k<d.L.length)(hL:d.L.length≤1000000)(ht:d.told.length≤1000000)(hbw:base≤w.heap.size):
 Calls jG 259 #[.pointer (some ⟨q.D,0,none⟩),.int .i64 k] w (pL base w q (pZ d k)):=by
 have hl:=h.len;obtain⟨gs,c,hv⟩:=gE h.own qJ;obtain⟨⟨x0,x0f⟩,-,-,-,-,-⟩:=h.cells;have H:=Hd h;have HV:=Hd hv;have hown:=h.own;rw[hv]at x0 hown;have HOWN:=Hd hown;have HHL:=Hd hl;obtain⟨n,hn⟩:∃n,n=q.S.length:=⟨_,rfl⟩;rw[←hn]at x0;have hcap:n≤c:=by rw[hn];rcases hown.2 with⟨e,-⟩|⟨g',c',cur,e,_,_,hc,_⟩<;>simp at e<;>omega
 have hkn:k<n:=by omega
 have hkI:(k:Int)≤(n:Int):=by omega
 have hkc:k≤c:=by omega
 obtain⟨k1,hk1⟩:∃k1:Nat,k1=k+1:=⟨_,rfl⟩;have hk1I:(k:Int)+1=(k1:Int):=by omega
 have hwk1:jP.wrap (k1:Int)=(k1:Int):=jH _ qJ;have hk1n:k1≤n:=by omega
 have hk1nI:(k1:Int)≤(n:Int):=by omega
 have hk1c:k1≤c:=by omega
 have HK1:=Hd hk1;have X00:=Hd x0;have HX0:=Hd (kM x0 x0f);have HKN:=Hd (kM hkn hn);clear h hv hl hn hown hk x0f hk1
 go_enter Tryz.func259,Tryz.ntmps259
 go_upto_region 1 with fail
 refine wp_region_lit ?_;refine zG (.slice none 0 0) ?_;refine zG (.pointer (some ⟨q.D,0,none⟩)) ?_;refine zGs (.pointer (some ⟨q.D,0,none⟩)) ?_;refine zGs (.pointer (some ⟨q.D,0,none⟩)) ?_;refine zGs (.slice (some ⟨gs,0,none⟩) n c) ?_;refine zG (.int .i64 (k:Int)) ?_;refine zGs (.slice (some ⟨gs,0,none⟩) k c) ?_;refine dJ (o:=⟨some 12,_,_,_,_,_⟩) rfl (.tmp 5) (.tmp 11) rfl w.heap.size (.slice none 0 0) [] rfl (uE _ _ _ _) ⟨gs,0,none⟩ k c (q.S.take k) rfl qA (fun j u hj=>oV HOWN.o 0 k 0 (fun _=>rfl) j u qF) qKh k qA (jS _) ?_;rintro A1 c1 w1 ho1 hm1 -;rw[List.nil_append]at ho1;refine zP ?_;have HO1:=Hd ho1;have hb1:Below w.heap.size w w1:=hm1.below (fun g hg=>by cases hg) (jS _);have HB1:=Hd hb1;have x1:=jA hb1 x0;clear ho1 hm1 hb1 x0;obtain⟨off,hoff,hoff2⟩:∃off,(if c=k1 then(some ⟨gs,0,none⟩:Option Addr)else some ⟨gs,k1*2,none⟩)=some ⟨gs,off,none⟩∧(k1<c→off=k1*2):=by
  by_cases h:c=k1
  · exact⟨0,if_pos h,fun h2=>by omega⟩
  · exact⟨k1*2,if_neg h,fun _=>rfl⟩
 have HOFF:=Hd hoff2;clear hoff2
 go_upto_region 2 with fail
 refine wp_region_lit ?_;refine zG (.pointer (some ⟨q.D,0,none⟩)) ?_;refine zG (.slice A1 k c1) ?_;refine zG (.pointer (some ⟨q.D,0,none⟩)) ?_;refine zGs (.pointer (some ⟨q.D,0,none⟩)) ?_;refine zGs (.pointer (some ⟨q.D,0,none⟩)) ?_;refine zGs (.slice (some ⟨gs,0,none⟩) n c) ?_;refine zG (.int .i64 (k:Int)) ?_;refine zGs (.int .i64 (k1:Int)) ?_;refine zGs (.slice (some ⟨gs,off,none⟩) (n-k1) (c-k1)) ?_;refine dJ (o:=⟨some 22,_,_,_,_,_⟩) rfl (.tmp 14) (.tmp 21) rfl w.heap.size (.slice A1 k c1) (q.S.take k) rfl HO1.o ⟨gs,off,none⟩ (n-k1) (c-k1) ((q.S.drop k1).take (n-k1)) rfl qA (fun j u hj=>oV (uL HOWN.o (Mod.of_below (X:=[]) HB1.o) (fun _ _ h=>by cases h)) k1 (n-k1) off (fun h=>HOFF.o (by simp at h;omega)) j u hj) qKh (n-1) (by simp;have :=HKN.o;have :=HK1.o;omega) HB1.o.size ?_;intro A3 c3 w3 ho3 hm3 hv3;refine zP ?_;have hb3:Below w.heap.size w w3:=HB1.o.trans (hm3.below (fun g hg=>(kK.lt (show kK _ _ _ _ _ _ _ from HO1.o) g (jT.1 hg)).1) HB1.o.size);have HB3:=Hd hb3;have HO3:=Hd ho3;have HXD:=Hd (bQ hb3 HX0.o);obtain⟨x0,x0f⟩:=HXD.o;have hres:=H.o.relist (w1:=w3) (vl':=.slice A3 (n-1) c3) (S':=q.S.take k++(q.S.drop k1).take (n-k1)) (L':=d.L.take k++d.L.drop (k+1)) (by
  have :=gJ (show kK _ _ _ _ _ _ _ from HO3.o) hbw;exact this) hb3 (fun b hb=>(kK.lt (show kK _ _ _ _ _ _ _ from HO3.o) b hb).1) (by
  rw[show(q.S.drop k1).take (n-k1)=q.S.drop k1 from vT qA,←H.o.rl,gK,List.map_take,List.map_drop,HK1.o]) (fun x hx=>by
  rcases kL.1 hx with hx|hx
  · exact H.o.rows x (List.mem_of_mem_take hx)
  · exact H.o.rows x (List.mem_of_mem_drop (List.mem_of_mem_take hx)))
 have HRES:=Hd hres;clear ho3 hm3 hv3 hb3 hoff hres x1
 go_upto_region 3 with fail
 clear x0 x0f HXD;generalize uQ _ _ _=W5 at HRES ⊢;obtain⟨q1,e1,h1,hm1,hx1⟩:=HRES.o;have HE1:=Hd e1;have HM1:=Hd (kM hm1 hx1);have H1:=Hd h1;obtain⟨A5,c5,hv5⟩:=gU h1.told;have y5:=h1.cells.2.2.2.2.2;rw[hv5,e1]at y5;have Y5:=Hd y5;have HV5:=Hd hv5;obtain⟨y5,-⟩:=y5;obtain⟨tl,htl⟩:∃tl,tl=d.told.length:=⟨_,rfl⟩;have HTL:=Hd htl;rw[←htl]at y5;clear h1 hm1 hx1 e1 hv5 htl HRES;refine wp_region_lit ?_;refine zG (.pointer (some ⟨q.D,0,none⟩)) ?_;refine zG (.pointer (some ⟨q.D,0,none⟩)) ?_;refine zGs (.pointer (some ⟨q.D,0,none⟩)) ?_;refine zGs (.pointer (some ⟨q.D,5,none⟩)) ?_;refine zGs (.slice A5 tl c5) ?_;refine zG (.int .i64 (k:Int)) ?_;refine zGs (.agg #[.int .i64 1,.int .i64 (k:Int),.int .i64 1]) ?_;refine uM (.slice (some ⟨W5.heap.size,0,none⟩) 1 1) (W5.alloc (.cells #[.int .i64 1,.int .i64 (k:Int),.int .i64 1] 119)) qK qY ?_;refine zP ?_;have hba:=jW (jU W5.heap.size W5) (.cells #[.int .i64 1,.int .i64 (k:Int),.int .i64 1] 119);have hbz:base≤(W5.alloc (.cells #[.int .i64 1,.int .i64 (k:Int),.int .i64 1] 119)).heap.size:=by have :=HM1.o.1.size;simp;omega
 have HBA:=Hd hba;refine lW (o:=⟨some 33,_,_,_,_,_⟩) rfl (.tmp 29) (.tmp 32) rfl base (.slice A5 tl c5) d.told rfl jJ W5.heap.size 1 ⟨1,k,1⟩ rfl (kZ rfl) qJ hbz ?_;intro A6 c6 w6 ho6 hm6 hv6;rw[←HTL.o]at ho6 hv6 ⊢;refine zP ?_;have hm7:Mod q1.vt.ownBlock.toList W5 w6:=(Mod.of_below HBA.o).trans qKz (fun b hb=>.inl hb);have HM7:=Hd hm7;have hDne:q.D∉q1.vt.ownBlock.toList:=fun hb=>by
  obtain⟨cur,hc⟩:=uA H1.o.told (jT.1 hb);rw[←HE1.o]at hc;exact uP H1.o.blk hc qZ rfl
 obtain⟨z5,z5f⟩:=hm7.hold hDne Y5.o;have HFIN:=Hd (H1.o.retold (t':=d.told++[⟨1,k,1⟩]) (vt':=.slice A6 (tl+1) c6) qK8 hm7 (fun b hb=>by
  rcases hv6 b hb with h|h
  · exact .inl qK5
  · exact .inr qVh))
 rw[HE1.o]at HFIN;clear y5 hba hbz ho6 hm6 hv6 hm7 hDne
 go_wp2
 go_end0
 exact qZt
set_option maxHeartbeats 3200000 in
theorem Ve(h:DcO base w q d)(k:Nat)(hk:k≤d.base)(hbL:d.base<d.L.length)(hL:d.L.length≤1000000)(ht:d.told.length≤1000000)(hbw:base≤w.heap.size):
 Calls jG 205 #[.pointer (some ⟨q.D,0,none⟩),.int .i64 k] w (pL base w q (dC d k)):=by
 have hl:=h.len;obtain⟨gs,c,hv⟩:=gE h.own qJ;obtain⟨⟨x0,x0f⟩,-,-,-,-,-⟩:=h.cells;have H:=Hd h;have HV:=Hd hv;have hown:=h.own;rw[hv]at x0 hown;have HOWN:=Hd hown;have HHL:=Hd hl;obtain⟨n,hn⟩:∃n,n=q.S.length:=⟨_,rfl⟩;rw[←hn]at x0;have hcap:n≤c:=by rw[hn];rcases hown.2 with⟨e,-⟩|⟨g',c',cur,e,_,_,hc,_⟩<;>simp at e<;>omega
 have hkn:k<n:=by omega
 have hkI:(k:Int)≤(n:Int):=by omega
 have hkN:k≤n:=by omega
 have hkc:k≤c:=by omega
 have HX0:=Hd (kM x0 x0f);have HKN:=Hd (kM hkn hn);have HBK:=Hd (kM hk hbL);obtain⟨off,hoff,hoff2⟩:∃off,(if c=k then(some ⟨gs,0,none⟩:Option Addr)else some ⟨gs,k*2,none⟩)=some ⟨gs,off,none⟩∧(k<c→off=k*2):=by
  by_cases h:c=k
  · exact⟨0,if_pos h,fun h2=>by omega⟩
  · exact⟨k*2,if_neg h,fun _=>rfl⟩
 have HOFF:=Hd hoff2;clear h hv hl hn hown hk x0f hoff2 hbL
 go_enter Tryz.func205,Tryz.ntmps205
 go_upto_region 0 with fail
 refine wp_region_lit ?_;refine zG (.pointer (some ⟨q.D,0,none⟩)) ?_;have hba0:=jW (jU w.heap.size w) (.cells #[] 97);refine uM (.slice (some ⟨w.heap.size,0,none⟩) 0 0) (w.alloc (.cells #[] 97)) qK qY ?_;refine zP ?_;have x0:=jA hba0 x0;have HBA0:=Hd hba0;have HE0:Hid (RsO w.heap.size (w.alloc (.cells #[] 97)) (.slice (some ⟨w.heap.size,0,none⟩) 0 0) []):=Hd ⟨rfl,.inr ⟨w.heap.size,0,#[],rfl,jS _,kZ rfl,jS _,kT _,rfl,rfl⟩⟩;refine zG (.pointer (some ⟨q.D,0,none⟩)) ?_;refine zGs (.pointer (some ⟨q.D,0,none⟩)) ?_;refine zGs (.pointer (some ⟨q.D,0,none⟩)) ?_;refine zGs (.slice (some ⟨gs,0,none⟩) n c) ?_;refine zG (.int .i64 (k:Int)) ?_;refine zGs (.slice (some ⟨gs,off,none⟩) (n-k) (c-k)) ?_;refine dJ (o:=⟨some 12,_,_,_,_,_⟩) rfl (.tmp 5) (.tmp 11) rfl w.heap.size (.slice (some ⟨w.heap.size,0,none⟩) 0 0) [] rfl HE0.o ⟨gs,off,none⟩ (n-k) (c-k) ((q.S.drop k).take (n-k)) rfl qA (fun j u hj=>oV (uL HOWN.o (Mod.of_below (X:=[]) HBA0.o) (fun _ _ h=>by cases h)) k (n-k) off (fun h=>HOFF.o (by simp at h;omega)) j u hj) qKh (n-k) qA HBA0.o.size ?_;rw[List.nil_append];intro A3 c3 w3 ho3 hm3 hv3;refine zP ?_
 have hb3:Below w.heap.size w w3:=HBA0.o.trans (hm3.below (fun g hg=>(kK.lt (show kK _ _ _ _ _ _ _ from HE0.o) g (jT.1 hg)).1) HBA0.o.size);have HB3:=Hd hb3;have HO3:=Hd ho3;have HXD:=Hd (bQ hb3 HX0.o);obtain⟨x0,x0f⟩:=HXD.o;have hres:=H.o.relist (w1:=w3) (vl':=.slice A3 (n-k) c3) (S':=(q.S.drop k).take (n-k)) (L':=d.L.drop k) (by
  have e:((q.S.drop k).take (n-k)).length=n-k:=by simp;have :=HKN.o;omega
  have :=gJ (show kK _ _ _ _ _ _ _ from HO3.o) hbw;exact this) hb3 (fun b hb=>(kK.lt (show kK _ _ _ _ _ _ _ from HO3.o) b hb).1) (by
  rw[show(q.S.drop k).take (n-k)=q.S.drop k from vT qA,←H.o.rl,List.map_drop]) (fun x hx=>H.o.rows x (List.mem_of_mem_drop (List.mem_of_mem_take hx)))
 have HRES:=Hd hres;clear ho3 hm3 hv3 hb3 hoff hres hba0
 go_upto_region 1 with fail
 clear x0 x0f HXD;generalize uQ _ _ _=W3 at HRES ⊢;obtain⟨q1,e1,h1,hm1,hx1⟩:=HRES.o;have HR3:Hid (gB base w q {d with L:=d.L.drop k,base:=d.base-k} (W3.setCell ⟨q1.D,1,none⟩ (.int .i64 (d.base-k:Nat)))):=Hd (gB.trans ⟨e1,hm1,hx1⟩ (h1.renum 1 qZ (.int .i64 (d.base-k:Nat)) {d with L:=d.L.drop k,base:=d.base-k} rfl rfl rfl h1.gone0 rfl));obtain⟨y1,y1f⟩:=h1.cells.2.1;rw[e1]at y1 y1f HR3;clear h1 hm1 hx1 e1 HRES;obtain⟨b',hb'⟩:∃b':Nat,b'=d.base-k:=⟨_,rfl⟩;have hbI:(d.base:Int)-(k:Int)=(b':Int):=by have :=HBK.o;omega
 have hwb:jP.wrap (b':Int)=(b':Int):=jH _ (by have :=HBK.o;omega);rw[←hb']at HR3;have HBB:=Hd hb';clear hb'
 go_upto_region 2 with fail
 clear y1 y1f;generalize uQ _ _ _=W4 at HR3 ⊢;obtain⟨q1,e1,h1,hm1,hx1⟩:=HR3.o;have HR4:Hid (gB base w q {d with L:=d.L.drop k,base:=b',gone:=d.gone+k} (W4.setCell ⟨q1.D,4,none⟩ (.int .u64 ((d.gone+k)%18446744073709551616)))):=Hd (gB.trans ⟨e1,hm1,hx1⟩ (h1.renum 4 qZ (.int .u64 ((d.gone+k)%18446744073709551616)) {d with L:=d.L.drop k,base:=b',gone:=d.gone+k} rfl rfl rfl (by have :=h1.gone0;show 0≤d.gone+k;have :0≤d.gone:=this;omega) rfl));obtain⟨y1,y1f⟩:=h1.cells.2.2.2.2.1;rw[e1]at y1 y1f HR4;clear h1 hm1 hx1 e1 HR3 hbI hwb;obtain⟨G,hG⟩:∃G,G=d.gone%18446744073709551616:=⟨_,rfl⟩;obtain⟨G2,hG2⟩:∃G2,G2=(d.gone+k)%18446744073709551616:=⟨_,rfl⟩;have hwk:IntKind.u64.wrap (k:Int)=(k:Int):=by rw[IntKind.wrap_u64];have :=HBK.o;omega
 have hwG:IntKind.u64.wrap (G+k)=G2:=by rw[IntKind.wrap_u64,hG,hG2];omega
 rw[←hG2]at HR4;simp only[]at y1;rw[←hG]at y1;have HRES:Hid (gB base w q {d with L:=d.L.drop k,base:=b',gone:=d.gone+k} (W4.setCell ⟨q.D,4,none⟩ (.int .u64 G2))):=HR4;clear hG hG2 HR4
 go_upto_region 3 with fail
 clear y1 y1f hwk hwG;generalize uQ _ _ _=W5 at HRES ⊢;obtain⟨q1,e1,h1,hm1,hx1⟩:=HRES.o;have HE1:=Hd e1;have HM1:=Hd (kM hm1 hx1);have H1:=Hd h1;obtain⟨A5,c5,hv5⟩:=gU h1.told;have y5:=h1.cells.2.2.2.2.2;rw[hv5,e1]at y5;have Y5:=Hd y5;have HV5:=Hd hv5;obtain⟨y5,-⟩:=y5;obtain⟨tl,htl⟩:∃tl,tl=d.told.length:=⟨_,rfl⟩;have HTL:=Hd htl;rw[←htl]at y5;clear h1 hm1 hx1 e1 hv5 htl HRES;refine wp_region_lit ?_;refine zG (.pointer (some ⟨q.D,0,none⟩)) ?_;refine zG (.pointer (some ⟨q.D,0,none⟩)) ?_;refine zGs (.pointer (some ⟨q.D,0,none⟩)) ?_;refine zGs (.pointer (some ⟨q.D,5,none⟩)) ?_;refine zGs (.slice A5 tl c5) ?_;refine zG (.int .i64 (k:Int)) ?_;refine zGs (.agg #[.int .i64 2,.int .i64 0,.int .i64 (k:Int)]) ?_;refine uM (.slice (some ⟨W5.heap.size,0,none⟩) 1 1) (W5.alloc (.cells #[.int .i64 2,.int .i64 0,.int .i64 (k:Int)] 119)) qK qY ?_;refine zP ?_;have hba:=jW (jU W5.heap.size W5) (.cells #[.int .i64 2,.int .i64 0,.int .i64 (k:Int)] 119);have hbz:base≤(W5.alloc (.cells #[.int .i64 2,.int .i64 0,.int .i64 (k:Int)] 119)).heap.size:=by have :=HM1.o.1.size;simp;omega
 have HBA:=Hd hba;refine lW (o:=⟨some 42,_,_,_,_,_⟩) rfl (.tmp 38) (.tmp 41) rfl base (.slice A5 tl c5) d.told rfl jJ W5.heap.size 1 ⟨2,0,k⟩ rfl (kZ rfl) qJ hbz ?_;intro A6 c6 w6 ho6 hm6 hv6;rw[←HTL.o]at ho6 hv6 ⊢;refine zP ?_;have hm7:Mod q1.vt.ownBlock.toList W5 w6:=(Mod.of_below HBA.o).trans qKz (fun b hb=>.inl hb);have HM7:=Hd hm7;have hDne:q.D∉q1.vt.ownBlock.toList:=fun hb=>by
  obtain⟨cur,hc⟩:=uA H1.o.told (jT.1 hb);rw[←HE1.o]at hc;exact uP H1.o.blk hc qZ rfl
 obtain⟨z5,z5f⟩:=hm7.hold hDne Y5.o;have HFIN:=Hd (H1.o.retold (t':=d.told++[⟨2,0,k⟩]) (vt':=.slice A6 (tl+1) c6) qK8 hm7 (fun b hb=>by
  rcases hv6 b hb with h|h
  · exact .inl qK5
  · exact .inr qVh))
 rw[HE1.o]at HFIN;clear y5 hba hbz ho6 hm6 hv6 hm7 hDne
 go_wp2
 go_end0
 have :=gB.trans ⟨HE1.o,HM1.o.1,HM1.o.2⟩ HFIN.o;rw[HBB.o]at this;exact⟨rfl,this⟩
end
section
variable {P:Program}
theorem wY{fn:Func}{p u u2:Tmp}{ty:TypeId}(h:fn.results=#[.cell p ty,.tmp u,.tmp u2])(tmps:Array Value)(w:World):
 (results fn tmps).run P w=((asAddr (tmps.getD p undef)).run P w).andThen fun a w1=>((loadVar ty a).run P w1).andThen fun v w2=>.ok (.tuple #[v,tmps.getD u undef,tmps.getD u2 undef]) w2:=by
 simp only[results,h];simp[Sem.run_bind,Result.andThen]
theorem vC{fn:Func}{u u2 p:Tmp}{ty:TypeId}{d:TypeDesc}(hr:fn.results=#[.cell p ty,.tmp u,.tmp u2])(tmps:Array Value)(w:World)(b:Nat)(cs:List Value)(hp:tmps.getD p undef=.pointer (some ⟨b,0,none⟩))(h:w.rangeAt b 0 cs)
 (hu:P.underlying ty=some d) (hd:d.isRow=true) (hi:(P.info? ty).map (·.size)=some cs.length):(results fn tmps).run P w=.ok (.tuple #[.agg cs.toArray,tmps.getD u undef,tmps.getD u2 undef]) w:=by
 rw[wY hr,hp];have :=run_loadVar_mid (P:=P) w b 0 ty cs _ h hu hd hi;simp only[asAddr,Sem.run_pure,Result.andThen_ok,this]
end
theorem zZ.ite{c:Prop}[Decidable c]{a b:Int}(ha:zZ a)(hb:zZ b):zZ (if c then a else b):=by
 by_cases h:c
 · rw[if_pos h];exact ha
 · rw[if_neg h];exact hb
theorem zZ.flags{f:Int}(h:zZ f)(v:Int)(g:List Int):zZ (pO f v g):=by
 unfold pO
 repeat' (first|(with_reducible exact h)|(with_reducible refine zZ.ite ?_ ?_)|(with_reducible refine zZ.with ?_ _ qZ _))
def sW(l:List Int):Int:=l.foldl (fun n x=>256*n+max 0 x) 0
def b3V(g:List Int):Option Col:=if ∀x∈g,x≤255 then some (if g.length=1 then⟨1,sW g⟩else⟨2,sW g⟩)else none
def ocK(c:Option Col):Int:=(c.getD ⟨0,0⟩).k
def ocN(c:Option Col):Int:=(c.getD ⟨0,0⟩).n
def sB(c:Option Col)(w:World)(e:Ending)(w':World):Prop:=e=.returned (.tuple #[.agg #[.int .i64 (ocK c),.int .i64 (ocN c)],.bool c.isSome])∧Below w.heap.size w w'
theorem shl8_or{n x:Int}(h0:0≤n)(h1:n<16777216)(x0:0≤x)(x1:x<256):bits .or .i64 (n*256) x=256*n+x:=by
 obtain⟨a,rfl⟩:=Int.eq_ofNat_of_zero_le h0;obtain⟨b,rfl⟩:=Int.eq_ofNat_of_zero_le x0;have ha:a<16777216:=by omega
 have hb:b<256:=by omega
 have e1:(((a:Int)*256))=((a*256:Nat):Int):=by simp
 have key:(BitVec.ofInt 64 ((a:Int)*256) ||| BitVec.ofInt 64 (b:Int)).toNat=a*256+b:=by
  rw[e1,BitVec.ofInt_natCast,BitVec.ofInt_natCast,BitVec.toNat_or,BitVec.toNat_ofNat,BitVec.toNat_ofNat,Nat.mod_eq_of_lt qJ,Nat.mod_eq_of_lt qJ];rw[show a*256=a <<< 8 by rw[Nat.shiftLeft_eq],←Nat.shiftLeft_add_eq_or_of_lt (by omega:b<2 ^ 8)]
 have e2:bits .or .i64 ((a:Int)*256) (b:Int)=jP.wrap (((BitVec.ofInt 64 ((a:Int)*256) ||| BitVec.ofInt 64 (b:Int)).toNat:Nat):Int):=rfl;rw[e2,key,jH _ qJ];omega
theorem Q9{g:List Int}{i:Nat}(hi:i<g.length):sW (g.take (i+1))=256*sW (g.take i)+max 0 (g.getD i 0):=by
 unfold sW;rw[vJ hi,List.foldl_append];simp only[List.foldl_cons,List.foldl_nil];rw[kP,jD hi];rfl
theorem Yh{g:List Int}(hg:∀x∈g,x≤255)(h3:g.length≤3):0≤sW g∧sW g<16777216:=by
 unfold sW
 match g,h3 with
 |[],_=>exact⟨by decide,by decide⟩
 |[a],_=>have :=hg a qV;simp only[List.foldl_cons,List.foldl_nil];omega
 |[a,b],_=>have :=hg a qV;have :=hg b qV;simp only[List.foldl_cons,List.foldl_nil];omega
 |[a,b,c],_=>have :=hg a qV;have :=hg b qV;have :=hg c qV;simp only[List.foldl_cons,List.foldl_nil];omega
section
variable {w:World}
theorem nN{B:Option Addr}{g:List Int}(hG:pA zQ 1 w B g)(ca:Nat)(h3:g.length≤3):Calls jG 251 #[.slice B g.length ca] w (sB (b3V g) w):=by
 have HGE:Hid (∀i,i<g.length→∃b off,B=some ⟨b,off,none⟩∧w.cell? ⟨b,off+i,none⟩=some (.int .i64 (g.getD i 0))):=Hd (fun i hi=>dA hG hi);obtain⟨W,hW⟩:∃W,w.alloc (.cells #[.int .i64 0,.int .i64 0] 38)=W:=⟨_,rfl⟩;have hb:Below w.heap.size w W:=by rw[←hW];exact jW (jU _ _) _
 have hc:W.heap[w.heap.size]? =some (.cells #[.int .i64 0,.int .i64 0] 38 (0,0)):=by rw[←hW];exact kZ rfl
 have HB:=Hd hb;have HC:=Hd hc;have HW:=Hd hW;obtain⟨c0,f0⟩:=at_ hc 0 (.int .i64 0) rfl;obtain⟨c1,f1⟩:=at_ hc 1 (.int .i64 0) rfl;obtain⟨K,hK⟩:∃K,g.length=K:=⟨_,rfl⟩;rw[hK]at h3 HGE ⊢;have HK:=Hd hK;obtain⟨co,hco⟩:∃co,b3V g=co:=⟨_,rfl⟩;rw[hco];have HV:=Hd hco;clear hG hb hc hW hK hco
 go_enter Tryz.func251,Tryz.ntmps251
 go_upto_region 1 with fail
 rw[HW.o]
 go_wp2_with fail
 go_loopw [4,9] (fun s4 s9 wr=>∃i:Nat,s4=.int .i64 (sW (g.take i))∧s9=.int .i64 i∧i≤K∧(∀x∈g.take i,x≤255)∧W=wr) (fun _ s9 _=>K-(intOf s9).toNat)
 case atStart=>exact⟨0,rfl,rfl,kT _,fun x hx=>by simp at hx,rfl⟩
 case round=>
  obtain⟨i,rfl,rfl,hi,hall,rfl⟩:=hrel;have hwi:jP.wrap ((i:Int)+1)=(i:Int)+1:=jH _ qJ;have hbn:=Yh (g:=g.take i) hall qW
  by_cases hlt:i<K
  rotate_left
  · obtain rfl:i=K:=by omega
    have hltI:¬(i:Int)<(i:Int):=by omega
    have ht:g.take i=g:=vT (by rw[HK.o];exact jS _);rw[ht]at hall hbn ⊢;have hv:b3V g=some (if g.length=1 then⟨1,sW g⟩else⟨2,sW g⟩):=by unfold b3V;rw[if_pos hall]
    obtain⟨N,hN⟩:∃N,sW g=N:=⟨_,rfl⟩;rw[hN,HK.o]at hv;have HVV:=Hd (HV.o.symm.trans hv);rw[hN];clear hall hbn hv ht hN
    by_cases h1:i=1
    · subst h1
      go_wp2
      have hz:=kY (kY HC.o 0 (.int .i64 1) rfl) 1 (.int .i64 N) rfl;exact bodyPost_ret (yT rfl _ _ w.heap.size [.int .i64 1,.int .i64 N] rfl (kA hz) kE rfl uO) rfl ⟨by rw[HVV.o];rfl,kH (kH HB.o (jS _) _) (jS _) _⟩
    · have h1q:((i:Int)==1)=false:=zb qJ;have h1I:¬(i:Int)=1:=by omega
      go_wp2
      have hz:=kY (kY HC.o 0 (.int .i64 2) rfl) 1 (.int .i64 N) rfl;exact bodyPost_ret (yT rfl _ _ w.heap.size [.int .i64 2,.int .i64 N] rfl (kA hz) kE rfl uO) rfl ⟨by rw[HVV.o,if_neg h1];rfl,kH (kH HB.o (jS _) _) (jS _) _⟩
  · have hltI:(i:Int)<(K:Int):=by omega
    obtain⟨b,off,hBe,hcell⟩:=HGE.o i hlt;subst hBe;have hcell2:=jA HB.o hcell;have hsu:=Q9 (g:=g) (i:=i) qVf;obtain⟨x,hx⟩:∃x,g.getD i 0=x:=⟨_,rfl⟩;obtain⟨n,hn⟩:∃n,sW (g.take i)=n:=⟨_,rfl⟩;rw[hx,hn]at hsu;rw[hn]at hbn ⊢;rw[hx]at hcell2;have HSU:=Hd hsu;have HXG:=Hd hx;have HALL:=Hd hall;clear hsu hx hn hall hcell
    by_cases hgt:255<x
    · have hv:b3V g=none:=by
       unfold b3V;rw[if_neg];intro h;have :=h x (by rw[←HXG.o,kP,jD qVf];exact List.getElem_mem _);omega
      have HVV:=Hd (HV.o.symm.trans hv);clear hv
      go_wp2
      have hz:=kY (kY HC.o 0 (.int .i64 0) rfl) 1 (.int .i64 0) rfl;exact qZ6
    · have hwn:jP.wrap (n*256)=n*256:=jH _ qJ;have HOR:=Hd (shl8_or hbn.1 hbn.2 (x:=max 0 x) qJ qJ);have HMX:Hid ((if 0<x then x else 0)=max 0 x):=Hd (by split<;>omega);have hsh:(Op.shift .shl .i64 n .u64 8).run jG W=.ok (.int .i64 (n*256)) W:=by
       have e:=shift_shl .i64 .u64 n 8 qZ qZ;rw[e];show Result.ok (Value.int .i64 (jP.wrap (n*2 ^ (8:Int).toNat))) W=_;rw[show n*2 ^ (8:Int).toNat=n*256 from rfl,hwn]
      go_wp2
      go_roundw
      case rel=>
       refine⟨i+1,?_,by go_num,by omega,?_,by first|rfl|trivial⟩
       · rw[HSU.o,HMX.o,HOR.o]
       · intro y hy;rw[vJ qVf]at hy;rcases kL.1 hy with hy|hy
         · exact HALL.o y hy
         · rw[jR.1 hy];have :g[i]'qVf=x:=by rw[←HXG.o,kP,jD qVf];rfl
           omega
      case measure=>exact zm
end
def wN(g:List Int):Option Col:=if g.getD 1 0=5∧g.length=3 then b3V [g.getD 2 0]else if g.getD 1 0=2∧(g.length=5∨g.length=6)then b3V (g.drop (g.length-3))else none
theorem gr_drop{w:World}{b off k:Nat}{g:List Int}(h:pA zQ 1 w (some ⟨b,off,none⟩) g):pA zQ 1 w (some ⟨b,off+k,none⟩) (g.drop k):=fun h0=>by
 have hl:k<g.length:=by simp at h0;omega
 obtain⟨b',off',hA,hg⟩:=h qJ;injection hA with hA
 injection hA with h1 h2
 subst h1 h2;refine⟨b,off+k,rfl,fun i x hi j v hv=>?_⟩;rw[gV]at hi;have :=hg (k+i) x hi j v hv;rw[Nat.mul_one]at this ⊢;rw[show off+k+i+j=off+(k+i)+j by omega];exact this
section
variable {w:World}
set_option maxHeartbeats 3200000 in
theorem Za{B:Option Addr}{g:List Int}(hG:pA zQ 1 w B g)(ca:Nat)(h1:1<g.length)(h8:g.length≤8)(hca:g.length≤ca):Calls jG 182 #[.slice B g.length ca] w (sB (wN g) w):=by
 obtain⟨b,off,rfl,hc1⟩:=dA hG h1;have HGG:=Hd hG;obtain⟨W,hW⟩:∃W,w.alloc (.cells #[.int .i64 0,.int .i64 0] 38)=W:=⟨_,rfl⟩;have hb:Below w.heap.size w W:=by rw[←hW];exact jW (jU _ _) _
 have hcz:W.heap[w.heap.size]? =some (.cells #[.int .i64 0,.int .i64 0] 38 (0,0)):=by rw[←hW];exact kZ rfl
 have HB:=Hd hb;have HC:=Hd hcz;have HW:=Hd hW;have hc1':=jA hb hc1;obtain⟨co,hco⟩:∃co,wN g=co:=⟨_,rfl⟩;rw[hco];have HV:=Hd hco;clear hb hcz hW hc1 hco
 by_cases hA:g.getD 1 0=5∧g.length=3
 · obtain⟨ha1,ha2⟩:=hA;obtain⟨b',off',hbe,hc2⟩:=dA hG (i:=2) qJ;injection hbe with hbe
   injection hbe with e1 e2
   subst e1 e2;have hc2':=jA HB.o hc2;have HVV:Hid (co=b3V [g.getD 2 0]):=Hd (by rw[←HV.o];unfold wN;rw[if_pos ⟨ha1,ha2⟩]);rw[ha1]at hc1';rw[ha2];obtain⟨x,hx⟩:∃x,g.getD 2 0=x:=⟨_,rfl⟩;rw[hx]at hc2' HVV;have H3:Hid (∀W2,Below W.heap.size W W2→Calls jG 251 #[.slice (some ⟨W2.heap.size,0,none⟩) 1 1] (W2.alloc (.cells #[.int .i64 x] 3)) (sB co (W2.alloc (.cells #[.int .i64 x] 3)))):=Hd (fun W2 hb2=>by
    rw[HVV.o];refine nN (B:=some ⟨W2.heap.size,0,none⟩) (g:=[x]) (fun _=>⟨W2.heap.size,0,rfl,fun i y hi j v hv=>?_⟩) 1 qV;have hi0:i=0:=by have :=(jE.1 hi).1;simpa using this
    subst hi0;obtain rfl:x=y:=by simpa using hi
    have hj0:j=0:=by have :=(jE.1 hv).1;simpa[zQ]using this
    subst hj0;obtain rfl:Value.int .i64 x=v:=by simpa[zQ]using hv
    exact(at_ (kZ (W:=W2) (b:=W2.heap.size) (o:=.cells #[.int .i64 x] 3) rfl) 0 _ rfl).1)
   clear hG h1 h8 hca ha1 ha2 hc2 hx
   go_enter Tryz.func182,Tryz.ntmps182
   go_upto_region 1 with fail
   rw[HW.o]
   go_upto_region 2 with fail
   have hbx:=jW (jU W.heap.size W) (.cells #[.int .i64 x] 3);have HBX:=Hd hbx;clear hbx;refine wp_region_lit ?_;refine zG (.slice (some ⟨b,off,none⟩) 3 ca) ?_;refine zGs (.pointer (some ⟨b,off+2,none⟩)) ?_;refine zGs (.int .i64 x) ?_;refine uM (.slice (some ⟨W.heap.size,0,none⟩) 1 1) (W.alloc (.cells #[.int .i64 x] 3)) qK qY ?_;refine zP ?_;refine gC rfl 251 #[.slice (some ⟨W.heap.size,0,none⟩) 1 1] qY (H3.o W (jU _ _)) (.tuple #[.agg #[.int .i64 (ocK co),.int .i64 (ocN co)],.bool co.isSome]) (fun e w' h=>h.1) ?_;rintro w5 ⟨-,hb5⟩;have HB5:=Hd hb5;clear hb5;have hb6:=jN HBX.o HB5.o;have hz6:=(hb6.block _ (kQ HC.o)).trans HC.o;have hbz:=jN HB.o hb6;obtain⟨z0,z0f⟩:=at_ hz6 0 (.int .i64 0) rfl;obtain⟨z1,z1f⟩:=at_ hz6 1 (.int .i64 0) rfl;have HZ6:=Hd hz6;have HBZ:=Hd hbz;clear hb6 hz6 hbz hc1' hc2';refine zP ?_
   go_wp2
   have hz:=kY (kY HZ6.o 0 (.int .i64 (ocK co)) rfl) 1 (.int .i64 (ocN co)) rfl;exact qZ7
 have hA':g.getD 1 0≠5∨(g.getD 1 0=5∧g.length≠3):=by omega
 obtain⟨v1,hv1⟩:∃v1,g.getD 1 0=v1:=⟨_,rfl⟩;obtain⟨L,hL⟩:∃L,g.length=L:=⟨_,rfl⟩
 by_cases hBc:v1=2∧(L=5∨L=6)
 · obtain⟨hb1,hb2⟩:=hBc;have HVV:Hid (co=b3V (g.drop (L-3))):=Hd (by rw[←HV.o];unfold wN;rw[if_neg hA,hv1,hL,if_pos ⟨hb1,hb2⟩]);obtain⟨M,hM⟩:∃M,L=M+3:=⟨L-3,by omega⟩;have hMI:(L:Int)-3=(M:Int):=by omega
   have hwM:jP.wrap (M:Int)=(M:Int):=jH _ qJ;have H3:Hid (Calls jG 251 #[.slice (some ⟨b,off+M,none⟩) 3 (ca-M)] W (sB co W)):=Hd (by
    rw[HVV.o,show L-3=M by omega];have :=nN (w:=W) (g:=g.drop M) (gr_drop (HGG.o.below HB.o)) (ca-M) qW;rw[show(g.drop M).length=3 by simp;omega]at this;exact this)
   rw[hL]at h1 h8 hca ⊢;rw[hv1,hb1]at hc1';have hge:M≤L:=by omega
   have hLc:L≤ca:=hca;have hL3:L-M=3:=by omega
   have hML:(M:Int)≤(L:Int):=by omega
   have hLca:(L:Int)≤(ca:Int):=by omega
   have hor:(L==5)=true∨((L==5)=false∧(L==6)=true):=by
    rcases hb2 with rfl|rfl
    · exact .inl rfl
    · exact .inr ⟨rfl,rfl⟩
   subst hb1;clear hG hA hA' hv1 hL hMI h1 h8;rcases hb2 with rfl|rfl
   · obtain rfl:M=2:=by omega
     have hwk:jP.wrap (2:Int)=2:=jH _ qJ;have h2c:2≤ca:=by omega
     have hnc:¬ca=2:=by omega
     have h2cI:(2:Int)≤(ca:Int):=by omega
     have hncI:¬(ca:Int)=2:=by omega
     go_enter Tryz.func182,Tryz.ntmps182
     go_upto_region 1 with fail
     rw[HW.o]
     go_upto_region 4 with fail
     refine wp_region_lit ?_;refine zG (.slice (some ⟨b,off,none⟩) 5 ca) ?_;refine zG (.slice (some ⟨b,off,none⟩) 5 ca) ?_;refine zGs (.int .i64 5) ?_;refine zGs (.int .i64 2) ?_;refine zGs (.slice (some ⟨b,off+2,none⟩) 3 (ca-2)) ?_;refine gC rfl 251 #[.slice (some ⟨b,off+2,none⟩) 3 (ca-2)] qY H3.o (.tuple #[.agg #[.int .i64 (ocK co),.int .i64 (ocN co)],.bool co.isSome]) (fun e w' h=>h.1) ?_;rintro w5 ⟨-,hb5⟩;have HB5:=Hd hb5;clear hb5;have hz6:=(HB5.o.block _ (kQ HC.o)).trans HC.o;have hbz:=jN HB.o HB5.o;obtain⟨z0,z0f⟩:=at_ hz6 0 (.int .i64 0) rfl;obtain⟨z1,z1f⟩:=at_ hz6 1 (.int .i64 0) rfl;have HZ6:=Hd hz6;have HBZ:=Hd hbz;clear hz6 hbz hc1';refine zP ?_
     go_wp2
     have hz:=kY (kY HZ6.o 0 (.int .i64 (ocK co)) rfl) 1 (.int .i64 (ocN co)) rfl;exact qZ7
   · obtain rfl:M=3:=by omega
     have hwk:jP.wrap (3:Int)=3:=jH _ qJ;have h2c:3≤ca:=by omega
     have hnc:¬ca=3:=by omega
     have h2cI:(3:Int)≤(ca:Int):=by omega
     have hncI:¬(ca:Int)=3:=by omega
     go_enter Tryz.func182,Tryz.ntmps182
     go_upto_region 1 with fail
     rw[HW.o]
     go_upto_region 4 with fail
     refine wp_region_lit ?_;refine zG (.slice (some ⟨b,off,none⟩) 6 ca) ?_;refine zG (.slice (some ⟨b,off,none⟩) 6 ca) ?_;refine zGs (.int .i64 6) ?_;refine zGs (.int .i64 3) ?_;refine zGs (.slice (some ⟨b,off+3,none⟩) 3 (ca-3)) ?_;refine gC rfl 251 #[.slice (some ⟨b,off+3,none⟩) 3 (ca-3)] qY H3.o (.tuple #[.agg #[.int .i64 (ocK co),.int .i64 (ocN co)],.bool co.isSome]) (fun e w' h=>h.1) ?_;rintro w5 ⟨-,hb5⟩;have HB5:=Hd hb5;clear hb5;have hz6:=(HB5.o.block _ (kQ HC.o)).trans HC.o;have hbz:=jN HB.o HB5.o;obtain⟨z0,z0f⟩:=at_ hz6 0 (.int .i64 0) rfl;obtain⟨z1,z1f⟩:=at_ hz6 1 (.int .i64 0) rfl;have HZ6:=Hd hz6;have HBZ:=Hd hbz;clear hz6 hbz hc1';refine zP ?_
     go_wp2
     have hz:=kY (kY HZ6.o 0 (.int .i64 (ocK co)) rfl) 1 (.int .i64 (ocN co)) rfl;exact qZ7
 · have HVV:Hid (co=none):=Hd (by rw[←HV.o];unfold wN;rw[if_neg hA,hv1,hL,if_neg hBc]);obtain⟨z0,z0f⟩:=at_ HC.o 0 (.int .i64 0) rfl;obtain⟨z1,z1f⟩:=at_ HC.o 1 (.int .i64 0) rfl;rw[hv1]at hc1' hA';rw[hL]at hA' h1 h8 hca ⊢;clear hG hv1 hL hA HGG;have h31:(v1==5)=false∨(v1=5∧((L:Int)==3)=false∧¬(L:Int)=3):=by
    rcases hA' with h|⟨h,h'⟩
    · exact .inl (zb h)
    · exact .inr ⟨h,zb qJ,by omega⟩
   have h32:(v1==2)=false∨(v1=2∧(((L:Int)==5)=false∧((L:Int)==6)=false)∧¬L=5∧¬L=6):=by
    by_cases h:v1=2
    · exact .inr ⟨h,⟨zb qJ,zb qJ⟩,by omega,by omega⟩
    · exact .inl (zb h)
   clear hA' hBc;rcases h31 with h31|⟨rfl,h31,h31'⟩
   · rcases h32 with h32|⟨rfl,⟨h32,h33⟩,h34,h35⟩
     · go_enter Tryz.func182,Tryz.ntmps182
       go_upto_region 1 with fail
       rw[HW.o]
       go_wp2
       have hz:=kY (kY HC.o 0 (.int .i64 0) rfl) 1 (.int .i64 0) rfl;exact qZ6
     · go_enter Tryz.func182,Tryz.ntmps182
       go_upto_region 1 with fail
       rw[HW.o]
       go_wp2
       have hz:=kY (kY HC.o 0 (.int .i64 0) rfl) 1 (.int .i64 0) rfl;exact qZ6
   · clear h32
     go_enter Tryz.func182,Tryz.ntmps182
     go_upto_region 1 with fail
     rw[HW.o]
     go_wp2
     have hz:=kY (kY HC.o 0 (.int .i64 0) rfl) 1 (.int .i64 0) rfl;exact qZ6
end
theorem cU{α:Type}{enc:α→List Value}{K:Nat}(hl:∀x,(enc x).length=K){w:World}{base:Nat}{e:TypeId}{A:Option Addr}{n c:Nat}{X:List α}(h:w.ownsRow base e K (.slice A n c) X.length (uS enc X)):pA enc K w A X:=fun h0=>by
 obtain⟨g,c',hv⟩:=gE h h0;simp only[Value.slice.injEq]at hv;obtain⟨rfl,rfl,rfl⟩:=hv;refine⟨g,0,rfl,fun i x hi j v hj=>?_⟩;rw[kB];exact(pC h (i:=i*K+j) qJ0).1
theorem oM:(jG.info? 3).map (fun i=>(i.zero,i.size,i.bytes))=some (some (.int .i64 0),1,8):=by kernel_rfl
def eS(G:List (List Int))(i:Nat):Nat:=if yG G (i+1)=5 then 1 else if yG G (i+1)=2 then 3 else 0
def bI(G:List (List Int))(i n:Nat):List Int:=(List.range n).map (fun k=>yG G (i+2+k))
theorem iW(G:List (List Int))(i n:Nat):(bI G i n).length=n:=by unfold bI;simp
theorem aC(G:List (List Int))(i n:Nat):bI G i (n+1)=bI G i n++[yG G (i+2+n)]:=by unfold bI;rw[List.range_succ,gK];rfl
def nT(G:List (List Int))(i:Nat):Option Col×Int:=
 if G.length≤i+1+eS G i then(none,(G.length:Int)-1-i)else if eS G i=0 then(none,1)else(b3V (bI G i (eS G i)),1+(eS G i:Int))
def UE(c:Option Col×Int)(w:World)(e:Ending)(w':World):Prop:=e=.returned (.tuple #[.agg #[.int .i64 (ocK c.1),.int .i64 (ocN c.1)],.bool c.1.isSome,.int .i64 c.2])∧Below w.heap.size w w'
section
variable {w:World}{A:Option Addr}{H:List Gh}
set_option maxHeartbeats 6400000 in
theorem XJ(hG:eR w A H)(ca i:Nat)(hi:i<H.length)(hz:H.length≤1000):Calls jG 183 #[.slice A H.length ca,.int .i64 i] w (UE (nT (vK H) i) w):=by
 obtain⟨j0,hj,gz0,gz1,gz2⟩:=info_parts oM;obtain⟨W,hW⟩:∃W,w.alloc (.cells #[.int .i64 0,.int .i64 0] 38)=W:=⟨_,rfl⟩;have hb:Below w.heap.size w W:=by rw[←hW];exact jW (jU _ _) _
 have hcz:W.heap[w.heap.size]? =some (.cells #[.int .i64 0,.int .i64 0] 38 (0,0)):=by rw[←hW];exact kZ rfl
 have hlW:w.heap.size<W.heap.size:=kQ hcz;have HB:=Hd hb;have HC:=Hd hcz;have HW:=Hd hW;have HLW:=Hd hlW;have HGW:Hid (∀W',Below W.heap.size W W'→∀k:Nat,Calls jG 180 #[.slice A H.length ca,.int .i64 k] W' fun e w'=>e=.returned (.int .i64 (yG (vK H) k))∧W'=w'):=Hd (fun W' hb' k=>JU (hG.below (jN hb hb')) ca k qJ);have hgl:(vK H).length=H.length:=by unfold vK;simp
 obtain⟨co,hco⟩:∃co,nT (vK H) i=co:=⟨_,rfl⟩;rw[hco];have hbe:co=if H.length≤i+1+eS (vK H) i then(none,(H.length:Int)-1-i)else if eS (vK H) i=0 then(none,1)else(b3V (bI (vK H) i (eS (vK H) i)),1+(eS (vK H) i:Int)):=by rw[←hco];unfold nT;rw[hgl]
 have HV:=Hd hbe;generalize vK H=G at HGW HV;obtain⟨L,hL⟩:∃L,H.length=L:=⟨_,rfl⟩;rw[hL]at HGW HV hi hz ⊢;have hi1:(i:Int)+1=((i+1:Nat):Int):=by omega
 obtain⟨i1,hi1e⟩:∃i1:Nat,i1=i+1:=⟨_,rfl⟩;have hi1I:(i:Int)+1=(i1:Int):=by omega
 have hw1:jP.wrap (i1:Int)=(i1:Int):=jH _ qJ;have HF1:=Hd (HGW.o W (jU _ _) i1);obtain⟨v1,hv1⟩:∃v1,yG G i1=v1:=⟨_,rfl⟩;rw[hv1]at HF1;have HN:Hid (eS G i=if v1=5 then 1 else if v1=2 then 3 else 0):=Hd (by unfold eS;rw[←hi1e,hv1]);have HI1:=Hd hi1e;clear hG hb hcz hW hlW hgl hco hbe hL hi1 hi1e hv1;have cend:∀W5,Below W.heap.size W W5→∀(c:Option Col) (n:Int),co=(c,n)→∀W6,W6=(W5.setCell ⟨w.heap.size,0,none⟩ (.int .i64 (ocK c))).setCell ⟨w.heap.size,1,none⟩ (.int .i64 (ocN c))→W6.rangeAt w.heap.size 0 [.int .i64 (ocK co.1),.int .i64 (ocN co.1)]∧Below w.heap.size w W6:=fun W5 hb5 c n hc W6 h6=>by
  have hz:=(hb5.block _ HLW.o).trans HC.o;rw[hc,h6];exact⟨kA (kY (kY hz 0 (.int .i64 (ocK c)) rfl) 1 (.int .i64 (ocN c)) rfl),kH (kH (jN HB.o (jN (jU _ _) hb5)) (jS _) _) (jS _) _⟩
 have HEND:=Hd cend;clear cend
 by_cases h5:v1=5
 · subst h5;have HNV:Hid (eS G i=1):=Hd (by rw[HN.o];rw[if_pos rfl]);have hwn:jP.wrap ((i1:Int)+1)=(i1:Int)+1:=jH _ qJ
   by_cases hle:L≤i1+1
   · have hleI:(L:Int)≤(i1:Int)+1:=by omega
     have hwL:jP.wrap ((L:Int)-1)=(L:Int)-1:=jH _ qJ;have hwL2:jP.wrap ((L:Int)-1-(i:Int))=(L:Int)-1-(i:Int):=jH _ qJ;have HVV:Hid (co=(none,(L:Int)-1-i)):=Hd qKp;clear hle;have hz5:=(((jU W.heap.size W).block _ HLW.o)).trans HC.o;obtain⟨z0,z0f⟩:=at_ hz5 0 (.int .i64 0) rfl;obtain⟨z1,z1f⟩:=at_ hz5 1 (.int .i64 0) rfl;clear hz5
     go_enter Tryz.func183,Tryz.ntmps183
     go_upto_region 1 with fail
     rw[HW.o]
     go_wp2_with(go_at_call 180;(with_reducible refine HF1.o.mono ?_);rintro e w2 ⟨rfl,rfl⟩)
     obtain⟨hr,hbe⟩:=HEND.o W (jU _ _) none (((L:Int)-1-i)) HVV.o _ rfl;exact qZ8
   · have hleI:¬(L:Int)≤(i1:Int)+1:=by omega
     have HVV:Hid (co=(b3V (bI G i 1),1+(1:Int))):=Hd qKq;clear hle
     go_enter Tryz.func183,Tryz.ntmps183
     go_upto_region 1 with fail
     rw[HW.o]
     go_wp2_with(go_at_call 180;(with_reducible refine HF1.o.mono ?_);rintro e w2 ⟨rfl,rfl⟩)
     go_loopw [8,37] (fun s8 s37 wr=>∃k:Nat,s37=.int .i64 k∧k≤1∧wr.ownsRow W.heap.size 3 1 s8 k (uS zQ (bI G i k))∧Below W.heap.size W wr) (fun _ s37 _=>1-(intOf s37).toNat)
     case atStart=>exact⟨0,rfl,kT _,uE _ _ _ _,jU _ _⟩
     case round=>
      obtain⟨k,rfl,hk,hO,hB⟩:=hrel;obtain⟨bx,rfl⟩:∃bx:Value×Unit,u8=bx.1:=⟨(u8,()),rfl⟩;have HO:=Hd hO;have HBk:=Hd hB;have hwk:jP.wrap ((k:Int)+1)=(k:Int)+1:=jH _ qJ;have hwi2:jP.wrap ((i:Int)+2)=(i:Int)+2:=jH _ qJ;obtain⟨j,hje⟩:∃j:Nat,j=i+2+k:=⟨_,rfl⟩;have hjI:(i:Int)+2+(k:Int)=(j:Int):=by omega
      have hwj:jP.wrap (j:Int)=(j:Int):=jH _ qJ;have HJ:=Hd hje;clear hO hB hje
      by_cases hlt:k<1
      · have hltI:(k:Int)<1:=by omega
        have HFJ:=Hd (HGW.o wr HBk.o j);obtain⟨vj,hvj⟩:∃vj,yG G j=vj:=⟨_,rfl⟩;rw[hvj]at HFJ;have HVJ:Hid (bI G i (k+1)=bI G i k++[vj]):=Hd (by rw[aC,←hvj,HJ.o]);clear hvj;have HSZ:=Hd HBk.o.size
        go_upto_region 15 with fail
        refine wp_region_lit ?_;refine zG (bx.1) ?_;refine zG (.slice A L ca) ?_;refine zG (.int .i64 i) ?_;refine zGs (.int .i64 ((i:Int)+2)) ?_;refine zG (.int .i64 k) ?_;refine zGs (.int .i64 j) ?_;refine gC rfl 180 #[.slice A L ca,.int .i64 j] qY HFJ.o (.int .i64 vj) (fun e w' h=>h.1) ?_;rintro w5 ⟨-,rfl⟩;refine zP ?_;have HO3:=Hd (uL HO.o (Mod.of_below (X:=[]) (jW (jU wr.heap.size wr) (.cells #[.int .i64 vj] 3))) (fun _ _ h=>by cases h));have HBX:=Hd (jW HBk.o (.cells #[.int .i64 vj] 3));refine uM (.slice (some ⟨wr.heap.size,0,none⟩) 1 1) (wr.alloc (.cells #[.int .i64 vj] 3)) qK qY ?_;refine zP ?_;refine kO (o:=⟨some 48,_,_,_,_,_⟩) rfl (.tmp 40) (.tmp 47) 92 rfl W.heap.size 3 j0 _ 1 8 Tryz.underlying92 hj gz0 gz1 gz2 rfl qZ bx.1 k (uS zQ (bI G i k)) rfl HO3.o ⟨wr.heap.size,0,none⟩ 1 1 [.int .i64 vj] rfl rfl (fun j u hj=>by rw[vZ,kB];exact(at_ (kZ rfl) j u qF).1) (eI _) qJv qJ qE ?_;intro v' w7 ho hg hv';have HO7:Hid (w7.ownsRow W.heap.size 3 1 v' (k+1) (uS zQ (bI G i (k+1)))):=Hd (by rw[HVJ.o,uC];exact ho);have HB7:=Hd (HBX.o.grown hg HBX.o.size (fun b hb=>(kK.lt (show kK _ _ _ _ _ _ _ from HO3.o) b hb).1));refine zP ?_;clear ho hg hv'
        go_wp2
        go_roundw
        case rel=>exact⟨k+1,by go_num,by omega,HO7.o,HB7.o⟩
        case measure=>exact zm
      · have hltI:¬(k:Int)<1:=by omega
        obtain rfl:k=1:=by omega
        obtain⟨A8,c8,hv8⟩:=gU HO.o;obtain⟨bv,bu⟩:=bx;simp only at hv8;subst hv8;have H3:Hid (Calls jG 251 #[.slice A8 1 c8] wr (sB (b3V (bI G i 1)) wr)):=Hd (by
         have hgr:=cU (X:=bI G i 1) mD (by rw[iW];exact HO.o);have :=nN hgr c8 (by rw[iW];omega);rw[iW]at this;exact this)
        obtain⟨cc,hcc⟩:∃cc,b3V (bI G i 1)=cc:=⟨_,rfl⟩;rw[hcc]at H3 HVV;clear hcc
        go_upto_region 18 with(go_at_call 251;(with_reducible refine H3.o.mono ?_);rintro e w6 ⟨rfl,hb6⟩;have HB6:=Hd (jN HBk.o hb6);clear hb6)
        generalize hW7:World.alloc _ _=W7;have hb7:Below w6.heap.size w6 W7:=by rw[←hW7];exact jW (jU _ _) _
        have hc7:W7.heap[w6.heap.size]? =some (.cells #[.int .i64 (ocK cc),.int .i64 (ocN cc)] 38 (0,0)):=by rw[←hW7];exact kZ rfl
        have HB7:=Hd (jN HB6.o hb7);obtain⟨d0,-⟩:=at_ hc7 0 (.int .i64 (ocK cc)) rfl;obtain⟨d1,-⟩:=at_ hc7 1 (.int .i64 (ocN cc)) rfl;clear hW7 hb7 hc7;have hz5:=((HB7.o.block _ HLW.o)).trans HC.o;obtain⟨z0,z0f⟩:=at_ hz5 0 (.int .i64 0) rfl;obtain⟨z1,z1f⟩:=at_ hz5 1 (.int .i64 0) rfl;clear hz5
        go_wp2
        obtain⟨hr,hbe⟩:=HEND.o W7 HB7.o cc ((1+(1:Int))) HVV.o _ rfl;exact qZ8
 have e5:(v1==5)=false:=zb h5
 by_cases h2:v1=2
 · subst h2;clear h5 e5;have HNV:Hid (eS G i=3):=Hd (by rw[HN.o];rw[if_neg qZ,if_pos rfl]);have hwn:jP.wrap ((i1:Int)+3)=(i1:Int)+3:=jH _ qJ
   by_cases hle:L≤i1+3
   · have hleI:(L:Int)≤(i1:Int)+3:=by omega
     have hwL:jP.wrap ((L:Int)-1)=(L:Int)-1:=jH _ qJ;have hwL2:jP.wrap ((L:Int)-1-(i:Int))=(L:Int)-1-(i:Int):=jH _ qJ;have HVV:Hid (co=(none,(L:Int)-1-i)):=Hd qKp;clear hle;have hz5:=(((jU W.heap.size W).block _ HLW.o)).trans HC.o;obtain⟨z0,z0f⟩:=at_ hz5 0 (.int .i64 0) rfl;obtain⟨z1,z1f⟩:=at_ hz5 1 (.int .i64 0) rfl;clear hz5
     go_enter Tryz.func183,Tryz.ntmps183
     go_upto_region 1 with fail
     rw[HW.o]
     go_wp2_with(go_at_call 180;(with_reducible refine HF1.o.mono ?_);rintro e w2 ⟨rfl,rfl⟩)
     obtain⟨hr,hbe⟩:=HEND.o W (jU _ _) none (((L:Int)-1-i)) HVV.o _ rfl;exact qZ8
   · have hleI:¬(L:Int)≤(i1:Int)+3:=by omega
     have HVV:Hid (co=(b3V (bI G i 3),1+(3:Int))):=Hd qKq;clear hle
     go_enter Tryz.func183,Tryz.ntmps183
     go_upto_region 1 with fail
     rw[HW.o]
     go_wp2_with(go_at_call 180;(with_reducible refine HF1.o.mono ?_);rintro e w2 ⟨rfl,rfl⟩)
     go_loopw [8,37] (fun s8 s37 wr=>∃k:Nat,s37=.int .i64 k∧k≤3∧wr.ownsRow W.heap.size 3 1 s8 k (uS zQ (bI G i k))∧Below W.heap.size W wr) (fun _ s37 _=>3-(intOf s37).toNat)
     case atStart=>exact⟨0,rfl,kT _,uE _ _ _ _,jU _ _⟩
     case round=>
      obtain⟨k,rfl,hk,hO,hB⟩:=hrel;obtain⟨bx,rfl⟩:∃bx:Value×Unit,u8=bx.1:=⟨(u8,()),rfl⟩;have HO:=Hd hO;have HBk:=Hd hB;have hwk:jP.wrap ((k:Int)+1)=(k:Int)+1:=jH _ qJ;have hwi2:jP.wrap ((i:Int)+2)=(i:Int)+2:=jH _ qJ;obtain⟨j,hje⟩:∃j:Nat,j=i+2+k:=⟨_,rfl⟩;have hjI:(i:Int)+2+(k:Int)=(j:Int):=by omega
      have hwj:jP.wrap (j:Int)=(j:Int):=jH _ qJ;have HJ:=Hd hje;clear hO hB hje
      by_cases hlt:k<3
      · have hltI:(k:Int)<3:=by omega
        have HFJ:=Hd (HGW.o wr HBk.o j);obtain⟨vj,hvj⟩:∃vj,yG G j=vj:=⟨_,rfl⟩;rw[hvj]at HFJ;have HVJ:Hid (bI G i (k+1)=bI G i k++[vj]):=Hd (by rw[aC,←hvj,HJ.o]);clear hvj;have HSZ:=Hd HBk.o.size
        go_upto_region 15 with fail
        refine wp_region_lit ?_;refine zG (bx.1) ?_;refine zG (.slice A L ca) ?_;refine zG (.int .i64 i) ?_;refine zGs (.int .i64 ((i:Int)+2)) ?_;refine zG (.int .i64 k) ?_;refine zGs (.int .i64 j) ?_;refine gC rfl 180 #[.slice A L ca,.int .i64 j] qY HFJ.o (.int .i64 vj) (fun e w' h=>h.1) ?_;rintro w5 ⟨-,rfl⟩;refine zP ?_;have HO3:=Hd (uL HO.o (Mod.of_below (X:=[]) (jW (jU wr.heap.size wr) (.cells #[.int .i64 vj] 3))) (fun _ _ h=>by cases h));have HBX:=Hd (jW HBk.o (.cells #[.int .i64 vj] 3));refine uM (.slice (some ⟨wr.heap.size,0,none⟩) 1 1) (wr.alloc (.cells #[.int .i64 vj] 3)) qK qY ?_;refine zP ?_;refine kO (o:=⟨some 48,_,_,_,_,_⟩) rfl (.tmp 40) (.tmp 47) 92 rfl W.heap.size 3 j0 _ 1 8 Tryz.underlying92 hj gz0 gz1 gz2 rfl qZ bx.1 k (uS zQ (bI G i k)) rfl HO3.o ⟨wr.heap.size,0,none⟩ 1 1 [.int .i64 vj] rfl rfl (fun j u hj=>by rw[vZ,kB];exact(at_ (kZ rfl) j u qF).1) (eI _) qJv qJ qE ?_;intro v' w7 ho hg hv';have HO7:Hid (w7.ownsRow W.heap.size 3 1 v' (k+1) (uS zQ (bI G i (k+1)))):=Hd (by rw[HVJ.o,uC];exact ho);have HB7:=Hd (HBX.o.grown hg HBX.o.size (fun b hb=>(kK.lt (show kK _ _ _ _ _ _ _ from HO3.o) b hb).1));refine zP ?_;clear ho hg hv'
        go_wp2
        go_roundw
        case rel=>exact⟨k+1,by go_num,by omega,HO7.o,HB7.o⟩
        case measure=>exact zm
      · have hltI:¬(k:Int)<3:=by omega
        obtain rfl:k=3:=by omega
        obtain⟨A8,c8,hv8⟩:=gU HO.o;obtain⟨bv,bu⟩:=bx;simp only at hv8;subst hv8;have H3:Hid (Calls jG 251 #[.slice A8 3 c8] wr (sB (b3V (bI G i 3)) wr)):=Hd (by
         have hgr:=cU (X:=bI G i 3) mD (by rw[iW];exact HO.o);have :=nN hgr c8 (by rw[iW];omega);rw[iW]at this;exact this)
        obtain⟨cc,hcc⟩:∃cc,b3V (bI G i 3)=cc:=⟨_,rfl⟩;rw[hcc]at H3 HVV;clear hcc
        go_upto_region 18 with(go_at_call 251;(with_reducible refine H3.o.mono ?_);rintro e w6 ⟨rfl,hb6⟩;have HB6:=Hd (jN HBk.o hb6);clear hb6)
        generalize hW7:World.alloc _ _=W7;have hb7:Below w6.heap.size w6 W7:=by rw[←hW7];exact jW (jU _ _) _
        have hc7:W7.heap[w6.heap.size]? =some (.cells #[.int .i64 (ocK cc),.int .i64 (ocN cc)] 38 (0,0)):=by rw[←hW7];exact kZ rfl
        have HB7:=Hd (jN HB6.o hb7);obtain⟨d0,-⟩:=at_ hc7 0 (.int .i64 (ocK cc)) rfl;obtain⟨d1,-⟩:=at_ hc7 1 (.int .i64 (ocN cc)) rfl;clear hW7 hb7 hc7;have hz5:=((HB7.o.block _ HLW.o)).trans HC.o;obtain⟨z0,z0f⟩:=at_ hz5 0 (.int .i64 0) rfl;obtain⟨z1,z1f⟩:=at_ hz5 1 (.int .i64 0) rfl;clear hz5
        go_wp2
        obtain⟨hr,hbe⟩:=HEND.o W7 HB7.o cc ((1+(3:Int))) HVV.o _ rfl;exact qZ8
 have e2:(v1==2)=false:=zb h2;have HNV:Hid (eS G i=0):=Hd (by rw[HN.o];rw[if_neg h5,if_neg h2]);have hwn:jP.wrap ((i1:Int)+0)=(i1:Int)+0:=jH _ qJ
 by_cases hle:L≤i1+0
 · have hleI:(L:Int)≤(i1:Int)+0:=by omega
   have hwL:jP.wrap ((L:Int)-1)=(L:Int)-1:=jH _ qJ;have hwL2:jP.wrap ((L:Int)-1-(i:Int))=(L:Int)-1-(i:Int):=jH _ qJ;have HVV:Hid (co=(none,(L:Int)-1-i)):=Hd qKp;clear hle;have hz5:=(((jU W.heap.size W).block _ HLW.o)).trans HC.o;obtain⟨z0,z0f⟩:=at_ hz5 0 (.int .i64 0) rfl;obtain⟨z1,z1f⟩:=at_ hz5 1 (.int .i64 0) rfl;clear hz5
   go_enter Tryz.func183,Tryz.ntmps183
   go_upto_region 1 with fail
   rw[HW.o]
   go_wp2_with(go_at_call 180;(with_reducible refine HF1.o.mono ?_);rintro e w2 ⟨rfl,rfl⟩)
   obtain⟨hr,hbe⟩:=HEND.o W (jU _ _) none (((L:Int)-1-i)) HVV.o _ rfl;exact qZ8
 · have hleI:¬(L:Int)≤(i1:Int)+0:=by omega
   have HVV:Hid (co=(none,1)):=Hd (by rw[HV.o,HNV.o,if_neg qKx,if_pos rfl]);clear hle;have hz5:=(((jU W.heap.size W).block _ HLW.o)).trans HC.o;obtain⟨z0,z0f⟩:=at_ hz5 0 (.int .i64 0) rfl;obtain⟨z1,z1f⟩:=at_ hz5 1 (.int .i64 0) rfl;clear hz5
   go_enter Tryz.func183,Tryz.ntmps183
   go_upto_region 1 with fail
   rw[HW.o]
   go_wp2_with(go_at_call 180;(with_reducible refine HF1.o.mono ?_);rintro e w2 ⟨rfl,rfl⟩)
   obtain⟨hr,hbe⟩:=HEND.o W (jU _ _) none (1) HVV.o _ rfl;exact qZ8
end
def qQc(l:List (List Int))(i:Nat):Option Col:=if 1<(l.getD i []).length then wN (l.getD i [])else(nT l i).1
def qQb(l:List (List Int))(i:Nat):Int:=if 1<(l.getD i []).length then(i:Int)+1 else(i:Int)+(nT l i).2+1
theorem UB{x:Int}:x≤255↔x<256:=by omega
theorem b3V_1(x:Int):b3V [x]=if x<256 then some ⟨1,max 0 x⟩else none:=by
 unfold b3V sW
 by_cases h:x<256
 · rw[if_pos h,if_pos (fun y hy=>by rw[jR.1 hy];omega)];simp
 · rw[if_neg h,if_neg (fun h'=>h (UB.1 (h' _ (jR.2 rfl))))]
theorem b3V_3(x y z:Int):b3V [x,y,z]=if x<256∧y<256∧z<256 then some ⟨2,65536*max 0 x+256*max 0 y+max 0 z⟩else none:=by
 unfold b3V sW
 by_cases h:x<256∧y<256∧z<256
 · rw[if_pos h,if_pos (fun u hu=>by simp at hu;rcases hu with rfl|rfl|rfl<;>omega),if_neg qV];simp only[List.foldl]
   congr 2
   omega
 · rw[if_neg h,if_neg (fun h'=>h ⟨UB.1 (h' _ qV),UB.1 (h' _ qV),UB.1 (h' _ qV)⟩)]
theorem drop3(g:List Int)(hl:g.length=5∨g.length=6):g.drop (g.length-3)=[g.getD (g.length-3) 0,g.getD (g.length-2) 0,g.getD (g.length-1) 0]:=by
 rcases hl with hl|hl
 · match g,hl with
   |[a,b,c,d,e],_=>rfl
 · match g,hl with
   |[a,b,c,d,e,f],_=>rfl
theorem and3{a b c:Prop}:(a∧b∧c)↔(c∧b∧a):=⟨fun h=>⟨h.2.2,h.2.1,h.1⟩,fun h=>⟨h.2.2,h.2.1,h.1⟩⟩
theorem qQx(l:List (List Int))(i:Nat)(h:1<(l.getD i []).length):eH l i=(wN (l.getD i []),i+1):=by
 unfold eH wN;simp only[];rw[if_pos h];generalize l.getD i []=g at h ⊢;rw[b3V_1]
 by_cases h5:g.getD 1 0=5∧g.length=3
 · obtain⟨h5,hl⟩:=h5;have h2:¬g.getD 1 0=2:=by omega
   rw[if_pos (c:=g.getD 1 0=5∧g.length=3) ⟨h5,hl⟩]
   by_cases h9:g.getD 2 0<256
   · rw[if_pos (c:=g.getD 1 0=5∧g.length=3∧g.getD 2 0<256) ⟨h5,hl,h9⟩,if_pos h9];rfl
   · rw[if_neg (c:=g.getD 1 0=5∧g.length=3∧g.getD 2 0<256) (fun h=>h9 h.2.2),if_neg h9,if_neg (fun h=>h2 h.1)]
 · rw[if_neg (c:=g.getD 1 0=5∧g.length=3∧g.getD 2 0<256) (fun h=>h5 ⟨h.1,h.2.1⟩),if_neg h5]
   by_cases h2:g.getD 1 0=2∧(g.length=5∨g.length=6)
   · rw[if_pos h2,drop3 g h2.2,b3V_3]
     by_cases h9:g.getD (g.length-3) 0<256∧g.getD (g.length-2) 0<256∧g.getD (g.length-1) 0<256
     · rw[if_pos ⟨h2.1,h2.2,and3.1 h9⟩,if_pos h9];rfl
     · rw[if_neg (fun h=>h9 (and3.1 h.2.2)),if_neg h9]
   · rw[if_neg h2,if_neg (fun h=>h2 ⟨h.1,h.2.1⟩)]
theorem mP(l:List (List Int))(i:Nat):0≤yG l i:=by unfold yG;omega
theorem qJj(l:List (List Int))(i:Nat)(hi:i<l.length)(h:¬1<(l.getD i []).length):
 (eH l i).1=(nT l i).1∧((((eH l i).2:Nat):Int)=i+(nT l i).2+1∨(l.length≤(eH l i).2∧(i:Int)+(nT l i).2+1=l.length)):=by
 unfold eH nT;simp only[];rw[if_neg h];have p2:=mP l (i+2);have p3:=mP l (i+3);have p4:=mP l (i+4)
 by_cases h5:yG l (i+1)=5
 · rw[if_pos h5];have hn:eS l i=1:=by unfold eS;rw[if_pos h5]
   rw[hn]
   by_cases hl:l.length≤i+1+1
   · rw[if_pos hl,if_neg (fun h=>by omega)];exact⟨rfl,.inr ⟨by omega,by simp only[];omega⟩⟩
   · rw[if_neg hl,if_neg (c:=(1:Nat)=0) qZ];have hv:bI l i 1=[yG l (i+2)]:=rfl;rw[hv];refine⟨?_,.inl (by simp only[];omega)⟩;rw[b3V_1]
     by_cases h9:yG l (i+2)<256
     · rw[if_pos ⟨by omega,h9⟩,if_pos h9];show some _=some _
       congr 2
       omega
     · rw[if_neg (fun h=>h9 h.2),if_neg h9]
 · rw[if_neg h5]
   by_cases h2:yG l (i+1)=2
   · rw[if_pos h2];have hn:eS l i=3:=by unfold eS;rw[if_neg h5,if_pos h2]
     rw[hn]
     by_cases hl:l.length≤i+1+3
     · rw[if_pos hl,if_neg (fun h=>by omega)];exact⟨rfl,.inr ⟨by omega,by simp only[];omega⟩⟩
     · rw[if_neg hl,if_neg (c:=(3:Nat)=0) qZ];have hv:bI l i 3=[yG l (i+2),yG l (i+3),yG l (i+4)]:=rfl;rw[hv];refine⟨?_,.inl (by simp only[];omega)⟩;rw[b3V_3]
       by_cases h9:yG l (i+2)<256∧yG l (i+3)<256∧yG l (i+4)<256
       · rw[if_pos ⟨by omega,h9⟩,if_pos h9];show some _=some _
         congr 2
         omega
       · rw[if_neg (fun h=>h9 h.2),if_neg h9]
   · rw[if_neg h2];have hn:eS l i=0:=by unfold eS;rw[if_neg h5,if_neg h2]
     rw[hn]
     by_cases hl:l.length≤i+1+0
     · rw[if_pos hl];exact⟨rfl,.inr ⟨by simp only[];omega,by simp only[];omega⟩⟩
     · rw[if_neg hl,if_pos rfl];exact⟨rfl,.inl (by simp only[];omega)⟩
def sP(a:Atr)(l:List (List Int))(i:Nat):Atr×Int:=
 if yG l i=38∨yG l i=48 then(tY a (yG l i) (qQc l i),qQb l i)else(nP a (yG l i) (l.getD i []),(i:Int)+1)
theorem XF(a:Atr)(l:List (List Int))(i:Nat)(hi:i<l.length):∃j:Nat,(sP a l i).2=j∧i<j∧j≤l.length∧cE l.length (sP a l i).1 l j=cE l.length a l i:=by
 rw[aT l a i hi];unfold sP eB
 by_cases h:yG l i=38∨yG l i=48
 · rw[if_pos h,if_pos h];unfold qQc qQb;simp only[]
   by_cases hg:1<(l.getD i []).length
   · rw[if_pos hg,if_pos hg,qQx l i hg];exact⟨i+1,by omega,by omega,by omega,rfl⟩
   · rw[if_neg hg,if_neg hg];obtain⟨e1,e2⟩:=qJj l i hi hg;rw[e1];have hm:i<(eH l i).2:=by
      have :=mO a l i;unfold eB at this;rw[if_pos h]at this;exact this
     rcases e2 with e2|⟨e2,e3⟩
     · by_cases hle:(eH l i).2≤l.length
       · exact⟨(eH l i).2,e2.symm,hm,hle,rfl⟩
       · exfalso;have hb:(i:Int)+(nT l i).2+1≤l.length:=by
          unfold nT
          split
          · simp only[];omega
          · split
            · simp only[];omega
            · simp only[];omega
         omega
     · exact⟨l.length,e3,hi,jS _,by rw[iM l _ _ _ (jS _),iM l _ _ _ e2]⟩
 · rw[if_neg h,if_neg h];exact⟨i+1,by simp only[];omega,by omega,by omega,rfl⟩
theorem UV(a:Atr)(v:Int)(c:Option Col):(tY a v c).fl=a.fl:=by
 unfold tY;cases c with
 |none=>rfl
 |some c=>simp only[];split<;>rfl
theorem Vu{a:Atr}(h:zZ a.fl)(v:Int)(g:List Int):zZ (nP a v g).fl:=by
 unfold nP
 split
 · exact⟨by decide,by decide⟩
 · exact h.flags v g
theorem V5{a:Atr}(h:zZ a.fl)(l:List (List Int))(i:Nat):zZ (sP a l i).1.fl:=by
 unfold sP
 split
 · show zZ (tY _ _ _).fl;rw[UV];exact h
 · exact Vu h _ _
theorem VO{a:Atr}(h:zZ a.fl)(l:List (List Int))(i:Nat):zZ (eB a l i).1.fl:=by
 unfold eB
 split
 · show zZ (tY _ _ _).fl;rw[UV];exact h
 · exact Vu h _ _
theorem VR(l:List (List Int)):∀(n:Nat) (a:Atr) (i:Nat),zZ a.fl→zZ (cE n a l i).fl
 |0,a,i,h=>h
 |n+1,a,i,h=>by
  unfold cE
  split
  · exact VR l n _ _ (VO h l i)
  · exact h
theorem simpA_4{a:Atr}(h:zZ a.fl)(g:List Int):nP a 4 g={a with fl:=bits .or .i64 (bits .andNot .i64 a.fl 264) (Qq g)}:=by
 rw[flags4 h];rfl
set_option maxHeartbeats 6400000 in
theorem VB(a:Atr)(w:World):Calls jG 184 #[.agg (aL a).toArray,.int .i64 0] w (fO zY w):=by
 obtain⟨fk,fn,bk,bn,fl⟩:=a;unfold aL
 go_enter Tryz.func184,Tryz.ntmps184
 go_wp2
 exact bodyPost_ret (bV rfl _ _ (w.heap.size+1) (aL zY) rfl (kA (kZ qV)) vN rfl pD) rfl ⟨rfl,jW (jW (jU _ _) _) _⟩
theorem qJk{a:Atr}(hf:zZ a.fl)(v:Int)(g:List Int)(w:World)(h4:v≠4)(hv:0≤v)(hv2:v≤65535):Calls jG 184 #[.agg (aL a).toArray,.int .i64 v] w (fO (nP a v g) w):=by
 by_cases h0:v=0
 · subst h0;exact VB a w
 · rw[←simpB_A hf v hv h0 h4 g];exact Zx a v w h0 hv hv2
theorem YJ(n:Int)(w:World):Calls jG 255 #[.int .i64 n] w fun e w'=>e=.returned (.int .i64 (dW n))∧w=w':=by
 unfold dW
 go_enter Tryz.func255,Tryz.ntmps255
 go_wp2
 all_goals
  go_ret
  refine⟨?_,rfl⟩;show Ending.returned (Value.int .i64 _)=_
  congr 2
  first
   |omega
   |(rename_i h1 h2;rw[if_neg qJ]at h1;omega)
theorem UH{w:World}{base:Nat}{e:TypeId}{A:Option Addr}{n c k:Nat}{X:List Value}(h:w.ownsRow base e 1 (.slice A n c) k X):n≤c:=by
 obtain⟨-,h|⟨g,cap,cur,h1,h2,h3,h4,h5,h6,h7⟩⟩:=h
 · simp only[Value.slice.injEq]at h;omega
 · simp only[Value.slice.injEq]at h1;omega
def UT(X:List Int)(w:World)(e:Ending)(w':World):Prop:=∃b off c:Nat,e=.returned (.slice (some ⟨b,off,none⟩) X.length c)∧pA zQ 1 w' (some ⟨b,off,none⟩) X∧X.length≤c∧w.heap.size≤b∧b<w'.heap.size∧Below w.heap.size w w'
section
variable {w:World}
set_option maxHeartbeats 3200000 in
theorem Xx{B:Option Addr}{g:List Int}(hG:pA zQ 1 w B g)(ca:Nat)(hca:g.length≤ca)(hz:g.length≤1000000):Calls jG 185 #[.slice B g.length ca] w (UT (cW g) w):=by
 obtain⟨j0,hj,gz0,gz1,gz2⟩:=info_parts oM
 by_cases h0:g.length=0
 · have hX:cW g=[-1]:=by unfold cW;rw[if_pos h0]
   rw[hX,h0];clear hG hX h0 hz hca
   go_enter Tryz.func185,Tryz.ntmps185
   go_wp2
   go_ret
   have hc:=kZ (W:=w) (b:=w.heap.size) (o:=.cells #[.int .i64 (-1)] 3) rfl;refine⟨w.heap.size,0,1,rfl,fun _=>⟨w.heap.size,0,rfl,fun i y hi j v hv=>?_⟩,jS _,jS _,kQ hc,jW (jU _ _) _⟩;have hi0:i=0:=by have :=(jE.1 hi).1;simpa using this
   subst hi0;obtain rfl:(-1:Int)=y:=by simpa using hi
   have hj0:j=0:=by have :=(jE.1 hv).1;simpa[zQ]using this
   subst hj0;obtain rfl:Value.int .i64 (-1)=v:=by simpa[zQ]using hv
   exact(at_ hc 0 _ rfl).1
 · obtain⟨b,off,rfl,-⟩:=dA hG (i:=0) qJ;have HC:Hid (∀i,i<g.length→w.cell? ⟨b,off+i,none⟩=some (.int .i64 (g.getD i 0))):=Hd (fun i hi=>by
    obtain⟨b',off',h1,h2⟩:=dA hG hi;injection h1 with h1
    injection h1 with e1 e2
    subst e1 e2;exact h2)
   obtain⟨X,hX⟩:∃X:Nat→List Int,X=fun k=>(g.take k).map dW:=⟨_,rfl⟩;have HXS:Hid (∀k,k<g.length→X (k+1)=X k++[dW (g.getD k 0)]):=Hd (fun k hk=>by rw[hX];simp only[];rw[vJ hk,gK];congr 2;rw[kP,jD hk];rfl);have HX0:Hid (X 0=[]):=Hd (by rw[hX];rfl);have HXE:Hid (X (min g.length 8)=cW g∧(X (min g.length 8)).length=min g.length 8):=Hd (by
    have e:g.take (min g.length 8)=g.take 8:=by rw[Nat.min_comm,←List.take_take,List.take_length]
    rw[hX];unfold cW;rw[if_neg h0];exact⟨by simp only[];rw[e],by simp⟩)
   rw[←HXE.o.1];obtain⟨L,hL⟩:∃L,g.length=L:=⟨_,rfl⟩;rw[hL]at h0 HC HXS HXE hca hz ⊢;obtain⟨M,hM⟩:∃M,min L 8=M:=⟨_,rfl⟩;rw[hM]at HXE ⊢;have hmI:(if(8:Int)<(L:Int)then(8:Int)else(L:Int))=(M:Int):=by by_cases h8:(8:Int)<(L:Int)<;>simp only[h8,if_true,if_false]<;>omega
   have h0q:((L:Int)==0)=false:=zb qJ;have hMI1:(0:Int)≤(M:Int):=by omega
   have hMI2:(M:Int)≤(ca:Int):=by omega
   have hM8:M≤8:=by omega
   have hML:M≤L:=by omega
   have hM0:0<M:=by omega
   have HM:=Hd (kM hM8 (kM hML (kM hca hM0)));clear hG hX hL hM h0 hz hM8 hML hca hM0
   go_enter Tryz.func185,Tryz.ntmps185
   go_upto_region 4 with fail
   refine wp_region_lit ?_;refine zG (.slice (some ⟨b,off,none⟩) L ca) ?_;refine zG (.slice (some ⟨b,off,none⟩) L ca) ?_;refine zGs (.int .i64 L) ?_;refine zGs (.int .i64 M) ?_;refine zGs (.slice (some ⟨b,off,none⟩) M ca) ?_;refine zGs (.int .i64 M) ?_;refine zG (.int .i64 0) ?_
   go_wp2_with fail
   go_loopw [3,16] (fun s3 s16 wr=>∃k:Nat,s16=.int .i64 k∧k≤M∧wr.ownsRow w.heap.size 3 1 s3 k (uS zQ (X k))∧Below w.heap.size w wr) (fun _ s16 _=>M-(intOf s16).toNat)
   case atStart=>exact⟨0,rfl,kT _,by rw[HX0.o];exact uE _ _ _ _,jU _ _⟩
   case round=>
    obtain⟨k,rfl,hk,hO,hB⟩:=hrel;obtain⟨bx,rfl⟩:∃bx:Value×Unit,u3=bx.1:=⟨(u3,()),rfl⟩;have HO:=Hd hO;have HB:=Hd hB;have hwk:jP.wrap ((k:Int)+1)=(k:Int)+1:=jH _ qK9;clear hO hB
    by_cases hlt:k<M
    · have hltI:(k:Int)<(M:Int):=by omega
      have hcell:=jA HB.o (HC.o k qK1);have HXK:=HXS.o k qK1;obtain⟨n,hn⟩:∃n,g.getD k 0=n:=⟨_,rfl⟩;rw[hn]at hcell HXK;have HP:=Hd (YJ n wr);have HXK:=Hd HXK;obtain⟨vj,hvj⟩:∃vj,dW n=vj:=⟨_,rfl⟩;rw[hvj]at HP HXK;have HSZ:=Hd HB.o.size;clear hn hvj
      go_upto_region 7 with fail
      refine wp_region_lit ?_;refine zG (bx.1) ?_;refine zG (.int .i64 n) ?_;refine gC rfl 255 #[.int .i64 n] qY HP.o (.int .i64 vj) (fun e w' h=>h.1) ?_;rintro w5 ⟨-,rfl⟩;refine zP ?_;have HO3:=Hd (uL HO.o (Mod.of_below (X:=[]) (jW (jU wr.heap.size wr) (.cells #[.int .i64 vj] 3))) (fun _ _ h=>by cases h));have HBX:=Hd (jW HB.o (.cells #[.int .i64 vj] 3));refine uM (.slice (some ⟨wr.heap.size,0,none⟩) 1 1) (wr.alloc (.cells #[.int .i64 vj] 3)) qK qY ?_;refine zP ?_;refine kO (o:=⟨some 24,_,_,_,_,_⟩) rfl (.tmp 20) (.tmp 23) 92 rfl w.heap.size 3 j0 _ 1 8 Tryz.underlying92 hj gz0 gz1 gz2 rfl qZ bx.1 k (uS zQ (X k)) rfl HO3.o ⟨wr.heap.size,0,none⟩ 1 1 [.int .i64 vj] rfl rfl (fun j u hj=>by rw[vZ,kB];exact(at_ (kZ rfl) j u qF).1) (eI _) qJv qJ qE ?_;intro v' w7 ho hg hv';have HO7:Hid (w7.ownsRow w.heap.size 3 1 v' (k+1) (uS zQ (X (k+1)))):=Hd (by rw[HXK.o,uC];exact ho);have HB7:=Hd (HBX.o.grown hg HBX.o.size (fun b hb=>(kK.lt (show kK _ _ _ _ _ _ _ from HO3.o) b hb).1));refine zP ?_;clear ho hg hv'
      go_wp2
      go_roundw
      case rel=>exact⟨k+1,by go_num,by omega,HO7.o,HB7.o⟩
      case measure=>exact zm
    · have hltI:¬(k:Int)<(M:Int):=by omega
      obtain rfl:k=M:=by omega
      obtain⟨b8,c8,hv8⟩:=gE HO.o HM.o.2.2.2;obtain⟨bv,bu⟩:=bx;simp only at hv8;subst hv8;have hgr:=cU (X:=X k) mD (by rw[HXE.o.2];exact HO.o);have hcc:=UH HO.o;have hlt8:=kK.lt (show kK _ _ _ _ _ _ _ from HO.o) b8 rfl
      go_wp2
      go_ret
      exact⟨b8,0,c8,by rw[HXE.o.2];rfl,hgr,by rw[HXE.o.2];exact hcc,hlt8.1,hlt8.2,HB.o⟩
end
def zR(st:List Bool):Nat→List Int
 |0=>[]
 |k+1=>if st.getD k false then zR st k++[(k:Int)]else zR st k
theorem mI(st:List Bool):∀k,(zR st k).length≤k
 |0=>jS _
 |k+1=>by
  have :=mI st k;unfold zR
  split
  · rw[jI];simp;omega
  · omega
def rM(X:List Int)(w:World)(e:Ending)(w':World):Prop:=∃(A:Option Addr) (c:Nat),e=.returned (.slice A X.length c)∧pA zQ 1 w' A X∧Below w.heap.size w w'
section
variable {base:Nat}{w:World}{T:Nat}{vw:Value}{ws:List Nat}{st:List Bool}
set_option maxHeartbeats 1600000 in
theorem Z3(h:TbO base w T vw ws st)(x:Nat)(hx:x<st.length):Calls jG 153 #[.pointer (some ⟨T,0,none⟩),.int .i64 x] w fun e w'=>e=.returned (.bool (st.getD x false))∧w=w':=by
 have HIN:=Hd (sD h x);have hin:(decide (0≤(x:Int))&&decide ((x:Int)<st.length))=true:=by simp;omega
 rw[hin]at HIN;clear hin;obtain⟨⟨x0,-⟩,-⟩:=h.cells;obtain⟨A,c,hv⟩:=h.vform;obtain⟨wd,hwd,hlt,hbit⟩:=nO h.wds hx;have hl:=(jE.1 hwd).1;have hle:=h.le;have hown:=h.own;rw[hv]at hown x0;obtain⟨g,rfl⟩:∃g,A=some ⟨g,0,none⟩:=mX hown qJ;obtain⟨y,-⟩:=pC hown (i:=x/64) (v:=.int .u64 wd) (sU hwd);have hhas:=wds_has hbit;obtain⟨k,hk⟩:∃k,x/64=k:=⟨_,rfl⟩;obtain⟨j,hj⟩:∃j,x%64=j:=⟨_,rfl⟩;rw[hk]at y hl;rw[hj]at hhas;have hq:jP.wrap ((x:Int)/64)=(k:Int):=by rw[jH _ qJ];omega
 have hkl:(k:Int)<(ws.length:Int):=by omega
 have hsh:=fun w'=>Vc jG w' (wd:=wd) hj;obtain⟨sv,hsv⟩:∃sv,wd/2 ^ j=sv:=⟨_,rfl⟩;have hslt:sv<18446744073709551616:=by rw[←hsv];exact Nat.lt_of_le_of_lt (Nat.div_le_self _ _) hlt
 have hsv2:(wd:Int)/2 ^ (x%64)=(sv:Int):=by rw[hj,←hsv];simp
 rw[hsv]at hhas;simp only[hsv]at hsh;have hand:bits .and .u64 (sv:Int) 1=((sv%2:Nat):Int):=by
  have :=u64_and_nat sv 1 hslt qZ;rw[Nat.and_one_is_mod]at this;exact this
 have hres:(((sv%2:Nat):Int)==1)=st.getD x false:=by
  rw[←hhas]
  by_cases h1:sv%2=1
  · rw[h1];rfl
  · rw[decide_eq_false h1];exact zb qJ
 generalize st.getD x false=r at hres ⊢;clear h hv hwd hlt hbit hown hj hsv hhas hle hl
 go_enter Tryz.func153,Tryz.ntmps153
 go_wp2_with(go_at_call 216;refine HIN.o.mono ?_;rintro e w1 ⟨rfl,rfl⟩)
 go_ret
 refine⟨?_,rfl⟩;show Ending.returned (Value.bool _)=_
 congr 2
 first
  |done
  |(rw[hand];exact hres)
  |(simp only[hand];exact hres)
set_option maxHeartbeats 3200000 in
theorem Uy(h:TbO base w T vw ws st):Calls jG 84 #[.pointer (some ⟨T,0,none⟩)] w (rM (zR st st.length) w):=by
 obtain⟨j0,hj,gz0,gz1,gz2⟩:=info_parts oM;have HN:=Hd (Jy h);have HHA:Hid (∀w',Below w.heap.size w w'→∀x:Nat,x<st.length→Calls jG 153 #[.pointer (some ⟨T,0,none⟩),.int .i64 x] w' fun e w2=>e=.returned (.bool (st.getD x false))∧w'=w2):=Hd (fun w' hb x hx=>Z3 (h.below hb) x hx);have hle:=h.le;obtain⟨n,hn⟩:∃n,st.length=n:=⟨_,rfl⟩;rw[hn]at HN HHA hle ⊢;have HNN:=Hd hle;clear h hn hle
 go_enter Tryz.func84,Tryz.ntmps84
 go_wp2_with(go_at_call 152;(with_reducible refine HN.o.mono ?_);rintro e w1 ⟨rfl,rfl⟩)
 go_loopw [3,4,7] (fun s3 _ s7 wr=>∃k:Nat,s7=.int .i64 k∧k≤n∧wr.ownsRow w.heap.size 3 1 s3 (zR st k).length (uS zQ (zR st k))∧Below w.heap.size w wr) (fun _ _ s7 _=>n-(intOf s7).toNat)
 case atStart=>exact⟨0,rfl,kT _,uE _ _ _ _,jU _ _⟩
 case round=>
  obtain⟨k,rfl,hk,hO,hB⟩:=hrel;obtain⟨bx,rfl⟩:∃bx:Value×Unit,u3=bx.1:=⟨(u3,()),rfl⟩;have HO:=Hd hO;have HB:=Hd hB;have hwk:jP.wrap ((k:Int)+1)=(k:Int)+1:=jH _ (by have :=HNN.o;omega);clear hO hB
  by_cases hlt:k<n
  rotate_left
  · have hltI:¬(k:Int)<(n:Int):=by omega
    obtain rfl:k=n:=by omega
    obtain⟨A8,c8,hv8⟩:=gU HO.o;obtain⟨bv,bu⟩:=bx;simp only at hv8;subst hv8;have HGR:=Hd (cU (X:=zR st k) mD HO.o);clear hlt HO
    go_wp2
    go_ret
    exact⟨A8,c8,rfl,HGR.o,HB.o⟩
  · have hltI:(k:Int)<(n:Int):=by omega
    have HH:=Hd (HHA.o wr HB.o k hlt);have HL:Hid ((zR st k).length≤k):=Hd (mI st k);have HX1:Hid (zR st (k+1)=if st.getD k false then zR st k++[(k:Int)]else zR st k):=Hd rfl;generalize zR st (k+1)=X1 at HX1;obtain⟨X,hX⟩:∃X,zR st k=X:=⟨_,rfl⟩;rw[hX]at HX1 HL HO;obtain⟨b,hb⟩:∃b,st.getD k false=b:=⟨_,rfl⟩;rw[hb]at HH HX1;have HXX:Hid (zR st (k+1)=if b then X++[(k:Int)]else X):=Hd (by rw[←hb,←hX];rfl);obtain⟨nl,hnl⟩:∃nl,X.length=nl:=⟨_,rfl⟩;rw[hnl]at HL HO;have HNL:=Hd hnl;have HSZ:=Hd HB.o.size;clear hX hb HX1 hnl;cases b
    · have HX2:Hid (zR st (k+1)=X):=Hd (by have h:=HXX.o;rw[if_neg qZ]at h;exact h)
      go_wp2_with(go_at_call 153;(with_reducible refine HH.o.mono ?_);rintro e w1 ⟨rfl,rfl⟩)
      go_roundw
      case rel=>exact⟨k+1,by go_num,by omega,by rw[HX2.o,HNL.o];exact HO.o,HB.o⟩
      case measure=>exact zm
    · have HX2:Hid (zR st (k+1)=X++[(k:Int)]):=Hd (by have h:=HXX.o;rw[if_pos rfl]at h;exact h)
      go_upto_region 6 with(go_at_call 153;(with_reducible refine HH.o.mono ?_);rintro e w1 ⟨rfl,rfl⟩)
      have HO3:=Hd (uL HO.o (Mod.of_below (X:=[]) (jW (jU wr.heap.size wr) (.cells #[.int .i64 k] 3))) (fun _ _ h=>by cases h));have HBX:=Hd (jW HB.o (.cells #[.int .i64 k] 3));refine wp_region_lit ?_;refine zG (bx.1) ?_;refine zG (.int .i64 k) ?_;refine uM (.slice (some ⟨wr.heap.size,0,none⟩) 1 1) (wr.alloc (.cells #[.int .i64 k] 3)) qK qY ?_;refine zP ?_;refine kO (o:=⟨some 16,_,_,_,_,_⟩) rfl (.tmp 13) (.tmp 15) 92 rfl w.heap.size 3 j0 _ 1 8 Tryz.underlying92 hj gz0 gz1 gz2 rfl qZ bx.1 nl (uS zQ X) rfl HO3.o ⟨wr.heap.size,0,none⟩ 1 1 [.int .i64 k] rfl rfl (fun j u hj=>by rw[vZ,kB];exact(at_ (kZ rfl) j u qF).1) (eI _) (by have :=HL.o;have :=HNN.o;simp only[maxLen];omega) (by have :=HL.o;have :=HNN.o;omega) qE ?_;intro v' w7 ho hg hv';have HO7:Hid (w7.ownsRow w.heap.size 3 1 v' (nl+1) (uS zQ (X++[(k:Int)]))):=Hd (by rw[uC];exact ho);have HB7:=Hd (HBX.o.grown hg HBX.o.size (fun b hb=>(kK.lt (show kK _ _ _ _ _ _ _ from HO3.o) b hb).1));refine zP ?_;clear ho hg hv'
      go_wp2
      go_roundw
      case rel=>exact⟨k+1,by go_num,by omega,by rw[HX2.o,jI,HNL.o];exact HO7.o,HB7.o⟩
      case measure=>exact zm
end
set_option maxHeartbeats 3200000 in
theorem WK(w:World)(A:Option Addr)(st:List Bool)(ca:Nat)(hA:pA fC 1 w A st)(hz:st.length≤1000):Calls jG 85 #[.slice A st.length ca] w (rM (zR st st.length) w):=by
 obtain⟨j0,hj,gz0,gz1,gz2⟩:=info_parts oM;have HGET:Hid (∀z:Nat,z<st.length→∃gs off,A=some ⟨gs,off,none⟩∧w.cell? ⟨gs,off+z,none⟩=some (.bool (st.getD z false))):=Hd (fun z hz=>by
  obtain⟨gs,off,rfl,hg⟩:=hA qJ;have :=hg z (st.getD z false) (by rw[kP,jD hz];rfl) 0 _ rfl;rw[Nat.mul_one,vO]at this;exact⟨gs,off,rfl,this⟩)
 obtain⟨n,hn⟩:∃n,st.length=n:=⟨_,rfl⟩;rw[hn]at HGET hz ⊢;have HNN:=Hd hz;clear hA hn hz
 go_enter Tryz.func85,Tryz.ntmps85
 go_wp2_with fail
 go_loopw [3,4] (fun s3 s4 wr=>∃k:Nat,s4=.int .i64 k∧k≤n∧wr.ownsRow w.heap.size 3 1 s3 (zR st k).length (uS zQ (zR st k))∧Below w.heap.size w wr) (fun _ s4 _=>n-(intOf s4).toNat)
 case atStart=>exact⟨0,rfl,kT _,uE _ _ _ _,jU _ _⟩
 case round=>
  obtain⟨k,rfl,hk,hO,hB⟩:=hrel;obtain⟨bx,rfl⟩:∃bx:Value×Unit,u3=bx.1:=⟨(u3,()),rfl⟩;have HO:=Hd hO;have HB:=Hd hB;have hwk:jP.wrap ((k:Int)+1)=(k:Int)+1:=jH _ (by have :=HNN.o;omega);clear hO hB
  by_cases hlt:k<n
  rotate_left
  · have hltI:¬(k:Int)<(n:Int):=by omega
    obtain rfl:k=n:=by omega
    obtain⟨A8,c8,hv8⟩:=gU HO.o;obtain⟨bv,bu⟩:=bx;simp only at hv8;subst hv8;have HGR:=Hd (cU (X:=zR st k) mD HO.o);clear hlt HO
    go_wp2
    go_ret
    exact⟨A8,c8,rfl,HGR.o,HB.o⟩
  · have hltI:(k:Int)<(n:Int):=by omega
    obtain⟨gs,off,rfl,hc⟩:=HGET.o k hlt;have hcell:=jA HB.o hc;have HL:Hid ((zR st k).length≤k):=Hd (mI st k);obtain⟨X,hX⟩:∃X,zR st k=X:=⟨_,rfl⟩;rw[hX]at HL HO;obtain⟨b,hb⟩:∃b,st.getD k false=b:=⟨_,rfl⟩;rw[hb]at hcell;have HXX:Hid (zR st (k+1)=if b then X++[(k:Int)]else X):=Hd (by rw[←hb,←hX];rfl);obtain⟨nl,hnl⟩:∃nl,X.length=nl:=⟨_,rfl⟩;rw[hnl]at HL HO;have HNL:=Hd hnl;have HSZ:=Hd HB.o.size;clear hX hb hnl hc;cases b
    · have HX2:Hid (zR st (k+1)=X):=Hd (by have h:=HXX.o;rw[if_neg qZ]at h;exact h)
      go_wp2
      go_roundw
      case rel=>exact⟨k+1,by go_num,by omega,by rw[HX2.o,HNL.o];exact HO.o,HB.o⟩
      case measure=>exact zm
    · have HX2:Hid (zR st (k+1)=X++[(k:Int)]):=Hd (by have h:=HXX.o;rw[if_pos rfl]at h;exact h)
      go_upto_region 6 with fail
      have HO3:=Hd (uL HO.o (Mod.of_below (X:=[]) (jW (jU wr.heap.size wr) (.cells #[.int .i64 k] 3))) (fun _ _ h=>by cases h));have HBX:=Hd (jW HB.o (.cells #[.int .i64 k] 3));refine wp_region_lit ?_;refine zG (bx.1) ?_;refine zG (.int .i64 k) ?_;refine uM (.slice (some ⟨wr.heap.size,0,none⟩) 1 1) (wr.alloc (.cells #[.int .i64 k] 3)) qK qY ?_;refine zP ?_;refine kO (o:=⟨some 18,_,_,_,_,_⟩) rfl (.tmp 15) (.tmp 17) 92 rfl w.heap.size 3 j0 _ 1 8 Tryz.underlying92 hj gz0 gz1 gz2 rfl qZ bx.1 nl (uS zQ X) rfl HO3.o ⟨wr.heap.size,0,none⟩ 1 1 [.int .i64 k] rfl rfl (fun j u hj=>by rw[vZ,kB];exact(at_ (kZ rfl) j u qF).1) (eI _) (by have :=HL.o;have :=HNN.o;simp only[maxLen];omega) (by have :=HL.o;have :=HNN.o;omega) qE ?_;intro v' w7 ho hg hv';have HO7:Hid (w7.ownsRow w.heap.size 3 1 v' (nl+1) (uS zQ (X++[(k:Int)]))):=Hd (by rw[uC];exact ho);have HB7:=Hd (HBX.o.grown hg HBX.o.size (fun b hb=>(kK.lt (show kK _ _ _ _ _ _ _ from HO3.o) b hb).1));refine zP ?_;clear ho hg hv' hcell
      go_wp2
      go_roundw
      case rel=>exact⟨k+1,by go_num,by omega,by rw[HX2.o,jI,HNL.o];exact HO7.o,HB7.o⟩
      case measure=>exact zm
set_option maxHeartbeats 1600000 in
theorem Y9(X:List Int)(A B:Option Addr)(ca cb:Nat)(w:World)(hA:pA zQ 1 w A X)(hB:pA zQ 1 w B X)(hz:X.length≤1000000):Calls jG 83 #[.slice A X.length ca,.slice B X.length cb] w fun e w'=>e=.returned (.bool true)∧Below w.heap.size w w':=by
 have HA:Hid (∀i,i<X.length→∃b off,A=some ⟨b,off,none⟩∧w.cell? ⟨b,off+i,none⟩=some (.int .i64 (X.getD i 0))):=Hd (fun i hi=>dA hA hi);have HB:Hid (∀i,i<X.length→∃b off,B=some ⟨b,off,none⟩∧w.cell? ⟨b,off+i,none⟩=some (.int .i64 (X.getD i 0))):=Hd (fun i hi=>dA hB hi);obtain⟨n,hn⟩:∃n,X.length=n:=⟨_,rfl⟩;rw[hn]at HA HB hz ⊢;clear hA hB hn
 go_enter Tryz.func83,Tryz.ntmps83
 go_wp2_with fail
 go_loopw [5] (fun s5 wr=>∃k:Nat,s5=.int .i64 k∧k≤n∧Below w.heap.size w wr) (fun s5 _=>n-(intOf s5).toNat)
 case atStart=>exact⟨0,rfl,kT _,jU _ _⟩
 case round=>
  obtain⟨k,rfl,hk,hB2⟩:=hrel;have HBW:=Hd hB2;have hwk:jP.wrap ((k:Int)+1)=(k:Int)+1:=jH _ qJ
  by_cases hlt:k<n
  rotate_left
  · have hltI:¬(k:Int)<(n:Int):=by omega
    clear hB2
    go_wp2
    go_ret
    exact⟨rfl,HBW.o⟩
  · have hltI:(k:Int)<(n:Int):=by omega
    obtain⟨b1,o1,rfl,h1⟩:=HA.o k hlt;obtain⟨b2,o2,rfl,h2⟩:=HB.o k hlt;have h1':=jA hB2 h1;have h2':=jA hB2 h2;generalize X.getD k 0=x at h1' h2';clear h1 h2 hB2
    go_upto_region 6 with fail
    refine zW2 8 h1' h2' fun w' hS=>?_;have HB8:=Hd (jN HBW.o hS.1);clear hS h1' h2'
    go_wp2
    go_roundw
    case rel=>exact⟨k+1,by go_num,by omega,HB8.o⟩
    case measure=>exact zm
end Go.Proofs.YtjcpdcncfjkejaaGreatDoor
