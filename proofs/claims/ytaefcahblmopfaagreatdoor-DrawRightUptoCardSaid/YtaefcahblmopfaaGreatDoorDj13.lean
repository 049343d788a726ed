/- Joined by a tool of this claim out of smaller texts. Conditions: as stated. -/
import Derived.Test.YtaefcahblmopfaaGreatDoorDj12
import Derived.Maps.AppendAt
set_option linter.unusedVariables false
set_option linter.unusedSimpArgs false
set_option maxRecDepth 100000
open Go.Lib renaming hid → Hd
open List renaming setIfInBounds_toArray → jZ, set_cons_zero → jX, set_cons_succ → jY, mem_singleton → jM, getElem?_eq_getElem → jN, getD_eq_getElem?_getD → kX, mem_append → kU, getElem?_map → uX
open Go.Proofs.Tryz renaming prog → jG
open Go.RowKit.Below renaming refl → jU
open Nat renaming le_refl → jD, zero_add → kP, add_zero → uA
open Go.World renaming ownsRow_nil → kS
namespace Go.Proofs.YtaefcahblmopfaaGreatDoor
open Go.RowKit
def YR(n:Nat):Int:=if n=2 then 192 else if n=3 then 224 else 240
def qKm(n:Nat):Int:=if n=2 then 32 else if n=3 then 16 else 8
def cC:Int→List Int→Int
 |r,[]=>r
 |r,y::ys=>if y<128∨191<y then -1 else cC (64*r+y-128) ys
def bL(xs:List Int):Int:=
 if xs.length=0∨4<xs.length then -1
 else if xs.length=1 then xs.headD 0
 else if xs.headD 0-YR xs.length<0∨qKm xs.length≤xs.headD 0-YR xs.length then -1
 else cC (xs.headD 0-YR xs.length) (xs.drop 1)
def nO(k:Nat):Int:=if k=1 then 32 else if k=2 then 2048 else if k=3 then 131072 else 8388608
theorem YC(ys:List Int):∀(r:Int) (k:Nat),1≤k→k+ys.length≤4→0≤r→r<nO k→ -1≤cC r ys∧cC r ys<8388608:=by
 induction ys with
 |nil=>
  intro r k h1 h2 h3 h4;simp only[cC];unfold nO at h4;refine⟨by omega,?_⟩
  split at h4
  · omega
  · split at h4
    · omega
    · split at h4<;>omega
 |cons y ys ih=>
  intro r k h1 h2 h3 h4;simp only[cC];rw[List.length_cons]at h2
  split
  · omega
  · refine ih _ (k+1) qJ qJ qJ ?_;unfold nO at h4 ⊢;obtain rfl|rfl|rfl:k=1∨k=2∨k=3:=by omega
    all_goals
     simp at h4 ⊢;omega
theorem oO(xs:List Int)(h:∀x∈xs,0≤x∧x<256): -1≤bL xs∧bL xs<8388608:=by
 unfold bL
 split
 · omega
 · split
   · have hx:xs.headD 0=0∨xs.headD 0∈xs:=by cases xs<;>simp
     rcases hx with hx|hx
     · omega
     · have :=h _ hx;omega
   · split
     · omega
     · refine YC _ _ 1 (jD _) qR qJ ?_;unfold nO;rw[if_pos rfl];have :qKm xs.length≤32:=by unfold qKm;split<;>(try split)<;>omega
       omega
def BsS(w:World)(g off:Nat)(xs:List Int):Prop:=∀i x,xs[i]? =some x→w.cell? ⟨g,off+i,none⟩=some (.int .u8 x)
theorem BsS.below{w w':World}{g off:Nat}{xs:List Int}(h:BsS w g off xs)(hb:Below w.heap.size w w'):BsS w' g off xs:=fun i x hx=>kZ hb (h i x hx)
theorem BsS.at_{w:World}{g off:Nat}{xs:List Int}(h:BsS w g off xs){i:Nat}(hi:i<xs.length):w.cell? ⟨g,off+i,none⟩=some (.int .u8 xs[i]):=h i _ (jN hi)
set_option maxHeartbeats 3200000 in
theorem cG(g off ca:Nat)(xs:List Int)(w:World)(hx:∀x∈xs,0≤x∧x<256)(h0:0<xs.length)(h4:xs.length≤4)(hb:BsS w g off xs):
 Calls jG 265 #[.slice (some ⟨g,off,none⟩) xs.length ca] w fun e w'=>e=.returned (.int .i32 (bL xs))∧Below w.heap.size w w':=by
 have hc0:=hb.at_ h0;have hh:xs.headD 0=xs[0]:=by cases xs<;>first|rfl|(simp at h0)
 have hr0:=hx _ (List.getElem_mem h0);rw[uA]at hc0
 by_cases h1:xs.length=1
 · have hv:bL xs=xs[0]:=by unfold bL;rw[if_neg qJ,if_pos h1,hh]
   rw[hv,h1];generalize xs[0]=x0 at hc0 hr0;have hw:IntKind.i32.wrap x0=x0:=IntWalk.i32_in _ qJ;clear hv hh
   go_enter Tryz.func265,Tryz.ntmps265
   go_wp2
   go_ret
   exact⟨rfl,jU _ _⟩
 · have hv:bL xs=if xs[0]-YR xs.length<0∨qKm xs.length≤xs[0]-YR xs.length then -1 else cC (xs[0]-YR xs.length) (xs.drop 1):=by unfold bL;rw[if_neg qJ,if_neg h1,hh]
   obtain⟨n,hn⟩:∃n,n=xs.length:=⟨_,rfl⟩;have HB:Hid (∀i,i<n→∃x,w.cell? ⟨g,off+i,none⟩=some (.int .u8 x)∧0≤x∧x<256∧xs.drop i=x::xs.drop (i+1)):=Hd (fun i hi=>⟨_,hb.at_ (i:=i) qJ,(hx _ (List.getElem_mem _)).1,(hx _ (List.getElem_mem _)).2,List.drop_eq_getElem_cons qJ⟩);have HDN:Hid (xs.drop n=[]):=Hd (by rw[hn];exact List.drop_length);clear hx hb hh;generalize xs[0]=x0 at hc0 hr0 hv;rw[←hn]at hv h0 h4 h1 ⊢;clear hn;have hlen:n=2∨n=3∨n=4:=by omega
   obtain⟨lo,hlo⟩:∃lo,YR n=lo:=⟨_,rfl⟩;obtain⟨lm,hlm⟩:∃lm,qKm n=lm:=⟨_,rfl⟩;rw[hlo,hlm]at hv;have hlc:(n=2∧lo=192∧lm=32)∨(n=3∧lo=224∧lm=16)∨(n=4∧lo=240∧lm=8):=by
    subst hlo hlm;rcases hlen with rfl|rfl|rfl
    · exact .inl ⟨rfl,rfl,rfl⟩
    · exact .inr (.inl ⟨rfl,rfl,rfl⟩)
    · exact .inr (.inr ⟨rfl,rfl,rfl⟩)
   clear hlo hlm;have hw1:IntKind.i32.wrap x0=x0:=IntWalk.i32_in _ qJ;have hw2:IntKind.i32.wrap (x0-lo)=x0-lo:=IntWalk.i32_in _ qJ;have hg:=uE hc0;have hgn:¬w.heap.size=g:=by omega
   have hgn2:¬g=w.heap.size:=by omega
   by_cases hA:x0-lo<0
   · rw[if_pos (.inl hA)]at hv;rw[hv];clear hv HB HDN hlen;rcases hlc with⟨rfl,rfl,rfl⟩|⟨rfl,rfl,rfl⟩|⟨rfl,rfl,rfl⟩
     all_goals
      go_enter Tryz.func265,Tryz.ntmps265
      go_wp2
      go_ret
      exact⟨rfl,by repeat(first|exact jU _ _|refine jH ?_ _)⟩
   · by_cases hC:lm≤x0-lo
     · rw[if_pos (.inr hC)]at hv;rw[hv];clear hv HB HDN hlen;rcases hlc with⟨rfl,rfl,rfl⟩|⟨rfl,rfl,rfl⟩|⟨rfl,rfl,rfl⟩
       all_goals
        go_enter Tryz.func265,Tryz.ntmps265
        go_wp2
        go_ret
        exact⟨rfl,by repeat(first|exact jU _ _|refine jH ?_ _)⟩
     · rw[if_neg qJ]at hv;have HV:=Hd hv;clear hv hlen;obtain⟨V,hV⟩:∃V,bL xs=V:=⟨_,rfl⟩;rw[hV]at HV ⊢;clear hV;have hA':0≤x0-lo:=by omega
       have hC':x0-lo<lm:=by omega
       have hfin:Hid (∀(W1 W2:World) (o1 o2:Obj),W1=(w.alloc o1).alloc o2→Below w.heap.size w W1):=Hd (fun W1 _ o1 o2 h=>h▸jH (jH (jU _ _) _) _);rcases hlc with⟨rfl,rfl,rfl⟩|⟨rfl,rfl,rfl⟩|⟨rfl,rfl,rfl⟩
       · go_enter Tryz.func265,Tryz.ntmps265
         go_wp2
         go_loopw [6,5] (fun i r wr=>∃(k:Nat) (rv:Int),1≤k∧k≤2∧i=.int .i64 k∧r=.int .i32 rv∧0≤rv∧rv<nO k∧Hid (V=cC rv (xs.drop k))∧Below w.heap.size w wr) (fun i _ _=>2-(intOf i).toNat)
         case atStart=>exact⟨1,_,jD _,by omega,rfl,rfl,hA',by unfold nO;rw[if_pos rfl];omega,HV,hfin.o _ w _ _ rfl⟩
         case round=>
          obtain⟨k,rv,hk1,hk2,rfl,rfl,hv0,hv1,HVk,hB⟩:=hrel
          by_cases hlt:k<2
          · obtain⟨x,hxc,hx0,hx1,hxd⟩:=HB.o k hlt;have hc:=kZ hB hxc;have HXD:=Hd hxd;clear hxc hxd;have hcap:rv<131072∧64*rv+x<8388864∧64*rv+64≤nO (k+1):=by
             unfold nO at hv1 ⊢;obtain rfl|rfl|rfl:k=1∨k=2∨k=3:=by omega
             all_goals
              simp at hv1 ⊢;omega
            obtain⟨hq1,hq2,hq3⟩:=hcap;have z1:IntKind.i32.wrap (64*rv)=64*rv:=IntWalk.i32_in _ qJ;have z2:IntKind.i32.wrap x=x:=IntWalk.i32_in _ qJ;have z3:IntKind.i32.wrap (64*rv+x)=64*rv+x:=IntWalk.i32_in _ qJ;have z4:IntKind.i32.wrap (64*rv+x-128)=64*rv+x-128:=IntWalk.i32_in _ qJ
            by_cases hl:x<128∨191<x
            · have hV:V= -1:=by rw[HVk.o,HXD.o];simp only[cC];rw[if_pos hl]
              have HVV:=Hd hV;clear hV hq1 hq2 hq3;rcases hl with hl|hl
              · go_wp2
                go_ret
                exact qXr
              · have hl2:¬x<128:=by omega
                go_wp2
                go_ret
                exact qXr
            · have hl1:¬x<128:=by omega
              have hl2:¬191<x:=by omega
              have HN2:Hid (V=cC (64*rv+x-128) (xs.drop (k+1))):=Hd qZj;clear hl
              go_wp2
              go_roundw
              case rel=>exact⟨k+1,_,by omega,by omega,by go_num,rfl,by omega,by omega,HN2,hB⟩
              case measure=>simp[intOf];omega
          · obtain rfl:k=2:=by omega
            go_wp2
            go_ret
            refine⟨?_,hB⟩;have :=HVk.o;rw[HDN.o]at this;rw[this];rfl
       · go_enter Tryz.func265,Tryz.ntmps265
         go_wp2
         go_loopw [6,5] (fun i r wr=>∃(k:Nat) (rv:Int),1≤k∧k≤3∧i=.int .i64 k∧r=.int .i32 rv∧0≤rv∧rv<nO k∧Hid (V=cC rv (xs.drop k))∧Below w.heap.size w wr) (fun i _ _=>3-(intOf i).toNat)
         case atStart=>exact⟨1,_,jD _,by omega,rfl,rfl,hA',by unfold nO;rw[if_pos rfl];omega,HV,hfin.o _ w _ _ rfl⟩
         case round=>
          obtain⟨k,rv,hk1,hk2,rfl,rfl,hv0,hv1,HVk,hB⟩:=hrel
          by_cases hlt:k<3
          · obtain⟨x,hxc,hx0,hx1,hxd⟩:=HB.o k hlt;have hc:=kZ hB hxc;have HXD:=Hd hxd;clear hxc hxd;have hcap:rv<131072∧64*rv+x<8388864∧64*rv+64≤nO (k+1):=by
             unfold nO at hv1 ⊢;obtain rfl|rfl|rfl:k=1∨k=2∨k=3:=by omega
             all_goals
              simp at hv1 ⊢;omega
            obtain⟨hq1,hq2,hq3⟩:=hcap;have z1:IntKind.i32.wrap (64*rv)=64*rv:=IntWalk.i32_in _ qJ;have z2:IntKind.i32.wrap x=x:=IntWalk.i32_in _ qJ;have z3:IntKind.i32.wrap (64*rv+x)=64*rv+x:=IntWalk.i32_in _ qJ;have z4:IntKind.i32.wrap (64*rv+x-128)=64*rv+x-128:=IntWalk.i32_in _ qJ
            by_cases hl:x<128∨191<x
            · have hV:V= -1:=by rw[HVk.o,HXD.o];simp only[cC];rw[if_pos hl]
              have HVV:=Hd hV;clear hV hq1 hq2 hq3;rcases hl with hl|hl
              · go_wp2
                go_ret
                exact qXr
              · have hl2:¬x<128:=by omega
                go_wp2
                go_ret
                exact qXr
            · have hl1:¬x<128:=by omega
              have hl2:¬191<x:=by omega
              have HN2:Hid (V=cC (64*rv+x-128) (xs.drop (k+1))):=Hd qZj;clear hl
              go_wp2
              go_roundw
              case rel=>exact⟨k+1,_,by omega,by omega,by go_num,rfl,by omega,by omega,HN2,hB⟩
              case measure=>simp[intOf];omega
          · obtain rfl:k=3:=by omega
            go_wp2
            go_ret
            refine⟨?_,hB⟩;have :=HVk.o;rw[HDN.o]at this;rw[this];rfl
       · go_enter Tryz.func265,Tryz.ntmps265
         go_wp2
         go_loopw [6,5] (fun i r wr=>∃(k:Nat) (rv:Int),1≤k∧k≤4∧i=.int .i64 k∧r=.int .i32 rv∧0≤rv∧rv<nO k∧Hid (V=cC rv (xs.drop k))∧Below w.heap.size w wr) (fun i _ _=>4-(intOf i).toNat)
         case atStart=>exact⟨1,_,jD _,by omega,rfl,rfl,hA',by unfold nO;rw[if_pos rfl];omega,HV,hfin.o _ w _ _ rfl⟩
         case round=>
          obtain⟨k,rv,hk1,hk2,rfl,rfl,hv0,hv1,HVk,hB⟩:=hrel
          by_cases hlt:k<4
          · obtain⟨x,hxc,hx0,hx1,hxd⟩:=HB.o k hlt;have hc:=kZ hB hxc;have HXD:=Hd hxd;clear hxc hxd;have hcap:rv<131072∧64*rv+x<8388864∧64*rv+64≤nO (k+1):=by
             unfold nO at hv1 ⊢;obtain rfl|rfl|rfl:k=1∨k=2∨k=3:=by omega
             all_goals
              simp at hv1 ⊢;omega
            obtain⟨hq1,hq2,hq3⟩:=hcap;have z1:IntKind.i32.wrap (64*rv)=64*rv:=IntWalk.i32_in _ qJ;have z2:IntKind.i32.wrap x=x:=IntWalk.i32_in _ qJ;have z3:IntKind.i32.wrap (64*rv+x)=64*rv+x:=IntWalk.i32_in _ qJ;have z4:IntKind.i32.wrap (64*rv+x-128)=64*rv+x-128:=IntWalk.i32_in _ qJ
            by_cases hl:x<128∨191<x
            · have hV:V= -1:=by rw[HVk.o,HXD.o];simp only[cC];rw[if_pos hl]
              have HVV:=Hd hV;clear hV hq1 hq2 hq3;rcases hl with hl|hl
              · go_wp2
                go_ret
                exact qXr
              · have hl2:¬x<128:=by omega
                go_wp2
                go_ret
                exact qXr
            · have hl1:¬x<128:=by omega
              have hl2:¬191<x:=by omega
              have HN2:Hid (V=cC (64*rv+x-128) (xs.drop (k+1))):=Hd qZj;clear hl
              go_wp2
              go_roundw
              case rel=>exact⟨k+1,_,by omega,by omega,by go_num,rfl,by omega,by omega,HN2,hB⟩
              case measure=>simp[intOf];omega
          · obtain rfl:k=4:=by omega
            go_wp2
            go_ret
            refine⟨?_,hB⟩;have :=HVk.o;rw[HDN.o]at this;rw[this];rfl
theorem Uw{w:World}{g off:Nat}{xs:List Int}(h:BsS w g off xs)(ca:Nat):(convert 23 9 (.slice (some ⟨g,off,none⟩) xs.length ca)).run jG w=.ok (.string (strOfNums xs)) w:=by
 refine run_convert_bytes_arg w 23 5 Tryz.underlying23 Tryz.underlying5 g off xs.length ca xs rfl (fun i hi=>?_) 9 Tryz.underlying9;rw[h.at_ hi,kX,jN hi];rfl
def XR(b:ByteArray)(v:Value)(w:World):Prop:=∃ys,nE w v ys∧strOfNums ys=b
theorem XR.pers(b:ByteArray)(v:Value):rD (XR b v):=fun w w' ⟨ys,h,e⟩ hb=>⟨ys,h.below hb,e⟩
theorem XR.conv{b:ByteArray}{v:Value}{w:World}(h:XR b v w):(convert 23 9 v).run jG w=.ok (.string b) w:=by
 obtain⟨ys,h,e⟩:=h;rw[rH h,e]
def UE(xs:List Int)(w:World)(e:Ending)(w':World):Prop:=∃t:Bool,e=.returned (.bool t)∧(t=true→0≤bL xs∧vD (bL xs)=strOfNums xs)∧Below w.heap.size w w'
set_option maxHeartbeats 3200000 in
theorem Uz(g off ca:Nat)(xs:List Int)(w:World)(hx:∀x∈xs,0≤x∧x<256)(h0:0<xs.length)(h4:xs.length≤4)(hb:BsS w g off xs):
 Calls jG 264 #[.slice (some ⟨g,off,none⟩) xs.length ca] w (UE xs w):=by
 have HN:=Hd (cG g off ca xs w hx h0 h4 hb);have HX:=Hd hb;have hrg:=oO xs hx;unfold UE;obtain⟨n,hn⟩:∃n,n=xs.length:=⟨_,rfl⟩;have HCV:Hid (∀w',BsS w' g off xs→(convert 23 9 (.slice (some ⟨g,off,none⟩) n ca)).run jG w'=.ok (.string (strOfNums xs)) w'):=Hd (fun w' h=>by rw[hn];exact Uw h ca);rw[←hn]at HN ⊢;clear hx hb hn h0 h4;generalize bL xs=v at HN hrg ⊢
 by_cases hv:v<0
 · obtain rfl:v= -1:=by omega
   go_enter Tryz.func264,Tryz.ntmps264
   go_upto_region 2 with(go_at_call 265;(with_reducible refine HN.o.mono ?_);rintro e w1 ⟨rfl,hb1⟩)
   refine gI 8 (fun w'=>Below w1.heap.size w1 w') qQ qQ ?_ ?_ ?_
   · exact fun w1 w2 hS hb=>jW hS hb
   · exact(jU _ _).drew
   refine AtN.go 0 ?_
   iterate 8 (refine AtC.take (o:=⟨_,_,_,_,_,_⟩) (v:=?_) qQ rfl qV qQ qQ ?_ ?_;rotate_left;(focus(first|(refine uQ.skip ?_;rfl)|(refine uQ.val qK ?_;intro w' hS;obtain hS0:=hS;go_simp;first|done|with_reducible rfl)));simp only[Act.put,jZ,jX,jY])
   refine AtC.back ?_;refine AtN.done qQ (fun w' hS=>?_)
   go_wp2
   go_ret
   exact⟨_,rfl,fun h=>by simp at h,jW hb1 hS⟩
 · have hv':0≤v:=by omega
   have HU:=Hd (fun w=>nY v w)
   go_enter Tryz.func264,Tryz.ntmps264
   go_upto_region 2 with(go_at_call 265;(with_reducible refine HN.o.mono ?_);rintro e w1 ⟨rfl,hb1⟩)
   refine gI 8 (fun w'=>Below w1.heap.size w1 w'∧BsS w' g off xs) qQ qQ ?_ ?_ ?_
   · exact fun w1 w2 hS hb=>⟨jW hS.1 hb,hS.2.below hb⟩
   · exact⟨(jU _ _).drew,HX.o.below ((jW hb1 (jU _ _).drew))⟩
   refine AtN.go 0 ?_
   iterate 4 (refine AtC.take (o:=⟨_,_,_,_,_,_⟩) (v:=?_) qQ rfl qV qQ qQ ?_ ?_;rotate_left;(focus(first|exact uQ.skip qK|(refine uQ.val qK ?_;intro w' hS;obtain⟨_,_⟩:=hS;go_simp;first|done|with_reducible rfl)));simp only[Act.put,jZ,jX,jY])
   refine AtC.back ?_;refine AtN.take 6 (o:=⟨_,_,_,_,_,_⟩) (v:=?_) qQ rfl qV qQ qQ ?_ ?_;rotate_left
   · first|exact uQ.skip qK|(refine uQ.val qK ?_;intro w' hS;obtain⟨_,_⟩:=hS;go_simp;first|done|with_reducible rfl)
   simp only[Act.put,jZ,jX,jY];refine AtN.take 7 (o:=⟨_,_,_,_,_,_⟩) (v:=.string (strOfNums xs)) qQ rfl qV qQ qQ (uQ.val qK (fun w' hS=>by have hcv:=HCV.o w' hS.2;go_simp)) ?_;simp only[Act.put,jZ,jX,jY];refine AtN.one 4 (o:=⟨_,_,_,_,_,_⟩) (fun _=>True) (XR (vD v)) qV qQ rfl (XR.pers _) (uQ.call 52 #[.int .i32 v] _ _ qK qH (fun w' hS=>(HU.o w').mono (fun e w2 ⟨u,ys,he,hu,hy,hb⟩=>⟨u,he,⟨trivial,ys,hu,hy⟩,hb⟩))) ?_;rintro U hU;simp only[Act.put,jZ,jX,jY];refine AtN.take 5 (o:=⟨_,_,_,_,_,_⟩) (v:=.string (vD v)) qQ rfl qV qQ qQ (uQ.val qK (fun w' hS=>by have hcv:=hS.2.conv;go_simp)) ?_;simp only[Act.put,jZ,jX,jY];refine AtN.done qQ (fun w' hS=>?_)
   go_wp2
   go_ret
   exact⟨_,rfl,fun h=>⟨hv',WideShapes.bytes_inj (by rw[←ByteArray.toList_eq,←ByteArray.toList_eq];simpa using h)⟩,jW hb1 hS.1.1⟩
section
variable {P:Program}
theorem bD{ops:Array Oper}{rest:List Oper}{o:Oper}{a:Act}{w:World}{Q:Exit→Act→World→Prop}(hgd:o.guard=none)(s x:Operand)(t:TypeId)
 (ho:o.op=.call {callee:=.builtin .append,args:=#[s,x],argTypes:=#[t,t]}) (base:Nat) (e:TypeId) (i:TypeInfo) (z:Value) (size bytes:Nat) (ht:P.underlying t=some (.slice e)) (hi:P.info? e=some i) (hz:i.zero=some z) (hsize:i.size=size) (hby:i.bytes=bytes) (hzs:z.cells.size=size) (hsz:0<size)
 (v:Value) (n:Nat) (xs:List Value) (hs:a.eval s=v) (hown:w.ownsRow base e size v n xs) (ad:Addr) (m c:Nat) (news:List Value) (hx:a.eval x=.slice (some ad) m c) (hl:news.length=m*size) (hnews:∀j u,news[j]? =some u→w.cell? (ad.add j)=some u) (h1:∀u∈news,u.oneCell'=true)
 (h63:n+m≤maxLen) (hbytes:(n+m)*bytes≤140737488355328) (hbase:base≤w.heap.size)
 (h:∀v' w',w'.ownsRow base e size v' (n+m) (xs++news)→w.grownBy w' v.ownBlock→(∀g,v'.ownBlock=some g→v.ownBlock=some g∨w.heap.size≤g)→wpList P ops Q rest (a.put o.dst v') w'):wpList P ops Q (o::rest) a w:=by
 obtain⟨v',w',hr,h2,h3,-,h4⟩:=run_append_own_at (P:=P) w base t o.type e i z size bytes ht hi hz hsize hby hzs hsz v n xs hown ad m c news hl hnews h1 h63 hbytes hbase;refine wpList_plain hgd fun K hK=>?_;unfold Oper.wp execOp;simp only[ho,resolve,invoke,builtin,Sem.run_bind,Sem.run_pure,Result.andThen_ok,List.map_toArray,List.map_cons,List.map_nil,hs,hx,hr];exact hK _ _ (h _ _ h2 h3 (fun g hg=>by
  rcases h4 with h4|h4
  · exact .inl (by rw[←h4];exact hg)
  · rw[h4]at hg;injection hg with hg;exact .inr qJ))
end
def XS(base:Nat)(w:World)(v:Value)(ys:List Int):Prop:=w.ownsRow base 5 1 v ys.length (ys.map (.int .u8))∧∀x∈ys,0≤x∧x<256
theorem BsS.src{w:World}{g off:Nat}{xs:List Int}(h:BsS w g off xs):∀j u,(xs.map (Value.int .u8))[j]? =some u→w.cell? ((⟨g,off,none⟩:Addr).add j)=some u:=fun j u hu=>by
 rw[uX]at hu;obtain⟨x,hx,rfl⟩:=Option.map_eq_some_iff.1 hu;rw[show(⟨g,off,none⟩:Addr).add j=⟨g,off+j,none⟩from by unfold Addr.add;split<;>simp_all];exact h j x hx
theorem qKd(xs:List Int):∀u∈xs.map (Value.int .u8),u.oneCell'=true:=fun u hu=>by
 obtain⟨x,_,rfl⟩:=List.mem_map.1 hu;rfl
theorem eX{base n:Nat}{w:World}{v:Value}{xs:List Value}(h:w.ownsRow base 5 1 v n xs)(h0:0<n):∃g c,v=.slice (some ⟨g,0,none⟩) n c∧g<w.heap.size∧base≤g:=by
 rcases h.2 with⟨rfl,h1⟩|⟨g,cap,cur,rfl,hb,hg,_⟩
 · omega
 · exact⟨g,cap,rfl,jR hg,hb⟩
theorem lW{B:Nat}{w w1 w2:World}(h:Below B w w1)(hg:w1.grownBy w2 none)(hB:B≤w1.heap.size):Below B w w2:=h.grown hg hB (fun k e=>by cases e)
def TwoB(W:World)(k:Nat)(a b:Value)(w:World):Prop:=∃(m g1 c1 g2 c2:Nat) (ys zs:List Int),a=.slice (some ⟨g1,0,none⟩) m c1∧b=.slice (some ⟨g2,0,none⟩) m c2∧ys.length=m∧zs.length=m∧XS W.heap.size w a ys∧XS W.heap.size w b zs∧g1≠g2∧0<m∧m≤k∧Below W.heap.size W w
theorem JP{B y1 y2 n n1 d1 d2:Nat}{w w1:World}{o:Obj}{ys zs:List Int}{x:Int}{v1:Value}(hy:XS B w (.slice (some ⟨y1,0,none⟩) n1 d1) ys)(hz:XS B w (.slice (some ⟨y2,0,none⟩) n d2) zs)(hne:y1≠y2)(hl:y2<w.heap.size)(hb1:B≤y1)(hB:B≤w.heap.size)(hx:0≤x∧x<256)
 (ho1:w1.ownsRow B 5 1 v1 (ys.length+1) (ys.map (Value.int .u8)++[.int .u8 x])) (hg1:(w.alloc o).grownBy w1 (some y1)) (hd1:∀g,v1.ownBlock=some g→some y1=some g∨(w.alloc o).heap.size≤g):
 ∃g1 c1,v1=.slice (some ⟨g1,0,none⟩) (ys.length+1) c1∧XS B w1 v1 (ys++[x])∧XS B w1 (.slice (some ⟨y2,0,none⟩) n d2) zs∧g1≠y2∧Below B w w1∧g1<w1.heap.size∧B≤g1:=by
 obtain⟨g1,c1,rfl,hl1,hbb⟩:=eX ho1 qJ;refine⟨g1,c1,rfl,⟨by simpa using ho1,fun u hu=>?_⟩,⟨kD (xB hz.1 ((jU _ w).alloc (jD _) o)) (Mod.of_grown (X:=[y1]) hg1 (fun g e=>by cases e;simp)) (fun g e hm=>?_),hz.2⟩,fun e=>?_,((jU B w).alloc hB o).grown hg1 qY (fun k e=>by cases e;exact hb1),hl1,hbb⟩
 · rcases kU.1 hu with h|h
   · exact hy.2 u h
   · rw[jM.1 h];exact hx
 · obtain rfl:y2=g:=by simpa[Value.ownBlock]using e
   have hm':y2=y1:=by simpa using hm
   exact hne hm'.symm
 · subst e;rcases hd1 g1 rfl with h|h
   · cases h;exact hne rfl
   · simp at h;omega
theorem XS.bss{B y n c:Nat}{w:World}{ys:List Int}(h:XS B w (.slice (some ⟨y,0,none⟩) n c) ys):BsS w y 0 ys:=fun i x hx=>by
 have h2:=h.1.cells (g:=y) rfl i (.int .u8 x) (by simp[hx]);rw[kP]
 rwa[show(⟨y,0,none⟩:Addr).add i=⟨y,i,none⟩from by unfold Addr.add;split<;>simp_all]at h2
def dW(k:Nat)(x:Int):Value→World→Prop
 | .slice (some a) _ _,w=>w.cell? ⟨a.block,k,none⟩=some (.int .i32 x)
 |_,_=>False
theorem dW.pers(k:Nat)(x:Int)(v:Value):rD (dW k x v):=fun w w' h hb=>by
 cases v<;>first|exact h.elim|skip
 rename_i a _ _
 cases a<;>first|exact h.elim|exact kZ hb h
def XE(w:World)(e:Ending)(w':World):Prop:=(∃t:Bool,e=.returned (.bool t))∧Below w.heap.size w w'
set_option maxHeartbeats 3200000 in
theorem Vw(g off ca:Nat)(xs:List Int)(w:World)(hx:∀x∈xs,0≤x∧x<256)(h0:0<xs.length)(h3:xs.length≤3)(hb:BsS w g off xs):
 Calls jG 266 #[.slice (some ⟨g,off,none⟩) xs.length ca] w (XE w):=by
 obtain⟨i0,hi,hz0,hz1,hz2⟩:=info_parts Jn;have HB:=Hd hb;have HX:=Hd hx;have hp:(0:Int)<xs.length:=by omega
 clear hb hx
 go_enter Tryz.func266,Tryz.ntmps266
 go_wp2_with fail
 go_loopw [3] (fun n wr=>∃k:Nat,xs.length<k∧k≤5∧n=.int .i64 k∧Below w.heap.size w wr) (fun n _=>6-(intOf n).toNat)
 case atStart=>exact⟨xs.length+1,by omega,by omega,by go_num,jU _ _⟩
 case round=>
  obtain⟨k,hk1,hk2,rfl,hB⟩:=hrel
  by_cases hlt:k≤4
  · have HA1:=Hd (rfl:(1:Nat)=1);have HA2:=Hd (rfl:(2:Nat)=2);have HBk:=Hd (HB.o.below hB);have HBB:=Hd hB;clear hB
    go_upto_region 5 with fail
    have hn1:=kS wr w.heap.size 5 1
    go_wp2_with(first
     |(at_builtin;have t1:=HA1;clear HA1;refine bD rfl _ _ 23 rfl w.heap.size 5 i0 (.int .u8 0) 1 1 Tryz.underlying23 hi hz0 hz1 hz2 rfl qZ _ 0 _ rfl hn1 ⟨g,off,none⟩ xs.length ca (xs.map (Value.int .u8)) rfl qV HBk.o.src (qKd xs) qG qJ HBB.o.size ?_;intro v1 w1 ho1 hg1 hd1;rw[kP,List.nil_append]at ho1;obtain⟨g1,c1,rfl,hl1,hbb1⟩:=eX ho1 h0;have HB1:=Hd (lW HBB.o hg1 HBB.o.size);have HK1:=Hd (HBk.o.below (lW (jU _ _) hg1 (jD _)));have hn2:=kS w1 w.heap.size 5 1;have HO1:=Hd ho1;clear ho1 hg1 hd1 hn1)
     |(at_builtin;have t2:=HA2;clear HA2;refine bD rfl _ _ 23 rfl w.heap.size 5 i0 (.int .u8 0) 1 1 Tryz.underlying23 hi hz0 hz1 hz2 rfl qZ _ 0 _ rfl hn2 ⟨g,off,none⟩ xs.length ca (xs.map (Value.int .u8)) rfl qV HK1.o.src (qKd xs) qG qJ HB1.o.size ?_;intro v2 w2 ho2 hg2 hd2;rw[kP,List.nil_append]at ho2;obtain⟨g2,c2,rfl,hl2,hbb2⟩:=eX ho2 h0;have hne:g1≠g2:=(hd2 g2 rfl).elim (fun e=>by cases e) (fun e=>by omega);have HT:=Hd (⟨xs.length,g1,c1,g2,c2,xs,xs,rfl,rfl,rfl,rfl,⟨xB HO1.o (lW (jU _ _) hg2 (jD _)),HX.o⟩,⟨ho2,HX.o⟩,hne,h0,by omega,lW HB1.o hg2 HB1.o.size⟩:TwoB w k (.slice (some ⟨g1,0,none⟩) xs.length c1) (.slice (some ⟨g2,0,none⟩) xs.length c2) w2);clear ho2 hg2 hd2 hn2 hne))
    go_loopw [4,5] (fun a b wr2=>TwoB w k a b wr2) (fun a _ _=>5-(match a with | .slice _ n _=>n|_=>0))
    case atStart=>exact HT.o
    case round=>
     obtain⟨m,y1,d1,y2,d2,ys,zs,rfl,rfl,hy,hz,hoy,hoz,hne,hm0,hmk,hB2⟩:=hrel;subst hy;have hly:y1<wr.heap.size∧w.heap.size≤y1:=by
      obtain⟨_,_,e,h1,h2⟩:=eX hoy.1 hm0;simp only[Value.slice.injEq,Option.some.injEq,Addr.mk.injEq]at e;obtain⟨⟨rfl,-⟩,-⟩:=e;exact⟨h1,h2⟩
     have hlz:y2<wr.heap.size∧w.heap.size≤y2:=by
      obtain⟨_,_,e,h1,h2⟩:=eX hoz.1 qJ;simp only[Value.slice.injEq,Option.some.injEq,Addr.mk.injEq]at e;obtain⟨⟨rfl,-⟩,-⟩:=e;exact⟨h1,h2⟩
     by_cases hml:ys.length<k
     · have HA3:=Hd (rfl:(1:Nat)=1);have HA4:=Hd (rfl:(2:Nat)=2);have hz3:zs.length≤4:=by omega
       have HZ:=Hd hz;have HOY:=Hd hoy;have HOZ:=Hd hoz;have HBX:=Hd hB2;have hoy1:=hoy.1.alloc (.cells #[.int .u8 128] 5);clear hoy hoz hz hB2
       go_wp2_with(first
        |(at_builtin;have t3:=HA3;clear HA3;refine bD rfl _ _ 23 rfl w.heap.size 5 i0 (.int .u8 0) 1 1 Tryz.underlying23 hi hz0 hz1 hz2 rfl qZ _ ys.length _ rfl hoy1 ⟨wr.heap.size,0,none⟩ 1 1 [.int .u8 128] rfl rfl (cell_one_new _ _ _) qZd qG qJ (by have :=HBX.o.size;simp;omega) ?_;intro v1 w1 ho1 hg1 hd1;obtain⟨g1,c1,rfl,hn1,hn2,hn3,hn4,hn5,hn6⟩:=JP HOY.o HOZ.o hne hlz.1 hly.2 HBX.o.size qJ ho1 hg1 hd1;have HN1:=Hd hn1;have HN2:=Hd hn2;have HB4:=Hd hn4;have hoz1:=hn2.1.alloc (.cells #[.int .u8 191] 5);clear ho1 hg1 hd1 hn1 hn2 hn4 hoy1)
        |(at_builtin;have t4:=HA4;clear HA4;refine bD rfl _ _ 23 rfl w.heap.size 5 i0 (.int .u8 0) 1 1 Tryz.underlying23 hi hz0 hz1 hz2 rfl qZ _ zs.length _ rfl hoz1 ⟨w1.heap.size,0,none⟩ 1 1 [.int .u8 191] rfl rfl (cell_one_new _ _ _) qZd qG qJ (by have :=HBX.o.size;have :=HB4.o.size;simp;omega) ?_;intro v2 w2' ho2 hg2 hd2))
       obtain⟨g2',c2',rfl,hm1,hm2,hm3,hm4,hm5,hm6⟩:=JP HN2.o HN1.o (fun e=>hn3 e.symm) hn5 (by have :=HB4.o.size;omega) (by have :=HBX.o.size;have :=HB4.o.size;omega) qJ ho2 hg2 hd2;rw[HZ.o]at hm1 ⊢
       go_roundw
       case rel=>exact⟨ys.length+1,g1,c1,g2',c2',ys++[128],zs++[191],rfl,rfl,by simp,by simp[HZ.o],hm2,hm1,hm3.symm,by omega,by omega,(HBX.o.trans HB4.o).trans hm4⟩
       case measure=>simp;omega
     · -- THE ROWS ARE FULL
       have hyk:ys.length=k:=by omega
       have hzk:zs.length=k:=by omega
       have HN1:=Hd (cG y1 0 d1 ys wr hoy.2 hm0 qJ hoy.bss);have HZS:=Hd hoz.bss;have HN2:Hid (∀w',Below wr.heap.size wr w'→Calls jG 265 #[.slice (some ⟨y2,0,none⟩) zs.length d2] w' fun e w2=>e=.returned (.int .i32 (bL zs))∧Below w'.heap.size w' w2):=Hd (fun w' hb=>cG y2 0 d2 zs w' hoz.2 qJ qJ (HZS.o.below hb));have hr1:=oO ys hoy.2;have hr2:=oO zs hoz.2;have HBI:=Hd hB2;rw[hyk]at HN1 ⊢;rw[hzk]at HN2;clear hyk hzk hoy hoz hz hB2 hmk;generalize bL ys=lo at HN1 hr1;generalize bL zs=hi' at HN2 hr2;have hk4:k=2∨k=3∨k=4:=by omega
       clear hml hm0
       by_cases hneg:lo<0∨hi'<0
       · rcases hneg with hneg|hneg
         · go_wp2_with(first|(go_at_call 265;(with_reducible refine HN1.o.mono ?_);rintro e w3 ⟨rfl,hb3⟩)|(go_at_call 265;(with_reducible refine(HN2.o _ hb3).mono ?_);rintro e w4 ⟨rfl,hb4⟩))
           go_roundw
           case rel=>exact⟨k+1,by omega,by omega,by go_num,jW (jW HBI.o hb3) hb4⟩
           case measure=>simp[intOf];omega
         · by_cases hl0:lo<0
           · go_wp2_with(first|(go_at_call 265;(with_reducible refine HN1.o.mono ?_);rintro e w3 ⟨rfl,hb3⟩)|(go_at_call 265;(with_reducible refine(HN2.o _ hb3).mono ?_);rintro e w4 ⟨rfl,hb4⟩))
             go_roundw
             case rel=>exact⟨k+1,by omega,by omega,by go_num,jW (jW HBI.o hb3) hb4⟩
             case measure=>simp[intOf];omega
           · go_wp2_with(first|(go_at_call 265;(with_reducible refine HN1.o.mono ?_);rintro e w3 ⟨rfl,hb3⟩)|(go_at_call 265;(with_reducible refine(HN2.o _ hb3).mono ?_);rintro e w4 ⟨rfl,hb4⟩))
             go_roundw
             case rel=>exact⟨k+1,by omega,by omega,by go_num,jW (jW HBI.o hb3) hb4⟩
             case measure=>simp[intOf];omega
       · have hl0:¬lo<0:=by omega
         have hh0:¬hi'<0:=by omega
         clear hneg;rcases hk4 with rfl|rfl|rfl
         · go_upto_region 10 with(first|(go_at_call 265;(with_reducible refine HN1.o.mono ?_);rintro e w3 ⟨rfl,hb3⟩)|(go_at_call 265;(with_reducible refine(HN2.o _ hb3).mono ?_);rintro e w4 ⟨rfl,hb4⟩))
           refine gI 9 (fun w'=>Below w4.heap.size w4 w') qQ qQ (fun w1 w2 hS hb=>jW hS hb) (jU _ _).drew ?_;refine AtN.take 1 (o:=⟨_,_,_,_,_,_⟩) (v:=?_) qQ rfl qV qQ qQ ?_ ?_;rotate_left
           · first|exact uQ.skip qK|(refine uQ.val qK ?_;intro w' hS;obtain hS0:=hS;go_simp;first|done|with_reducible rfl)
           simp only[Act.put,jZ,jX,jY];refine AtN.take 5 (o:=⟨_,_,_,_,_,_⟩) (v:=?_) qQ rfl qV qQ qQ ?_ ?_;rotate_left
           · first|exact uQ.skip qK|(refine uQ.val qK ?_;intro w' hS;obtain hS0:=hS;go_simp;first|done|with_reducible rfl)
           simp only[Act.put,jZ,jX,jY];have HFIN:Hid (∀w5,Below w4.heap.size w4 w5→Below w.heap.size w w5):=Hd (fun w5 h=>jW (jW (jW HBI.o hb3) hb4) h);refine AtN.two 0 4 _ _ _ _ qV qV qQ rfl rfl (dW.pers _ _) (dW.pers _ _) (uQ.new (fun v=>∃g,v=.slice (some ⟨g,0,none⟩) 5 5) (dW 2 128) qK (fun w' hS=>⟨_,_,by go_simp;first|done|rfl,⟨_,rfl⟩,(at_ (jT (W:=w') (o:=.cells #[.int .i32 0,.int .i32 0,.int .i32 128,.int .i32 2048,.int .i32 65536] 21) rfl) 2 _ rfl).1,(jU _ _).alloc (jD _) _⟩)) (uQ.new (fun v=>∃g,v=.slice (some ⟨g,0,none⟩) 5 5) (dW 2 2047) qK (fun w' hS=>⟨_,_,by go_simp;first|done|rfl,⟨_,rfl⟩,(at_ (jT (W:=w') (o:=.cells #[.int .i32 0,.int .i32 0,.int .i32 2047,.int .i32 65535,.int .i32 1114111] 21) rfl) 2 _ rfl).1,(jU _ _).alloc (jD _) _⟩)) ?_ ?_
           · rintro _ ⟨g1,rfl⟩;simp only[Act.put,jZ,jX,jY];refine AtN.take 2 (o:=⟨_,_,_,_,_,_⟩) (v:=?_) qQ rfl qV qQ qQ ?_ ?_;rotate_left
             · refine uQ.val qK ?_;intro w' hS;have hc:w'.cell? ⟨g1,2,none⟩=some (.int .i32 128):=hS.2;go_simp;first|done|with_reducible rfl
             simp only[Act.put,jZ,jX,jY];refine AtN.take 3 (o:=⟨_,_,_,_,_,_⟩) (v:=?_) qQ rfl qV qQ qQ ?_ ?_;rotate_left
             · refine uQ.val qK ?_;intro w' hS;have hc:w'.cell? ⟨g1,2,none⟩=some (.int .i32 128):=hS.2;go_simp;first|done|with_reducible rfl
             simp only[Act.put,jZ,jX,jY];refine AtN.take 8 (o:=⟨_,_,_,_,_,_⟩) (v:=?_) qQ rfl qV qQ qQ ?_ ?_;rotate_left
             · first|exact uQ.skip qK|(refine uQ.val qK ?_;intro w' hS;obtain hS0:=hS;go_simp;first|done|with_reducible rfl)
             simp only[Act.put,jZ,jX,jY];refine AtN.one 4 (o:=⟨_,_,_,_,_,_⟩) _ _ qV qQ rfl (dW.pers _ _) (uQ.new (fun v=>∃g,v=.slice (some ⟨g,0,none⟩) 5 5) (dW 2 2047) qK (fun w' hS=>⟨_,_,by go_simp;first|done|rfl,⟨_,rfl⟩,(at_ (jT (W:=w') (o:=.cells #[.int .i32 0,.int .i32 0,.int .i32 2047,.int .i32 65535,.int .i32 1114111] 21) rfl) 2 _ rfl).1,(jU _ _).alloc (jD _) _⟩)) ?_;rintro _ ⟨g2,rfl⟩;simp only[Act.put,jZ,jX,jY];refine AtN.take 6 (o:=⟨_,_,_,_,_,_⟩) (v:=?_) qQ rfl qV qQ qQ ?_ ?_;rotate_left
             · refine uQ.val qK ?_;intro w' hS;have hc:w'.cell? ⟨g2,2,none⟩=some (.int .i32 2047):=hS.2;go_simp;first|done|with_reducible rfl
             simp only[Act.put,jZ,jX,jY];refine AtN.take 7 (o:=⟨_,_,_,_,_,_⟩) (v:=?_) qQ rfl qV qQ qQ ?_ ?_;rotate_left
             · refine uQ.val qK ?_;intro w' hS;have hc:w'.cell? ⟨g2,2,none⟩=some (.int .i32 2047):=hS.2;go_simp;first|done|with_reducible rfl
             simp only[Act.put,jZ,jX,jY];refine AtN.done qQ (fun w' hS=>?_);have HB9:=Hd (HFIN.o _ hS.1.1);clear hS
             go_wp2
             all_goals
              first
              |(go_ret;exact⟨⟨_,rfl⟩,HB9.o⟩)
              |(go_roundw
                case rel=>exact⟨3,by omega,by omega,by go_num,HB9.o⟩
                case measure=>simp[intOf])
           · rintro _ ⟨g1,rfl⟩;simp only[Act.put,jZ,jX,jY];refine AtN.take 6 (o:=⟨_,_,_,_,_,_⟩) (v:=?_) qQ rfl qV qQ qQ ?_ ?_;rotate_left
             · refine uQ.val qK ?_;intro w' hS;have hc:w'.cell? ⟨g1,2,none⟩=some (.int .i32 2047):=hS.2;go_simp;first|done|with_reducible rfl
             simp only[Act.put,jZ,jX,jY];refine AtN.take 7 (o:=⟨_,_,_,_,_,_⟩) (v:=?_) qQ rfl qV qQ qQ ?_ ?_;rotate_left
             · refine uQ.val qK ?_;intro w' hS;have hc:w'.cell? ⟨g1,2,none⟩=some (.int .i32 2047):=hS.2;go_simp;first|done|with_reducible rfl
             simp only[Act.put,jZ,jX,jY];refine AtN.one 0 (o:=⟨_,_,_,_,_,_⟩) _ _ qV qQ rfl (dW.pers _ _) (uQ.new (fun v=>∃g,v=.slice (some ⟨g,0,none⟩) 5 5) (dW 2 128) qK (fun w' hS=>⟨_,_,by go_simp;first|done|rfl,⟨_,rfl⟩,(at_ (jT (W:=w') (o:=.cells #[.int .i32 0,.int .i32 0,.int .i32 128,.int .i32 2048,.int .i32 65536] 21) rfl) 2 _ rfl).1,(jU _ _).alloc (jD _) _⟩)) ?_;rintro _ ⟨g2,rfl⟩;simp only[Act.put,jZ,jX,jY];refine AtN.take 2 (o:=⟨_,_,_,_,_,_⟩) (v:=?_) qQ rfl qV qQ qQ ?_ ?_;rotate_left
             · refine uQ.val qK ?_;intro w' hS;have hc:w'.cell? ⟨g2,2,none⟩=some (.int .i32 128):=hS.2;go_simp;first|done|with_reducible rfl
             simp only[Act.put,jZ,jX,jY];refine AtN.take 3 (o:=⟨_,_,_,_,_,_⟩) (v:=?_) qQ rfl qV qQ qQ ?_ ?_;rotate_left
             · refine uQ.val qK ?_;intro w' hS;have hc:w'.cell? ⟨g2,2,none⟩=some (.int .i32 128):=hS.2;go_simp;first|done|with_reducible rfl
             simp only[Act.put,jZ,jX,jY];refine AtN.take 8 (o:=⟨_,_,_,_,_,_⟩) (v:=?_) qQ rfl qV qQ qQ ?_ ?_;rotate_left
             · first|exact uQ.skip qK|(refine uQ.val qK ?_;intro w' hS;obtain hS0:=hS;go_simp;first|done|with_reducible rfl)
             simp only[Act.put,jZ,jX,jY];refine AtN.done qQ (fun w' hS=>?_);have HB9:=Hd (HFIN.o _ hS.1.1);clear hS
             go_wp2
             all_goals
              first
              |(go_ret;exact⟨⟨_,rfl⟩,HB9.o⟩)
              |(go_roundw
                case rel=>exact⟨3,by omega,by omega,by go_num,HB9.o⟩
                case measure=>simp[intOf])
         · go_upto_region 10 with(first|(go_at_call 265;(with_reducible refine HN1.o.mono ?_);rintro e w3 ⟨rfl,hb3⟩)|(go_at_call 265;(with_reducible refine(HN2.o _ hb3).mono ?_);rintro e w4 ⟨rfl,hb4⟩))
           refine gI 9 (fun w'=>Below w4.heap.size w4 w') qQ qQ (fun w1 w2 hS hb=>jW hS hb) (jU _ _).drew ?_;refine AtN.take 1 (o:=⟨_,_,_,_,_,_⟩) (v:=?_) qQ rfl qV qQ qQ ?_ ?_;rotate_left
           · first|exact uQ.skip qK|(refine uQ.val qK ?_;intro w' hS;obtain hS0:=hS;go_simp;first|done|with_reducible rfl)
           simp only[Act.put,jZ,jX,jY];refine AtN.take 5 (o:=⟨_,_,_,_,_,_⟩) (v:=?_) qQ rfl qV qQ qQ ?_ ?_;rotate_left
           · first|exact uQ.skip qK|(refine uQ.val qK ?_;intro w' hS;obtain hS0:=hS;go_simp;first|done|with_reducible rfl)
           simp only[Act.put,jZ,jX,jY];have HFIN:Hid (∀w5,Below w4.heap.size w4 w5→Below w.heap.size w w5):=Hd (fun w5 h=>jW (jW (jW HBI.o hb3) hb4) h);refine AtN.two 0 4 _ _ _ _ qV qV qQ rfl rfl (dW.pers _ _) (dW.pers _ _) (uQ.new (fun v=>∃g,v=.slice (some ⟨g,0,none⟩) 5 5) (dW 3 2048) qK (fun w' hS=>⟨_,_,by go_simp;first|done|rfl,⟨_,rfl⟩,(at_ (jT (W:=w') (o:=.cells #[.int .i32 0,.int .i32 0,.int .i32 128,.int .i32 2048,.int .i32 65536] 21) rfl) 3 _ rfl).1,(jU _ _).alloc (jD _) _⟩)) (uQ.new (fun v=>∃g,v=.slice (some ⟨g,0,none⟩) 5 5) (dW 3 65535) qK (fun w' hS=>⟨_,_,by go_simp;first|done|rfl,⟨_,rfl⟩,(at_ (jT (W:=w') (o:=.cells #[.int .i32 0,.int .i32 0,.int .i32 2047,.int .i32 65535,.int .i32 1114111] 21) rfl) 3 _ rfl).1,(jU _ _).alloc (jD _) _⟩)) ?_ ?_
           · rintro _ ⟨g1,rfl⟩;simp only[Act.put,jZ,jX,jY];refine AtN.take 2 (o:=⟨_,_,_,_,_,_⟩) (v:=?_) qQ rfl qV qQ qQ ?_ ?_;rotate_left
             · refine uQ.val qK ?_;intro w' hS;have hc:w'.cell? ⟨g1,3,none⟩=some (.int .i32 2048):=hS.2;go_simp;first|done|with_reducible rfl
             simp only[Act.put,jZ,jX,jY];refine AtN.take 3 (o:=⟨_,_,_,_,_,_⟩) (v:=?_) qQ rfl qV qQ qQ ?_ ?_;rotate_left
             · refine uQ.val qK ?_;intro w' hS;have hc:w'.cell? ⟨g1,3,none⟩=some (.int .i32 2048):=hS.2;go_simp;first|done|with_reducible rfl
             simp only[Act.put,jZ,jX,jY];refine AtN.take 8 (o:=⟨_,_,_,_,_,_⟩) (v:=?_) qQ rfl qV qQ qQ ?_ ?_;rotate_left
             · first|exact uQ.skip qK|(refine uQ.val qK ?_;intro w' hS;obtain hS0:=hS;go_simp;first|done|with_reducible rfl)
             simp only[Act.put,jZ,jX,jY];refine AtN.one 4 (o:=⟨_,_,_,_,_,_⟩) _ _ qV qQ rfl (dW.pers _ _) (uQ.new (fun v=>∃g,v=.slice (some ⟨g,0,none⟩) 5 5) (dW 3 65535) qK (fun w' hS=>⟨_,_,by go_simp;first|done|rfl,⟨_,rfl⟩,(at_ (jT (W:=w') (o:=.cells #[.int .i32 0,.int .i32 0,.int .i32 2047,.int .i32 65535,.int .i32 1114111] 21) rfl) 3 _ rfl).1,(jU _ _).alloc (jD _) _⟩)) ?_;rintro _ ⟨g2,rfl⟩;simp only[Act.put,jZ,jX,jY];refine AtN.take 6 (o:=⟨_,_,_,_,_,_⟩) (v:=?_) qQ rfl qV qQ qQ ?_ ?_;rotate_left
             · refine uQ.val qK ?_;intro w' hS;have hc:w'.cell? ⟨g2,3,none⟩=some (.int .i32 65535):=hS.2;go_simp;first|done|with_reducible rfl
             simp only[Act.put,jZ,jX,jY];refine AtN.take 7 (o:=⟨_,_,_,_,_,_⟩) (v:=?_) qQ rfl qV qQ qQ ?_ ?_;rotate_left
             · refine uQ.val qK ?_;intro w' hS;have hc:w'.cell? ⟨g2,3,none⟩=some (.int .i32 65535):=hS.2;go_simp;first|done|with_reducible rfl
             simp only[Act.put,jZ,jX,jY];refine AtN.done qQ (fun w' hS=>?_);have HB9:=Hd (HFIN.o _ hS.1.1);clear hS
             go_wp2
             all_goals
              first
              |(go_ret;exact⟨⟨_,rfl⟩,HB9.o⟩)
              |(go_roundw
                case rel=>exact⟨4,by omega,by omega,by go_num,HB9.o⟩
                case measure=>simp[intOf])
           · rintro _ ⟨g1,rfl⟩;simp only[Act.put,jZ,jX,jY];refine AtN.take 6 (o:=⟨_,_,_,_,_,_⟩) (v:=?_) qQ rfl qV qQ qQ ?_ ?_;rotate_left
             · refine uQ.val qK ?_;intro w' hS;have hc:w'.cell? ⟨g1,3,none⟩=some (.int .i32 65535):=hS.2;go_simp;first|done|with_reducible rfl
             simp only[Act.put,jZ,jX,jY];refine AtN.take 7 (o:=⟨_,_,_,_,_,_⟩) (v:=?_) qQ rfl qV qQ qQ ?_ ?_;rotate_left
             · refine uQ.val qK ?_;intro w' hS;have hc:w'.cell? ⟨g1,3,none⟩=some (.int .i32 65535):=hS.2;go_simp;first|done|with_reducible rfl
             simp only[Act.put,jZ,jX,jY];refine AtN.one 0 (o:=⟨_,_,_,_,_,_⟩) _ _ qV qQ rfl (dW.pers _ _) (uQ.new (fun v=>∃g,v=.slice (some ⟨g,0,none⟩) 5 5) (dW 3 2048) qK (fun w' hS=>⟨_,_,by go_simp;first|done|rfl,⟨_,rfl⟩,(at_ (jT (W:=w') (o:=.cells #[.int .i32 0,.int .i32 0,.int .i32 128,.int .i32 2048,.int .i32 65536] 21) rfl) 3 _ rfl).1,(jU _ _).alloc (jD _) _⟩)) ?_;rintro _ ⟨g2,rfl⟩;simp only[Act.put,jZ,jX,jY];refine AtN.take 2 (o:=⟨_,_,_,_,_,_⟩) (v:=?_) qQ rfl qV qQ qQ ?_ ?_;rotate_left
             · refine uQ.val qK ?_;intro w' hS;have hc:w'.cell? ⟨g2,3,none⟩=some (.int .i32 2048):=hS.2;go_simp;first|done|with_reducible rfl
             simp only[Act.put,jZ,jX,jY];refine AtN.take 3 (o:=⟨_,_,_,_,_,_⟩) (v:=?_) qQ rfl qV qQ qQ ?_ ?_;rotate_left
             · refine uQ.val qK ?_;intro w' hS;have hc:w'.cell? ⟨g2,3,none⟩=some (.int .i32 2048):=hS.2;go_simp;first|done|with_reducible rfl
             simp only[Act.put,jZ,jX,jY];refine AtN.take 8 (o:=⟨_,_,_,_,_,_⟩) (v:=?_) qQ rfl qV qQ qQ ?_ ?_;rotate_left
             · first|exact uQ.skip qK|(refine uQ.val qK ?_;intro w' hS;obtain hS0:=hS;go_simp;first|done|with_reducible rfl)
             simp only[Act.put,jZ,jX,jY];refine AtN.done qQ (fun w' hS=>?_);have HB9:=Hd (HFIN.o _ hS.1.1);clear hS
             go_wp2
             all_goals
              first
              |(go_ret;exact⟨⟨_,rfl⟩,HB9.o⟩)
              |(go_roundw
                case rel=>exact⟨4,by omega,by omega,by go_num,HB9.o⟩
                case measure=>simp[intOf])
         · go_upto_region 10 with(first|(go_at_call 265;(with_reducible refine HN1.o.mono ?_);rintro e w3 ⟨rfl,hb3⟩)|(go_at_call 265;(with_reducible refine(HN2.o _ hb3).mono ?_);rintro e w4 ⟨rfl,hb4⟩))
           refine gI 9 (fun w'=>Below w4.heap.size w4 w') qQ qQ (fun w1 w2 hS hb=>jW hS hb) (jU _ _).drew ?_;refine AtN.take 1 (o:=⟨_,_,_,_,_,_⟩) (v:=?_) qQ rfl qV qQ qQ ?_ ?_;rotate_left
           · first|exact uQ.skip qK|(refine uQ.val qK ?_;intro w' hS;obtain hS0:=hS;go_simp;first|done|with_reducible rfl)
           simp only[Act.put,jZ,jX,jY];refine AtN.take 5 (o:=⟨_,_,_,_,_,_⟩) (v:=?_) qQ rfl qV qQ qQ ?_ ?_;rotate_left
           · first|exact uQ.skip qK|(refine uQ.val qK ?_;intro w' hS;obtain hS0:=hS;go_simp;first|done|with_reducible rfl)
           simp only[Act.put,jZ,jX,jY];have HFIN:Hid (∀w5,Below w4.heap.size w4 w5→Below w.heap.size w w5):=Hd (fun w5 h=>jW (jW (jW HBI.o hb3) hb4) h);refine AtN.two 0 4 _ _ _ _ qV qV qQ rfl rfl (dW.pers _ _) (dW.pers _ _) (uQ.new (fun v=>∃g,v=.slice (some ⟨g,0,none⟩) 5 5) (dW 4 65536) qK (fun w' hS=>⟨_,_,by go_simp;first|done|rfl,⟨_,rfl⟩,(at_ (jT (W:=w') (o:=.cells #[.int .i32 0,.int .i32 0,.int .i32 128,.int .i32 2048,.int .i32 65536] 21) rfl) 4 _ rfl).1,(jU _ _).alloc (jD _) _⟩)) (uQ.new (fun v=>∃g,v=.slice (some ⟨g,0,none⟩) 5 5) (dW 4 1114111) qK (fun w' hS=>⟨_,_,by go_simp;first|done|rfl,⟨_,rfl⟩,(at_ (jT (W:=w') (o:=.cells #[.int .i32 0,.int .i32 0,.int .i32 2047,.int .i32 65535,.int .i32 1114111] 21) rfl) 4 _ rfl).1,(jU _ _).alloc (jD _) _⟩)) ?_ ?_
           · rintro _ ⟨g1,rfl⟩;simp only[Act.put,jZ,jX,jY];refine AtN.take 2 (o:=⟨_,_,_,_,_,_⟩) (v:=?_) qQ rfl qV qQ qQ ?_ ?_;rotate_left
             · refine uQ.val qK ?_;intro w' hS;have hc:w'.cell? ⟨g1,4,none⟩=some (.int .i32 65536):=hS.2;go_simp;first|done|with_reducible rfl
             simp only[Act.put,jZ,jX,jY];refine AtN.take 3 (o:=⟨_,_,_,_,_,_⟩) (v:=?_) qQ rfl qV qQ qQ ?_ ?_;rotate_left
             · refine uQ.val qK ?_;intro w' hS;have hc:w'.cell? ⟨g1,4,none⟩=some (.int .i32 65536):=hS.2;go_simp;first|done|with_reducible rfl
             simp only[Act.put,jZ,jX,jY];refine AtN.take 8 (o:=⟨_,_,_,_,_,_⟩) (v:=?_) qQ rfl qV qQ qQ ?_ ?_;rotate_left
             · first|exact uQ.skip qK|(refine uQ.val qK ?_;intro w' hS;obtain hS0:=hS;go_simp;first|done|with_reducible rfl)
             simp only[Act.put,jZ,jX,jY];refine AtN.one 4 (o:=⟨_,_,_,_,_,_⟩) _ _ qV qQ rfl (dW.pers _ _) (uQ.new (fun v=>∃g,v=.slice (some ⟨g,0,none⟩) 5 5) (dW 4 1114111) qK (fun w' hS=>⟨_,_,by go_simp;first|done|rfl,⟨_,rfl⟩,(at_ (jT (W:=w') (o:=.cells #[.int .i32 0,.int .i32 0,.int .i32 2047,.int .i32 65535,.int .i32 1114111] 21) rfl) 4 _ rfl).1,(jU _ _).alloc (jD _) _⟩)) ?_;rintro _ ⟨g2,rfl⟩;simp only[Act.put,jZ,jX,jY];refine AtN.take 6 (o:=⟨_,_,_,_,_,_⟩) (v:=?_) qQ rfl qV qQ qQ ?_ ?_;rotate_left
             · refine uQ.val qK ?_;intro w' hS;have hc:w'.cell? ⟨g2,4,none⟩=some (.int .i32 1114111):=hS.2;go_simp;first|done|with_reducible rfl
             simp only[Act.put,jZ,jX,jY];refine AtN.take 7 (o:=⟨_,_,_,_,_,_⟩) (v:=?_) qQ rfl qV qQ qQ ?_ ?_;rotate_left
             · refine uQ.val qK ?_;intro w' hS;have hc:w'.cell? ⟨g2,4,none⟩=some (.int .i32 1114111):=hS.2;go_simp;first|done|with_reducible rfl
             simp only[Act.put,jZ,jX,jY];refine AtN.done qQ (fun w' hS=>?_);have HB9:=Hd (HFIN.o _ hS.1.1);clear hS
             go_wp2
             all_goals
              first
              |(go_ret;exact⟨⟨_,rfl⟩,HB9.o⟩)
              |(go_roundw
                case rel=>exact⟨5,by omega,by omega,by go_num,HB9.o⟩
                case measure=>simp[intOf])
           · rintro _ ⟨g1,rfl⟩;simp only[Act.put,jZ,jX,jY];refine AtN.take 6 (o:=⟨_,_,_,_,_,_⟩) (v:=?_) qQ rfl qV qQ qQ ?_ ?_;rotate_left
             · refine uQ.val qK ?_;intro w' hS;have hc:w'.cell? ⟨g1,4,none⟩=some (.int .i32 1114111):=hS.2;go_simp;first|done|with_reducible rfl
             simp only[Act.put,jZ,jX,jY];refine AtN.take 7 (o:=⟨_,_,_,_,_,_⟩) (v:=?_) qQ rfl qV qQ qQ ?_ ?_;rotate_left
             · refine uQ.val qK ?_;intro w' hS;have hc:w'.cell? ⟨g1,4,none⟩=some (.int .i32 1114111):=hS.2;go_simp;first|done|with_reducible rfl
             simp only[Act.put,jZ,jX,jY];refine AtN.one 0 (o:=⟨_,_,_,_,_,_⟩) _ _ qV qQ rfl (dW.pers _ _) (uQ.new (fun v=>∃g,v=.slice (some ⟨g,0,none⟩) 5 5) (dW 4 65536) qK (fun w' hS=>⟨_,_,by go_simp;first|done|rfl,⟨_,rfl⟩,(at_ (jT (W:=w') (o:=.cells #[.int .i32 0,.int .i32 0,.int .i32 128,.int .i32 2048,.int .i32 65536] 21) rfl) 4 _ rfl).1,(jU _ _).alloc (jD _) _⟩)) ?_;rintro _ ⟨g2,rfl⟩;simp only[Act.put,jZ,jX,jY];refine AtN.take 2 (o:=⟨_,_,_,_,_,_⟩) (v:=?_) qQ rfl qV qQ qQ ?_ ?_;rotate_left
             · refine uQ.val qK ?_;intro w' hS;have hc:w'.cell? ⟨g2,4,none⟩=some (.int .i32 65536):=hS.2;go_simp;first|done|with_reducible rfl
             simp only[Act.put,jZ,jX,jY];refine AtN.take 3 (o:=⟨_,_,_,_,_,_⟩) (v:=?_) qQ rfl qV qQ qQ ?_ ?_;rotate_left
             · refine uQ.val qK ?_;intro w' hS;have hc:w'.cell? ⟨g2,4,none⟩=some (.int .i32 65536):=hS.2;go_simp;first|done|with_reducible rfl
             simp only[Act.put,jZ,jX,jY];refine AtN.take 8 (o:=⟨_,_,_,_,_,_⟩) (v:=?_) qQ rfl qV qQ qQ ?_ ?_;rotate_left
             · first|exact uQ.skip qK|(refine uQ.val qK ?_;intro w' hS;obtain hS0:=hS;go_simp;first|done|with_reducible rfl)
             simp only[Act.put,jZ,jX,jY];refine AtN.done qQ (fun w' hS=>?_);have HB9:=Hd (HFIN.o _ hS.1.1);clear hS
             go_wp2
             all_goals
              first
              |(go_ret;exact⟨⟨_,rfl⟩,HB9.o⟩)
              |(go_roundw
                case rel=>exact⟨5,by omega,by omega,by go_num,HB9.o⟩
                case measure=>simp[intOf])
  · go_wp2
    go_ret
    exact⟨⟨_,rfl⟩,hB⟩
end Go.Proofs.YtaefcahblmopfaaGreatDoor
