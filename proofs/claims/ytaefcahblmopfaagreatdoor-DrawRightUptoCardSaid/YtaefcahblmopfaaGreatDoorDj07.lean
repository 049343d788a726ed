/- Joined by a tool of this claim out of smaller texts. Conditions: as stated. -/
import Derived.Test.YtaefcahblmopfaaGreatDoorDj06
set_option linter.unusedVariables false
set_option linter.unusedSimpArgs false
set_option maxRecDepth 100000
open Go.Lib renaming hid → Hd
open List renaming setIfInBounds_toArray → jZ, set_cons_zero → jX, set_cons_succ → jY, mem_singleton → jM, getElem?_eq_getElem → jN, getElem?_eq_some_iff → jP, length_append → jC, drop_succ_cons → jL, take_succ_cons → jS, drop_zero → jO, take_succ_eq_append_getElem → kQ, mem_cons → kJ, take_zero → kK, append_assoc → kG, replicate → kN, length_take → kC, length_set → uV, getElem?_eq_none → uZ, getElem?_map → uX, length_replicate → uG, take_of_length_le → vY, ext_getElem? → gM
open Go.Proofs.Tryz renaming prog → jG
open Go.RowKit.Below renaming refl → jU
open Nat renaming le_refl → jD, zero_le → kM, add_zero → uA
open Go.IntWalk renaming i64_in → jF
open Go.IntKind renaming i64 → jE
open And renaming intro → kY
open Array renaming getElem?_eq_some_iff → kB
open Go.World renaming setCell → uN
namespace Go.Proofs.YtaefcahblmopfaaGreatDoor
open Go.RowKit
theorem fU{w:World}{base g n cap:Nat}{SL:List Rh}(h:w.ownsRow base 52 2 (.slice (some ⟨g,0,none⟩) n cap) n (uM yG SL)){i:Nat}(hi:i<SL.length)(r:Rh):
 ((w.setCell ⟨g,i*2,none⟩ (.slice r.A r.cs.length r.cap)).setCell ⟨g,i*2+1,none⟩ (.bool r.cont)).ownsRow base 52 2 (.slice (some ⟨g,0,none⟩) n cap) n (uM yG (SL.set i r)):=by
 have hx:SL[i]? =some SL[i]:=jN hi;have h1:=cA h (i*2) (.slice r.A r.cs.length r.cap);have h2:=cA h1 (i*2+1) (.bool r.cont);have e1:((uM yG SL).set (i*2) (.slice r.A r.cs.length r.cap)).set (i*2+1) (.bool r.cont)=uM yG (SL.set i r):=by
  have a1:=cO bH SL i SL[i] {r with cont:=SL[i].cont} 0 (.slice r.A r.cs.length r.cap) hx qZ rfl;rw[uA]at a1;rw[a1];have a2:=cO bH (SL.set i {r with cont:=SL[i].cont}) i {r with cont:=SL[i].cont} r 1 (.bool r.cont) (by simp[List.getElem?_set_self hi]) qZ rfl;rw[a2,List.set_set]
 rw[e1]at h2;exact h2
theorem zK{w:World}{base g n cap:Nat}{SL:List Rh}(h:w.ownsRow base 52 2 (.slice (some ⟨g,0,none⟩) n cap) n (uM yG SL)){i:Nat}{r:Rh}(hr:SL[i]? =some r):
 (w.cell? ⟨g,i*2,none⟩=some (.slice r.A r.cs.length r.cap)∧w.frozen? ⟨g,i*2,none⟩=false)∧w.cell? ⟨g,i*2+1,none⟩=some (.bool r.cont)∧w.frozen? ⟨g,i*2+1,none⟩=false:=by
 have h0:=gS h (i:=i*2+0) (by rw[yN bH SL i r 0 hr qZ];rfl);have h1:=gS h (i:=i*2+1) (by rw[yN bH SL i r 1 hr qZ];rfl);rw[uA]at h0;exact⟨h0,h1⟩
theorem yK{X:List Nat}{w w1:World}{b o:Nat}{u v:Value}(h:Mod X w w1)(hb:b∈X∨w.heap.size≤b):Mod X w ((w1.setCell ⟨b,o,none⟩ u).setCell ⟨b,o+1,none⟩ v):=(h.setCell (a:=⟨b,o,none⟩) hb u).setCell (a:=⟨b,o+1,none⟩) hb v
section
variable {base:Nat}{w:World}{R:Nat}{vl:Value}{SL:List Rh}{room first n:Nat}{gone:Int}
theorem RgO.slots(h:RgO base w R vl SL room first n gone)(hf:first < SL.length):∃g c,vl=.slice (some ⟨g,0,none⟩) SL.length c∧g≠R∧g<w.heap.size∧R<w.heap.size:=by
 obtain⟨g,c,rfl⟩:=gH h.own qJ;exact⟨g,c,rfl,h.ne rfl,(h.own.lt g rfl).2,(kB.1 h.blk).1⟩
def qV3(base:Nat)(w:World)(R:Nat)(vl:Value)(SL:List Rh)(room first n:Nat)(gone:Int)(e:Ending)(w':World):Prop:=
 (∃r:Rh,e=.returned (.agg #[.slice r.A r.cs.length r.cap,.bool r.cont]))∧RgO base w' R vl (SL.set first cK) room (pZ SL.length first 1) (n-1) ((gone+1)%18446744073709551616)∧Mod (gK R vl) w w'
set_option maxHeartbeats 3200000 in
theorem Wx(h:RgO base w R vl SL room first n gone)(hn0:0<n)(hg0:0≤gone):Calls jG 324 #[.pointer (some ⟨R,0,none⟩)] w (qV3 base w R vl SL room first n gone):=by
 have hf:first < SL.length:=by
  rcases h.hf with hf|⟨-,hf⟩
  · exact hf
  · have :=h.hn;omega
 obtain⟨g,c,hv,hgR,hgl,hRl⟩:=h.slots hf;subst hv;have H:=Hd h;obtain⟨r,hr⟩:∃r,SL[first]? =some r:=⟨SL[first],jN hf⟩;have hnr:n≤100000:=by have :=h.hn;have :=h.hm;have :=h.hroom;omega
 have hmr:SL.length≤100000:=by have :=h.hm;have :=h.hroom;omega
 have hfI:(first :Int)<(SL.length:Int):=by omega
 have hw1:jE.wrap ((n:Int)-1)=((n-1:Nat):Int):=by rw[jF _ qJ];omega
 have hwn:jE.wrap ((n-1:Nat):Int)=((n-1:Nat):Int):=jF _ qJ;have hsub:(n:Int)-1=((n-1:Nat):Int):=by omega
 have hwg:IntKind.u64.wrap (gone+1)=(gone+1)%18446744073709551616:=IntKind.wrap_u64 _;obtain⟨W,hW⟩:∃W,w.alloc (.cells #[.slice none 0 0,.bool false] 52)=W:=⟨_,rfl⟩;have HB:=Hd (show Below w.heap.size w W from by rw[←hW];exact jH (jU _ _) _);have HN:=Hd (show W.heap[w.heap.size]? =some (.cells #[.slice none 0 0,.bool false] 52 (0,0))from by rw[←hW];exact jT rfl);have hO:=h.below HB.o;have HO:=Hd hO;have x0:=(at_ hO.blk 0 _ rfl).1;have x2:=(at_ hO.blk 2 _ rfl).1;obtain⟨⟨r0,-⟩,r1,-⟩:=zK hO.own hr;clear h hO
 go_enter Tryz.func324,Tryz.ntmps324
 go_upto_region 1 with fail
 clear hW;refine gI 11 (fun w'=>Below W.heap.size W w'∧w'.cell? ⟨R,0,none⟩=some (.slice (some ⟨g,0,none⟩) SL.length c)∧w'.cell? ⟨R,2,none⟩=some (.int .i64 first)∧w'.cell? ⟨g,first * 2,none⟩=some (.slice r.A r.cs.length r.cap)∧w'.cell? ⟨g,first * 2+1,none⟩=some (.bool r.cont)) qQ qQ (fun w1 w2 hS hb=>⟨jW hS.1 hb,kZ hb hS.2.1,kZ hb hS.2.2.1,kZ hb hS.2.2.2.1,kZ hb hS.2.2.2.2⟩) ⟨(jU _ _).drew,x0,x2,r0,r1⟩ ?_;refine AtN.go 0 ?_
 iterate 10 (refine AtC.take (o:=⟨_,_,_,_,_,_⟩) (v:=?_) qQ rfl qV qQ qQ ?_ ?_;rotate_left;(focus(first|exact uQ.skip qK|(refine uQ.val qK ?_;intro w' hS;obtain⟨_,_,_,_,_⟩:=hS;go_simp;first|done|with_reducible rfl)));simp only[Act.put,jZ,jX,jY])
 refine AtC.back ?_;refine AtN.one 10 (o:=⟨_,_,_,_,_,_⟩) _ _ qV qQ rfl (UT.pers 52 #[.slice none 0 0,.bool false]) (uQ.alloc W.heap.size 52 #[.slice none 0 0,.bool false] [] qK (fun w' hS=>by go_simp) (fun w' hS=>hS.1.size) (fun _ _ _ hx=>by cases hx)) ?_;rintro v ⟨k,rfl,hk,-⟩;simp only[Act.put,jZ,jX,jY];refine AtN.done qQ (fun w' hS=>?_);have HB1:=Hd hS.1.1;have HK:=Hd hS.2.at_;clear hS x0 x2 r0 r1;have hkW:w.heap.size<k:=by have :=HN.o;have :=jR this;omega
 obtain⟨y0,y0f⟩:=at_ HK.o 0 _ rfl;obtain⟨y1,y1f⟩:=at_ HK.o 1 _ rfl
 go_upto_region 2 with fail
 have HM2:=Hd (yK (o:=0) (u:=.slice r.A r.cs.length r.cap) (v:=.bool r.cont) (Mod.of_below (X:=[]) (jW HB.o HB1.o)) (.inr (Nat.le_of_lt hkW)));have HN2:Hid (((w'.setCell ⟨k,0,none⟩ (.slice r.A r.cs.length r.cap)).setCell ⟨k,1,none⟩ (.bool r.cont)).heap[w.heap.size]? =some (.cells #[.slice none 0 0,.bool false] 52 (0,0))):=Hd (by
  rw[vT qJ,vT qJ];exact(HB1.o.block _ (jR HN.o)).trans HN.o)
 have HK2:=Hd (kA (kA (cs:=[.slice none 0 0,.bool false]) HK.o 0 (.slice r.A r.cs.length r.cap) (cs':=[.slice r.A r.cs.length r.cap,.bool false]) rfl) 1 (.bool r.cont) (cs':=[.slice r.A r.cs.length r.cap,.bool r.cont]) rfl);generalize uN _ _ _=W2 at HM2 HN2 HK2 ⊢;have HO2:=Hd (H.o.mod HM2.o (yI.nil w) (fun _ _ h=>by cases h));have x0:=(at_ HO2.o.blk 0 _ rfl).1;have x2:=(at_ HO2.o.blk 2 _ rfl).1;clear y0 y0f y1 y1f;refine kW 10 (fun w'=>Below W2.heap.size W2 w'∧w'.cell? ⟨R,0,none⟩=some (.slice (some ⟨g,0,none⟩) SL.length c)∧w'.cell? ⟨R,2,none⟩=some (.int .i64 first)) qQ qQ ?_ ?_
 · exact⟨(jU _ _).drew,x0,x2⟩
 simp only[jS,kK,jL,jO]
 repeat(
  (first
   |refine kF qK ?_
   |(refine kT ?_ qK ?_ ?_;rotate_left;(focus(intro w' hS;obtain⟨_,_,_⟩:=hS;go_simp;first|done|with_reducible rfl))))
  simp only[Act.put,jZ,jX,jY])
 refine kE (fun w' hS=>?_);have HB3:=Hd hS.1;have hO3:=HO2.o.below hS.1;obtain⟨⟨q0,q0f⟩,q1,q1f⟩:=zK hO3.own hr;have HK3:=Hd ((hS.1.block _ (jR HK2.o)).trans HK2.o);have HN3:=Hd ((hS.1.block _ (jR HN2.o)).trans HN2.o);have HO3:=Hd hO3;clear hS x0 x2 hO3
 go_upto_region 3 with fail
 have HOW:=Hd (fU HO3.o.own hf cK);have HM4:=Hd (yK (X:=gK R (.slice (some ⟨g,0,none⟩) SL.length c)) (b:=g) (o:=first * 2) (u:=.slice none 0 0) (v:=.bool false) ((HM2.o.mono (fun _ h=>by cases h)).then_below HB3.o) (.inl (by simp[gK,Value.ownBlock])));have HKg:k≠g:=by have :=HB1.o.size;have :=HB.o.size;omega
 have HBLK:Hid (((w'.setCell ⟨g,first * 2,none⟩ (.slice none 0 0)).setCell ⟨g,first * 2+1,none⟩ (.bool false)).heap[R]? =some (.cells [.slice (some ⟨g,0,none⟩) SL.length c,.int .i64 room,.int .i64 first,.int .i64 n,.int .u64 gone].toArray 225 (0,0))):=Hd ((vT (Ne.symm hgR)).trans ((vT (Ne.symm hgR)).trans HO3.o.blk));have HK4:=Hd ((vT (i:=first * 2+1) (v:=.bool false) HKg).trans ((vT (i:=first * 2) (v:=.slice none 0 0) HKg).trans HK3.o));have hNg:w.heap.size≠g:=by omega
 have HN4:=Hd ((vT (i:=first * 2+1) (v:=.bool false) hNg).trans ((vT (i:=first * 2) (v:=.slice none 0 0) hNg).trans HN3.o));clear q0 q0f q1 q1f;change Hid ((((w'.setCell ⟨g,first * 2,none⟩ (.slice none 0 0)).setCell ⟨g,first * 2+1,none⟩ (.bool false))).ownsRow _ _ _ _ _ _)at HOW;generalize uN _ _ _=W4 at HOW HM4 HBLK HK4 HN4 ⊢;have HSL:=Hd (iV (vH HBLK.o 0 _ rfl) (vH HBLK.o 2 _ rfl) hmr qJ 1 qJ);obtain⟨z2,z2f⟩:=uS HBLK.o 2 _ rfl;obtain⟨z3,z3f⟩:=uS HBLK.o 3 _ rfl;obtain⟨z4,z4f⟩:=uS HBLK.o 4 _ rfl
 go_upto_region 6 with(go_at_call 251;refine HSL.o.mono ?_;rintro e w1 ⟨rfl,rfl⟩)
 have c2:=kA HBLK.o 2 (.int .i64 (pZ SL.length first 1)) rfl;have c3:=kA c2 3 (.int .i64 ((n-1:Nat):Int)) rfl;have C4:=Hd (kA c3 4 (.int .u64 ((gone+1)%18446744073709551616)) rfl);have hkR:k≠R:=by have :=HB1.o.size;have :=HB.o.size;omega
 have hNR:w.heap.size≠R:=by omega
 have HK5:=Hd ((vT (i:=4) (v:=.int .u64 ((gone+1)%18446744073709551616)) hkR).trans ((vT (i:=3) (v:=.int .i64 ((n-1:Nat):Int)) hkR).trans ((vT (i:=2) (v:=.int .i64 (pZ SL.length first 1)) hkR).trans HK4.o)));have HN5:=Hd ((vT (i:=4) (v:=.int .u64 ((gone+1)%18446744073709551616)) hNR).trans ((vT (i:=3) (v:=.int .i64 ((n-1:Nat):Int)) hNR).trans ((vT (i:=2) (v:=.int .i64 (pZ SL.length first 1)) hNR).trans HN4.o)));have HM5:=Hd ((((Mod.refl [R] W4).setCell (a:=⟨R,2,none⟩) (.inl qV) (.int .i64 (pZ SL.length first 1))).setCell (a:=⟨R,3,none⟩) (.inl qV) (.int .i64 ((n-1:Nat):Int))).setCell (a:=⟨R,4,none⟩) (.inl qV) (.int .u64 ((gone+1)%18446744073709551616)));clear c2 c3 z2 z2f z3 z3f z4 z4f;generalize uN _ _ _=W5 at C4 HK5 HN5 HM5 ⊢;obtain⟨a0,-⟩:=at_ HK5.o 0 _ rfl;obtain⟨a1,-⟩:=at_ HK5.o 1 _ rfl;obtain⟨b0,b0f⟩:=at_ HN5.o 0 _ rfl;obtain⟨b1,b1f⟩:=at_ HN5.o 1 _ rfl;have HM6:=Hd (yK (b:=w.heap.size) (o:=0) (u:=.slice r.A r.cs.length r.cap) (v:=.bool r.cont) (HM4.o.trans HM5.o (fun x hx=>.inl (by rw[jM.1 hx];simp[gK]))) (.inr (jD _)))
 have HM7:=Hd (yK (b:=w.heap.size) (o:=0) (u:=.slice r.A r.cs.length r.cap) (v:=.bool r.cont) (HM5.o.mono (Y:=[R,w.heap.size]) (fun x hx=>by rw[jM.1 hx];simp)) (.inl qV));have HBLK7:=Hd ((vT (i:=1) (v:=.bool r.cont) (Ne.symm hNR)).trans ((vT (i:=0) (v:=.slice r.A r.cs.length r.cap) (Ne.symm hNR)).trans C4.o))
 go_wp2
 have hset:=fY (u':=.slice r.A r.cs.length r.cap) (v':=.bool r.cont) ⟨b0,b0f⟩ ⟨b1,b1f⟩;refine bodyPost_ret (xW rfl _ _ w.heap.size _ _ rfl hset.1.1 hset.2.1) rfl ⟨⟨r,rfl⟩,H.o.reblk HBLK7.o ?_ ?_ ?_ ?_ ?_,HM6.o⟩
 · have :=kD HOW.o HM7.o (fun x hx=>by simp[Value.ownBlock]at hx;subst hx;simp;omega)
   rwa[uV]
 · rw[uV];have :=H.o.hn;omega
 · rw[uV];exact H.o.hm
 · rw[uV];exact .inl (by unfold pZ;split<;>omega)
 · intro x hx;rw[QM hf H.o.hn hn0]at hx;have hx2:=H.o.rows x (List.mem_of_mem_drop hx);exact⟨hx2.1.mod HM6.o H.o.nocel,hx2.2⟩
end
theorem YF{α:Type}{enc:α→List Value}{K:Nat}(hl:∀x,(enc x).length=K)(hK:0<K)(z:α)(n:Nat):(madeCells (enc z).toArray (n*K)).toList=uM enc (kN n z):=by
 refine gM fun m=>?_
 by_cases hm:m<n*K
 · have hd:m/K<n:=(Nat.div_lt_iff_lt_mul hK).2 hm;have h1:(kN n z)[m/K]? =some z:=by rw[List.getElem?_replicate];rw[if_pos hd]
   have h2:=yN hl (kN n z) (m/K) z (m%K) h1 (Nat.mod_lt _ hK);rw[show m/K*K+m%K=m by rw[Nat.mul_comm];exact Nat.div_add_mod m K]at h2;rw[h2];have hj:m%K<(enc z).length:=by rw[hl];exact Nat.mod_lt _ hK
   unfold madeCells;simp only[Array.toList_map,Array.toList_range,uX,List.getElem?_range hm,Option.map_some];rw[jN hj]
   congr 1
   have hs:(enc z).toArray.size=K:=by rw[List.size_toArray,hl]
   rw[hs,getElem!_pos _ _ (by rw[hs];exact Nat.mod_lt _ hK)];simp
 · rw[uZ qZ6,uZ (by rw[pM hl,uG];omega)]
theorem nW:(jG.info? 52).map (fun i=>(i.zero,i.size,i.bytes))=some (some (.agg #[.slice none 0 0,.bool false]),2,32):=by kernel_rfl
theorem qQ7{α:Type}{H:List α}{z:α}{m i:Nat}(hi:i<H.length)(hm:i<m):(H.take i++kN (m-i) z).set i H[i]=H.take (i+1)++kN (m-(i+1)) z:=by
 rw[List.set_append_right _ _ qN,kC,show i-min i H.length=0 by omega,show m-i=(m-(i+1))+1 by omega,List.replicate_succ,jX,kQ hi,kG];rfl
section
variable {base:Nat}{w:World}{R:Nat}{vl:Value}{SL:List Rh}{room first n:Nat}{gone:Int}
def qV0(base:Nat)(w:World)(R:Nat)(H:List Rh)(room n:Nat)(gone:Int)(e:Ending)(w':World):Prop:=
 e=.returned (.tuple #[])∧∃vl' m,n<m∧RgO base w' R vl' (H++kN (m-n) cK) room 0 n gone∧Mod [R] w w'∧∀g,vl'.ownBlock=some g→w.heap.size≤g
set_option maxHeartbeats 3200000 in
theorem Ww(h:RgO base w R vl SL room first n gone)(hfull:n=SL.length)(hlt:SL.length<room)(hbw:base≤w.heap.size):Calls jG 325 #[.pointer (some ⟨R,0,none⟩)] w (qV0 base w R (pS SL first n) room n gone):=by
 obtain⟨j0,hj,gz0,gz1,gz2⟩:=info_parts nW;obtain⟨A,c,hv⟩:=uT h.own;have hroom:=h.hroom;obtain⟨q,hq⟩:∃q:Nat,q=2*SL.length:=⟨_,rfl⟩;have hqI:(2:Int)*(SL.length:Int)=(q:Int):=by omega
 have hwq:jE.wrap (q:Int)=(q:Int):=jF _ qJ;obtain⟨s1,hs1⟩:∃s1:Nat,(if(4:Int)<(q:Int)then(q:Int)else 4)=(s1:Int):=⟨max 4 q,by omega⟩;obtain⟨m,hm⟩:∃m:Nat,(if s1<room then(s1:Int)else(room:Int))=(m:Int):=⟨min s1 room,by omega⟩;have hmn:n<m:=by omega
 have hmr:m≤room:=by omega
 have hmr2:m≤100000:=by omega
 have H:=Hd h;have x0:=(at_ h.blk 0 _ rfl).1;have x1:=(at_ h.blk 1 _ rfl).1;rw[hv]at x0;have HV:=Hd hv;have HQ:=Hd (kY hmn (kY hmr (kY hfull hlt)));clear hq h hv hfull
 go_enter Tryz.func325,Tryz.ntmps325
 go_upto_region 0 with fail
 refine kW 12 (fun w'=>Below w.heap.size w w'∧w'.cell? ⟨R,0,none⟩=some (.slice A SL.length c)∧w'.cell? ⟨R,1,none⟩=some (.int .i64 room)) qQ qQ ?_ ?_
 · exact⟨(jU _ _).drew,x0,x1⟩
 simp only[jS,kK,jL,jO]
 repeat(
  (first
   |refine kF qK ?_
   |(refine kT ?_ qK ?_ ?_;rotate_left;(focus(intro w' hS;obtain⟨_,_,_⟩:=hS;go_simp;first|done|with_reducible rfl))))
  simp only[Act.put,jZ,jX,jY])
 refine kE (fun w' hS=>?_);have HB1:=Hd hS.1;clear hS x0 x1;clear hs1 hqI hwq;have hb1:=HB1.o.size
 go_wp2_with(refine wpList_make_full _ rfl (.tmp 17) (.tmp 17) _ rfl w.heap.size 52 j0 _ 2 Tryz.underlying46 hj gz0 gz1 .i64 .i64 _ _ m rfl rfl ?_ ?_ ?_ ?_ ?_ ?_)
 all_goals first
  |rfl
  |omega
  |(simp only[maxLen];omega)
  |(rw[gz2];omega)
  |(simp;done)
  |skip
 intro w1 hown hg;have HG:=Hd hg;have e:=YF bH qZ cK m;have HO0:Hid (w1.ownsRow w.heap.size 52 2 (.slice (some ⟨w'.heap.size,0,none⟩) m m) m (uM yG (kN m cK))):=Hd (by rw[←e];exact hown);clear hown hg e;have HB2:=Hd (show Below w.heap.size w w1 from HB1.o.grown HG.o hb1 (fun k hk=>by cases hk));have hO1:=H.o.below HB2.o;have x3:=(at_ hO1.blk 3 _ rfl).1;clear HG hO1;have hg1:w.heap.size≤w'.heap.size:=hb1;have hg2:=(HO0.o.lt w'.heap.size rfl).2;generalize w'.heap.size=g1 at HO0 hg1 hg2 ⊢;clear hm HB1 hb1;have HH:=Hd (yC SL first n);have hnN:n≤100000:=by omega
 go_wp2_with fail
 go_loopw [23] (fun s23 wr=>∃i:Nat,s23=.int .i64 i∧i≤n∧wr.ownsRow w.heap.size 52 2 (.slice (some ⟨g1,0,none⟩) m m) m (uM yG ((pS SL first n).take i++kN (m-i) cK))∧Mod [g1] w1 wr) (fun s23 _=>n-(intOf s23).toNat)
 case atStart=>exact⟨0,rfl,kM _,by simpa using HO0.o,Mod.refl _ _⟩
 case round=>
  obtain⟨i,rfl,hi,hO,hM⟩:=hrel;have HOi:=Hd hO;have HMi:=Hd hM;have HMw:=Hd ((Mod.of_below (X:=[g1]) HB2.o).trans hM (fun x hx=>.inl hx));have hNC:yI w1 [g1]:=fun b hb cs f he=>by
   rw[jM.1 hb]at he;obtain⟨cur,hc⟩:=uR HO0.o (g:=g1) rfl;rw[hc]at he;injection he with he
   injection he with _ ht
   exact absurd ht qZ
  have HRi:=Hd ((H.o.below HB2.o).mod hM hNC (fun x hx hX=>by rw[jM.1 hX]at hx;have :=H.o.lt g1 hx;omega));clear hO hM hNC
  by_cases hlt2:i<n
  rotate_left
  · obtain rfl:i=n:=by omega
    obtain⟨y0,y0f⟩:=at_ HRi.o.blk 0 _ rfl;obtain⟨y2,y2f⟩:=at_ HRi.o.blk 2 _ rfl;have HK:=Hd (kA (kA (cs:=[vl,.int .i64 room,.int .i64 first,.int .i64 i,.int .u64 gone]) HRi.o.blk 0 (.slice (some ⟨g1,0,none⟩) m m) (cs':=[.slice (some ⟨g1,0,none⟩) m m,.int .i64 room,.int .i64 first,.int .i64 i,.int .u64 gone]) rfl) 2 (.int .i64 0) (cs':=[.slice (some ⟨g1,0,none⟩) m m,.int .i64 room,.int .i64 0,.int .i64 i,.int .u64 gone]) rfl);have hRl:=(H.o.lt R qO).2;have HMf:=Hd (((HMw.o.mono (Y:=[R,g1]) (fun x hx=>by rw[jM.1 hx];simp)).setCell (a:=⟨R,0,none⟩) (.inl qV) (.slice (some ⟨g1,0,none⟩) m m)).setCell (a:=⟨R,2,none⟩) (.inl qV) (.int .i64 0))
    go_wp2
    go_end0
    have hl:(pS SL first i++kN (m-i) cK).length=m:=by rw[jC,HH.o,uG];omega
    have hMR:Mod [R] w ((wr.setCell ⟨R,0,none⟩ (.slice (some ⟨g1,0,none⟩) m m)).setCell ⟨R,2,none⟩ (.int .i64 0)):=(Mod.trans (X:=[R]) (Y:=[R,g1]) (Mod.refl [R] w) HMf.o (fun x hx=>by
     rcases kJ.1 hx with rfl|hx
     · exact .inl qV
     · rw[jM.1 hx];exact .inr hg1))
    refine⟨rfl,.slice (some ⟨g1,0,none⟩) m m,m,HQ.o.1,⟨HK.o,?_,H.o.hb,H.o.hroom,by rw[hl];omega,by rw[hl];exact hmr,.inl (by rw[hl];omega),?_⟩,hMR,fun g hg=>by simp[Value.ownBlock]at hg;omega⟩
    · rw[hl];have h1:=HOi.o;rw[show(pS SL first i).take i=pS SL first i from vY (by rw[HH.o];exact jD _)]at h1;have h2:=kD h1 ((Mod.refl [R] wr).setCell (a:=⟨R,0,none⟩) (.inl qV) (.slice (some ⟨g1,0,none⟩) m m) |>.setCell (a:=⟨R,2,none⟩) (.inl qV) (.int .i64 0)) (fun x hx=>by simp[Value.ownBlock]at hx;simp;omega);exact pQ h2 hbw
    · intro x hx;have e:pS (pS SL first i++kN (m-i) cK) 0 i=pS SL first i:=by
       have :=wC (H:=pS SL first i) (Z:=kN (m-i) cK)
       rwa[HH.o]at this
      rw[e]at hx;have :=H.o.rows x hx;exact⟨this.1.mod hMR (fun b hb cs f he=>by
       rw[jM.1 hb,H.o.blk]at he;injection he with he
       injection he with _ ht
       exact absurd ht qZ),this.2⟩
  · have hf:first < SL.length:=by
     rcases H.o.hf with hf|⟨-,hf⟩
     · exact hf
     · have :=H.o.hn;omega
    obtain⟨k,hk⟩:∃k,pZ SL.length first i=k:=⟨_,rfl⟩
    have hkl:k<SL.length:=by rw[←hk];exact bF hf (by have :=H.o.hn;omega)
    obtain⟨r,hr⟩:∃r,SL[k]? =some r:=⟨SL[k],jN hkl⟩;have hHi:(pS SL first n)[i]? =some r:=by rw[eA hf H.o.hn hlt2,hk,hr]
    obtain⟨gs,cs,hvs⟩:=gH H.o.own qJ;have hownS:=HRi.o.own;have x0:=(at_ HRi.o.blk 0 _ rfl).1;rw[hvs]at hownS x0;obtain⟨⟨r0,-⟩,r1,-⟩:=zK hownS hr;have x2:wr.cell? ⟨R,2,none⟩=some (.int .i64 first):=(at_ HRi.o.blk 2 _ rfl).1;have hfr:first ≤100000:=by have :=HQ.o;omega
    have hkI:(k:Int)<(SL.length:Int):=by omega
    have hiI:(i:Int)<(n:Int):=by omega
    have him:i<m:=by omega
    have himI:(i:Int)<(m:Int):=by omega
    have HHI:=Hd hHi;clear hHi hr hownS hvs hf
    go_upto_region 5 with fail
    refine kW 12 (fun w2=>Below wr.heap.size wr w2∧w2.cell? ⟨R,0,none⟩=some (.slice (some ⟨gs,0,none⟩) SL.length cs)∧w2.cell? ⟨gs,k*2,none⟩=some (.slice r.A r.cs.length r.cap)∧w2.cell? ⟨gs,k*2+1,none⟩=some (.bool r.cont)) qQ qQ ?_ ?_
    · exact⟨(jU _ _).drew,x0,r0,r1⟩
    simp only[jS,kK,jL,jO]
    repeat(
     (first
      |refine kF qK ?_
      |(refine uO 251 #[.pointer (some ⟨R,0,none⟩),.int .i64 i] (.int .i64 k) qK ?_ (fun w2 hS=>(iV hS.2.1 ((Mod.of_below (X:=[]) hS.1).cell qV x2) qJ qJ i qJ).mono (fun e w3 h=>⟨by rw[←hk];exact h.1,h.2▸hS⟩)) ?_;(focus(intro w2;go_simp;done)))
      |(refine kT ?_ qK ?_ ?_;rotate_left;(focus(intro w' hS;obtain⟨_,_,_,_⟩:=hS;go_simp;first|done|with_reducible rfl))))
     simp only[Act.put,jZ,jX,jY])
    refine kE (fun w' hS=>?_);have HB5:=Hd hS.1;have hO5:=kD HOi.o (Mod.of_below (X:=[]) hS.1) (fun _ _ h=>by cases h);have hil:i<((pS SL first n).take i++kN (m-i) cK).length:=by rw[jC,kC,uG];have :=HH.o;omega
    obtain⟨zr,hzr⟩:∃zr,((pS SL first n).take i++kN (m-i) cK)[i]? =some zr:=⟨_,jN hil⟩;obtain⟨⟨q0,q0f⟩,q1,q1f⟩:=zK hO5 hzr;have HO5:=Hd hO5;clear hS x0 r0 r1 hO5 x2
    go_wp2
    have hset:=fU HO5.o hil r;have hHe:r=(pS SL first n)[i]'(by rw[HH.o];exact hlt2):=by have :=(jP.1 HHI.o).2;exact this.symm
    rw[hHe,qQ7 (by rw[HH.o];exact hlt2) him,←hHe]at hset;have HSET:=Hd hset;have HM6:=Hd (yK (b:=g1) (o:=i*2) (u:=.slice r.A r.cs.length r.cap) (v:=.bool r.cont) (HMi.o.then_below HB5.o) (.inl qV));clear hset hHe
    go_roundw
    case rel=>exact⟨i+1,by go_num,by omega,HSET.o,HM6.o⟩
    case measure=>simp[intOf];omega
end
end Go.Proofs.YtaefcahblmopfaaGreatDoor
