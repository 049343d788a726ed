/- Joined by a tool of this claim out of smaller texts. Conditions: as stated. -/
import Derived.Test.YtjcpdcncfjkejaaGreatDoorSx14
set_option linter.unusedVariables false
set_option linter.unusedSimpArgs false
set_option maxRecDepth 100000
open Go.Lib renaming hid → Hd
open Go.Proofs.Tryz renaming prog → jG, underlying38 → kE
open Go.RowKit.Below renaming refl → jU
open Go.IntWalk renaming i64_in → jH
open Go.IntKind renaming i64 → jP
open List renaming getElem?_eq_getElem → jD, getD_eq_getElem?_getD → kP
open Nat renaming le_refl → jS
open And renaming intro → kM
namespace Go.Proofs.YtjcpdcncfjkejaaGreatDoor
open Go.RowKit
section
variable {w:World}{A:Option Addr}{H:List Gh}
set_option maxHeartbeats 6400000 in
theorem Xl(hG:eR w A H)(ca i:Nat)(hi:i<H.length)(hz:H.length≤1000)(g:List Int)(hg:(vK H).getD i []=g)(h1:1<g.length)(h8:g.length≤8)(hn:¬(g.getD 1 0=2∧(g.length=5∨g.length=6)∧g.getD (g.length-1) 0<256∧g.getD (g.length-2) 0<256∧g.getD (g.length-3) 0<256)):Calls jG 187 #[.slice A H.length ca,.int .i64 i] w (tA (eH (vK H) i) w):=by
 obtain⟨W,hW⟩:∃W,w.alloc (.cells #[.int .i64 0,.int .i64 0] 38)=W:=⟨_,rfl⟩;have hb:Below w.heap.size w W:=by rw[←hW];exact jW (jU _ _) _
 have hcz:W.heap[w.heap.size]? =some (.cells #[.int .i64 0,.int .i64 0] 38 (0,0)):=by rw[←hW];exact kZ rfl
 have HB:=Hd hb;have HZ:=Hd hcz;have HW:=Hd hW;have hext:eH (vK H) i=if g.getD 1 0=5∧g.length=3∧g.getD 2 0<256 then(some ⟨1,lP (g.getD 2 0)⟩,i+1)else(none,i+1):=by
  unfold eH;simp only[];rw[hg,if_pos h1]
  by_cases hc:g.getD 1 0=5∧g.length=3∧g.getD 2 0<256
  · rw[if_pos hc,if_pos hc]
  · rw[if_neg hc,if_neg hc,if_neg hn]
 obtain⟨x,gb,off,-,rfl,hc,⟨hgr,-⟩,hge⟩:=hG.get hi;obtain rfl:x.g=g:=hge.symm.trans hg;obtain⟨b2,off2,hA,hn1⟩:=dA hgr h1;have hn1':=jA hb hn1;have HN:Hid (∀k,k<x.g.length→W.cell? ⟨b2,off2+k,none⟩=some (.int .i64 (x.g.getD k 0))):=Hd (fun k hk=>by
  obtain⟨b',off',e1,e2⟩:=dA hgr hk;rw[hA]at e1;injection e1 with e1
  injection e1 with e1 e3
  subst e1 e3;exact jA hb e2)
 have hc2:=jA hb hc;rw[hA]at hc2;have hwi:jP.wrap ((i:Int)+1)=(i:Int)+1:=jH _ qJ;have hiI:(i:Int)<(H.length:Int):=by omega
 obtain⟨L,hL⟩:∃L,H.length=L:=⟨_,rfl⟩;rw[hL]at hi hiI ⊢;generalize eH (vK H) i=R at hext ⊢;obtain⟨x0,hx0⟩:∃f:Nat→Int,f=fun k=>x.g.getD k 0:=⟨_,rfl⟩;have HN2:Hid (∀k,k<x.g.length→W.cell? ⟨b2,off2+k,none⟩=some (.int .i64 (x0 k))):=Hd (fun k hk=>by rw[hx0];exact HN.o k hk);have hext2:R=if x0 1=5∧x.g.length=3∧x0 2<256 then(some ⟨1,lP (x0 2)⟩,i+1)else(none,i+1):=by rw[hx0];exact hext
 have hno:¬(x0 1=2∧(x.g.length=5∨x.g.length=6)∧x0 (x.g.length-1)<256∧x0 (x.g.length-2)<256∧x0 (x.g.length-3)<256):=by rw[hx0];exact hn
 obtain⟨K,hK⟩:∃K,x.g.length=K:=⟨_,rfl⟩;rw[hK]at h1 h8 hc2 HN2 hext2 hno;have h1I:(1:Int)<(K:Int):=by omega
 have hn1:=HN2.o 1 h1;obtain⟨v1,hv1⟩:∃v1,x0 1=v1:=⟨_,rfl⟩;rw[hv1]at hn1 hext2 hno;obtain⟨z0,z0f⟩:=at_ hcz 0 (.int .i64 0) rfl;obtain⟨z1,z1f⟩:=at_ hcz 1 (.int .i64 0) rfl;have HR:=Hd hext2;have HNO:=Hd hno;have H18:=Hd (kM h1 h8);clear hG hb hcz hW hext hext2 hno hn hc hge hg hgr hA HN hn1' hx0 hv1 hL hK h8
 by_cases h5:v1=5
 · subst h5
   by_cases k3:K=3
   · subst k3;have hn2:=HN2.o 2 qZ;obtain⟨v2,hv2⟩:∃v2,x0 2=v2:=⟨_,rfl⟩;rw[hv2]at hn2
     by_cases s2:v2<256
     · have HRR:Hid (R=(some ⟨1,max 0 v2⟩,i+1)):=Hd (by rw[HR.o,if_pos ⟨rfl,rfl,by rw[hv2];exact s2⟩,hv2];rfl);clear hv2;clear HR HNO H18 HN2
       go_enter Tryz.func187,Tryz.ntmps187
       go_upto_region 1 with fail
       rw[HW.o]
       go_wp2_with(go_at_call 256;(with_reducible refine(eG _ _).mono ?_);rintro e w2 ⟨rfl,rfl⟩)
       have hz2:=kY (kY HZ.o 0 (.int .i64 1) rfl) 1 (.int .i64 (max 0 v2)) rfl;exact bodyPost_ret (vC rfl _ _ w.heap.size [.int .i64 1,.int .i64 (max 0 v2)] rfl (kA hz2) kE rfl uO) rfl ⟨1,(max 0 v2),qJ3,(fun d hd=>by rw[HRR.o]at hd;exact(Option.some.inj hd).symm),kH (kH HB.o (jS _) _) (jS _) _⟩
     · have HRR:Hid (R=(none,i+1)):=Hd (by rw[HR.o,if_neg (fun h=>s2 (by rw[←hv2];exact h.2.2))]);have t2:256≤v2:=by omega
       clear hv2 s2;clear HR HNO H18 HN2
       go_enter Tryz.func187,Tryz.ntmps187
       go_upto_region 1 with fail
       rw[HW.o]
       go_wp2_with fail
       have hz2:=kY (kY HZ.o 0 (.int .i64 0) rfl) 1 (.int .i64 0) rfl;exact qXg
   · have HRR:Hid (R=(none,i+1)):=Hd (by rw[HR.o,if_neg (fun h=>k3 h.2.1)]);have k3q:((K:Int)==3)=false:=zb qJ;have k3I:¬(K:Int)=3:=by omega
     clear k3;clear HR HNO H18 HN2
     go_enter Tryz.func187,Tryz.ntmps187
     go_upto_region 1 with fail
     rw[HW.o]
     go_wp2_with fail
     have hz2:=kY (kY HZ.o 0 (.int .i64 0) rfl) 1 (.int .i64 0) rfl;exact qXg
 have e5:(v1==5)=false:=zb h5
 by_cases h2:v1=2
 · subst h2;clear h5 e5
   by_cases hk:K=5∨K=6
   · rcases hk with hk|hk
     · subst hk;have m1:=HN2.o 4 qZ;have m2:=HN2.o 3 qZ;have m3:=HN2.o 2 qZ;obtain⟨a1,ha1⟩:∃a,x0 4=a:=⟨_,rfl⟩;obtain⟨a2,ha2⟩:∃a,x0 3=a:=⟨_,rfl⟩;obtain⟨a3,ha3⟩:∃a,x0 2=a:=⟨_,rfl⟩;rw[ha1]at m1;rw[ha2]at m2;rw[ha3]at m3;have hno2:¬(a1<256∧a2<256∧a3<256):=fun h=>HNO.o ⟨rfl,by decide,by show x0 4<256;omega,by show x0 3<256;omega,by show x0 2<256;omega⟩;clear ha1 ha2 ha3;have HRR:Hid (R=(none,i+1)):=Hd qKl
       by_cases s1:a1<256
       · by_cases s2:a2<256
         · have t3:256≤a3:=by omega
           clear hno2;clear HR HNO H18 HN2
           go_enter Tryz.func187,Tryz.ntmps187
           go_upto_region 1 with fail
           rw[HW.o]
           go_wp2_with fail
           have hz2:=kY (kY HZ.o 0 (.int .i64 0) rfl) 1 (.int .i64 0) rfl;exact qXg
         · have t2:256≤a2:=by omega
           clear hno2 s2;clear HR HNO H18 HN2
           go_enter Tryz.func187,Tryz.ntmps187
           go_upto_region 1 with fail
           rw[HW.o]
           go_wp2_with fail
           have hz2:=kY (kY HZ.o 0 (.int .i64 0) rfl) 1 (.int .i64 0) rfl;exact qXg
       · have t1:256≤a1:=by omega
         clear hno2 s1;clear HR HNO H18 HN2
         go_enter Tryz.func187,Tryz.ntmps187
         go_upto_region 1 with fail
         rw[HW.o]
         go_wp2_with fail
         have hz2:=kY (kY HZ.o 0 (.int .i64 0) rfl) 1 (.int .i64 0) rfl;exact qXg
     · subst hk;have m1:=HN2.o 5 qZ;have m2:=HN2.o 4 qZ;have m3:=HN2.o 3 qZ;obtain⟨a1,ha1⟩:∃a,x0 5=a:=⟨_,rfl⟩;obtain⟨a2,ha2⟩:∃a,x0 4=a:=⟨_,rfl⟩;obtain⟨a3,ha3⟩:∃a,x0 3=a:=⟨_,rfl⟩;rw[ha1]at m1;rw[ha2]at m2;rw[ha3]at m3;have hno2:¬(a1<256∧a2<256∧a3<256):=fun h=>HNO.o ⟨rfl,by decide,by show x0 5<256;omega,by show x0 4<256;omega,by show x0 3<256;omega⟩;clear ha1 ha2 ha3;have HRR:Hid (R=(none,i+1)):=Hd qKl
       by_cases s1:a1<256
       · by_cases s2:a2<256
         · have t3:256≤a3:=by omega
           clear hno2;clear HR HNO H18 HN2
           go_enter Tryz.func187,Tryz.ntmps187
           go_upto_region 1 with fail
           rw[HW.o]
           go_wp2_with fail
           have hz2:=kY (kY HZ.o 0 (.int .i64 0) rfl) 1 (.int .i64 0) rfl;exact qXg
         · have t2:256≤a2:=by omega
           clear hno2 s2;clear HR HNO H18 HN2
           go_enter Tryz.func187,Tryz.ntmps187
           go_upto_region 1 with fail
           rw[HW.o]
           go_wp2_with fail
           have hz2:=kY (kY HZ.o 0 (.int .i64 0) rfl) 1 (.int .i64 0) rfl;exact qXg
       · have t1:256≤a1:=by omega
         clear hno2 s1;clear HR HNO H18 HN2
         go_enter Tryz.func187,Tryz.ntmps187
         go_upto_region 1 with fail
         rw[HW.o]
         go_wp2_with fail
         have hz2:=kY (kY HZ.o 0 (.int .i64 0) rfl) 1 (.int .i64 0) rfl;exact qXg
   · have HRR:Hid (R=(none,i+1)):=Hd qKl;have q5:((K:Int)==5)=false:=zb qJ;have q6:((K:Int)==6)=false:=zb qJ;have r5:¬(K:Int)=5:=by omega
     have r6:¬(K:Int)=6:=by omega
     clear hk;clear HR HNO H18 HN2
     go_enter Tryz.func187,Tryz.ntmps187
     go_upto_region 1 with fail
     rw[HW.o]
     go_wp2_with fail
     have hz2:=kY (kY HZ.o 0 (.int .i64 0) rfl) 1 (.int .i64 0) rfl;exact qXg
 · have e2:(v1==2)=false:=zb h2;have HRR:Hid (R=(none,i+1)):=Hd (by rw[HR.o,if_neg (fun h=>h5 h.1)]);clear h5 h2;clear HR HNO H18 HN2
   go_enter Tryz.func187,Tryz.ntmps187
   go_upto_region 1 with fail
   rw[HW.o]
   go_wp2_with fail
   have hz2:=kY (kY HZ.o 0 (.int .i64 0) rfl) 1 (.int .i64 0) rfl;exact qXg
end
section
variable {w:World}{A:Option Addr}{H:List Gh}
set_option maxHeartbeats 6400000 in
theorem Xi(hG:eR w A H)(ca i:Nat)(hi:i<H.length)(hz:H.length≤1000)(g:List Int)(hg:(vK H).getD i []=g)(h1:1<g.length)(h8:g.length≤8)(hn:(g.getD 1 0=2∧(g.length=5∨g.length=6)∧g.getD (g.length-1) 0<256∧g.getD (g.length-2) 0<256∧g.getD (g.length-3) 0<256)):Calls jG 187 #[.slice A H.length ca,.int .i64 i] w (tA (eH (vK H) i) w):=by
 obtain⟨W,hW⟩:∃W,w.alloc (.cells #[.int .i64 0,.int .i64 0] 38)=W:=⟨_,rfl⟩;have hb:Below w.heap.size w W:=by rw[←hW];exact jW (jU _ _) _
 have hcz:W.heap[w.heap.size]? =some (.cells #[.int .i64 0,.int .i64 0] 38 (0,0)):=by rw[←hW];exact kZ rfl
 have HB:=Hd hb;have HZ:=Hd hcz;have HW:=Hd hW;have hext:eH (vK H) i=(some ⟨2,65536*lP (g.getD (g.length-3) 0)+256*lP (g.getD (g.length-2) 0)+lP (g.getD (g.length-1) 0)⟩,i+1):=by
  unfold eH;simp only[];rw[hg,if_pos h1];rw[if_neg (fun h=>by have :=hn.1;omega),if_pos hn]
 obtain⟨x,gb,off,-,rfl,hc,⟨hgr,-⟩,hge⟩:=hG.get hi;obtain rfl:x.g=g:=hge.symm.trans hg;obtain⟨b2,off2,hA,hn1⟩:=dA hgr h1;have hn1':=jA hb hn1;have HBL:Hid (b2<w.heap.size):=Hd (World.block_lt_of_cell? w _ hn1);have HN:Hid (∀k,k<x.g.length→W.cell? ⟨b2,off2+k,none⟩=some (.int .i64 (x.g.getD k 0))):=Hd (fun k hk=>by
  obtain⟨b',off',e1,e2⟩:=dA hgr hk;rw[hA]at e1;injection e1 with e1
  injection e1 with e1 e3
  subst e1 e3;exact jA hb e2)
 have hc2:=jA hb hc;rw[hA]at hc2;have hwi:jP.wrap ((i:Int)+1)=(i:Int)+1:=jH _ qJ;have hiI:(i:Int)<(H.length:Int):=by omega
 obtain⟨L,hL⟩:∃L,H.length=L:=⟨_,rfl⟩;rw[hL]at hi hiI ⊢;generalize eH (vK H) i=R at hext ⊢;obtain⟨x0,hx0⟩:∃f:Nat→Int,f=fun k=>x.g.getD k 0:=⟨_,rfl⟩;have HN2:Hid (∀k,k<x.g.length→W.cell? ⟨b2,off2+k,none⟩=some (.int .i64 (x0 k))):=Hd (fun k hk=>by rw[hx0];exact HN.o k hk);have hext2:R=(some ⟨2,65536*lP (x0 (x.g.length-3))+256*lP (x0 (x.g.length-2))+lP (x0 (x.g.length-1))⟩,i+1):=by rw[hx0];exact hext
 have hno:(x0 1=2∧(x.g.length=5∨x.g.length=6)∧x0 (x.g.length-1)<256∧x0 (x.g.length-2)<256∧x0 (x.g.length-3)<256):=by rw[hx0];exact hn
 obtain⟨K,hK⟩:∃K,x.g.length=K:=⟨_,rfl⟩;rw[hK]at h1 h8 hc2 HN2 hext2 hno;have h1I:(1:Int)<(K:Int):=by omega
 have hn1:=HN2.o 1 h1;obtain⟨v1,hv1⟩:∃v1,x0 1=v1:=⟨_,rfl⟩;rw[hv1]at hn1 hno;obtain⟨z0,z0f⟩:=at_ hcz 0 (.int .i64 0) rfl;obtain⟨z1,z1f⟩:=at_ hcz 1 (.int .i64 0) rfl;have HR:=Hd hext2;have HNO:=Hd hno;have H18:=Hd (kM h1 h8);clear hG hb hcz hW hext hext2 hno hn hc hge hg hgr hA HN hn1' hx0 hv1 hL hK h8;clear h1;obtain⟨g2,gk,ga1,ga2,ga3⟩:=HNO.o;subst g2;clear HNO;rcases gk with gk|gk
 · subst gk;have m1:=HN2.o 4 qZ;have m2:=HN2.o 3 qZ;have m3:=HN2.o 2 qZ;have hR:=HR.o;simp only[Nat.reduceSub]at ga1 ga2 ga3 hR;obtain⟨a1,ha1⟩:∃a,x0 4=a:=⟨_,rfl⟩;obtain⟨a2,ha2⟩:∃a,x0 3=a:=⟨_,rfl⟩;obtain⟨a3,ha3⟩:∃a,x0 2=a:=⟨_,rfl⟩;rw[ha1]at m1 ga1 hR;rw[ha2]at m2 ga2 hR;rw[ha3]at m3 ga3 hR;obtain⟨p1,hp1⟩:∃p,max 0 a1=p:=⟨_,rfl⟩;obtain⟨p2,hp2⟩:∃p,max 0 a2=p:=⟨_,rfl⟩;obtain⟨p3,hp3⟩:∃p,max 0 a3=p:=⟨_,rfl⟩;unfold lP at hR;rw[hp1,hp2,hp3]at hR;have HC1:Hid (∀w',Calls jG 256 #[.int .i64 a1] w' fun e w2=>e=.returned (.int .i64 p1)∧w'=w2):=Hd (fun w'=>by rw[←hp1];exact eG _ _);have HC2:Hid (∀w',Calls jG 256 #[.int .i64 a2] w' fun e w2=>e=.returned (.int .i64 p2)∧w'=w2):=Hd (fun w'=>by rw[←hp2];exact eG _ _);have HC3:Hid (∀w',Calls jG 256 #[.int .i64 a3] w' fun e w2=>e=.returned (.int .i64 p3)∧w'=w2):=Hd (fun w'=>by rw[←hp3];exact eG _ _);obtain⟨N,hN⟩:∃N,65536*p3+256*p2+p1=N:=⟨_,rfl⟩;rw[hN]at hR;have HRR:=Hd hR;have hN1:jP.wrap (65536*p3)=65536*p3:=jH _ qJ;have hN2:jP.wrap (256*p2)=256*p2:=jH _ qJ;have hN3:jP.wrap (65536*p3+256*p2)=65536*p3+256*p2:=jH _ qJ;have hN5:jP.wrap N=N:=jH _ qJ;have k2:jP.wrap 2=2:=by decide
   have k3:jP.wrap 3=3:=by decide
   have k4:jP.wrap 4=4:=by decide
   have k5:jP.wrap 5=5:=by decide
   clear HR HN2 H18 hR ha1 ha2 ha3 hp1 hp2 hp3
   go_enter Tryz.func187,Tryz.ntmps187
   go_upto_region 1 with fail
   rw[HW.o]
   go_upto_region 7 with fail
   refine Go.RL.wp_region_l 27 (fun w'=>w'.cell? ⟨b2,off2+4,none⟩=some (.int .i64 a1)∧w'.cell? ⟨b2,off2+3,none⟩=some (.int .i64 a2)∧w'.cell? ⟨b2,off2+2,none⟩=some (.int .i64 a3)) (fun w'=>Below W.heap.size W w') qQ qQ ⟨m1,m2,m3⟩ ((jU _ _).drew) ?_;refine Go.RL.AtL.go 0 ?_
   iterate 5 refine zK ?_
   refine Go.RL.AtK.back ?_;refine Go.RL.AtL.go 7 ?_
   iterate 5 refine zK ?_
   refine Go.RL.AtK.back ?_;refine Go.RL.AtL.go 15 ?_
   iterate 5 refine zK ?_
   refine Go.RL.AtK.back ?_;refine Go.RL.AtL.go 23 ?_
   iterate 2 refine zK ?_
   refine Go.RL.AtK.back ?_;refine Go.RL.AtL.one 5 (o:=⟨_,_,_,_,_,_⟩) (fun u=>u=.int .i64 p3) (fun _ w'=>Below W.heap.size W w') qV qQ rfl
    (Go.RL.StabL.call 256 #[.int .i64 a3] _ _ qK qB (fun w' hI hS=>(HC3.o w').mono qO)) ?_
   rintro v9 rfl;refine zP ?_;refine Go.RL.AtL.take 6 (o:=⟨_,_,_,_,_,_⟩) (v:=?_) qQ rfl qV qQ qQ ?_ ?_;rotate_left
   · (refine Go.RL.Pure.val qK ?_;intro w' hI;obtain⟨_,_,_⟩:=hI;go_simp;first|done|with_reducible rfl)
   refine zP ?_;refine Go.RL.AtL.one 12 (o:=⟨_,_,_,_,_,_⟩) (fun u=>u=.int .i64 p2) (fun _ w'=>Below W.heap.size W w') qV qQ rfl
    (Go.RL.StabL.call 256 #[.int .i64 a2] _ _ qK qB (fun w' hI hS=>(HC2.o w').mono qO)) ?_
   rintro v9 rfl;refine zP ?_;refine Go.RL.AtL.go 13 ?_
   iterate 2 refine zK ?_
   refine Go.RL.AtK.back ?_;refine Go.RL.AtL.one 20 (o:=⟨_,_,_,_,_,_⟩) (fun u=>u=.int .i64 p1) (fun _ w'=>Below W.heap.size W w') qV qQ rfl
    (Go.RL.StabL.call 256 #[.int .i64 a1] _ _ qK qB (fun w' hI hS=>(HC1.o w').mono qO)) ?_
   rintro v9 rfl;refine zP ?_;refine Go.RL.AtL.go 21 ?_
   iterate 2 refine zK ?_
   refine Go.RL.AtK.back ?_;refine Go.RL.AtL.one 25 (o:=⟨none,.store 38 (.tmp 4) (.tmp 106),_,_,_,_⟩) (fun _=>True) (fun _ w'=>Below w.heap.size w w'∧w'.heap[w.heap.size]? =some (.cells [Value.int .i64 2,.int .i64 N].toArray 38 (0,0))) qV qQ rfl (Go.RL.StabL.unit _ _ qK (fun w' hI hS=>?_)) ?_
   · obtain⟨e1,e2,e3⟩:=hI;have hz':=(hS.block _ (kQ HZ.o)).trans HZ.o;have hk:Below w.heap.size w' (w'.setCells w.heap.size 0 [Value.int .i64 2,.int .i64 N]):=gX (jU _ _) (jS _) _ _;exact qXh
   rintro v25 -;simp only[Act.put];refine Go.RL.AtL.take 26 (o:=⟨_,_,_,_,_,_⟩) (v:=?_) qQ rfl qV qQ qQ ?_ ?_;rotate_left
   · (refine Go.RL.Pure.val qK ?_;intro w' hI;obtain⟨_,_,_⟩:=hI;go_simp;first|done|with_reducible rfl)
   refine zP ?_;refine Go.RL.AtL.done qQ (fun w' hI hS=>?_);have HS:=Hd hS;clear hI hS
   go_wp2
   exact qXi
 · subst gk;have m1:=HN2.o 5 qZ;have m2:=HN2.o 4 qZ;have m3:=HN2.o 3 qZ;have hR:=HR.o;simp only[Nat.reduceSub]at ga1 ga2 ga3 hR;obtain⟨a1,ha1⟩:∃a,x0 5=a:=⟨_,rfl⟩;obtain⟨a2,ha2⟩:∃a,x0 4=a:=⟨_,rfl⟩;obtain⟨a3,ha3⟩:∃a,x0 3=a:=⟨_,rfl⟩;rw[ha1]at m1 ga1 hR;rw[ha2]at m2 ga2 hR;rw[ha3]at m3 ga3 hR;obtain⟨p1,hp1⟩:∃p,max 0 a1=p:=⟨_,rfl⟩;obtain⟨p2,hp2⟩:∃p,max 0 a2=p:=⟨_,rfl⟩;obtain⟨p3,hp3⟩:∃p,max 0 a3=p:=⟨_,rfl⟩;unfold lP at hR;rw[hp1,hp2,hp3]at hR;have HC1:Hid (∀w',Calls jG 256 #[.int .i64 a1] w' fun e w2=>e=.returned (.int .i64 p1)∧w'=w2):=Hd (fun w'=>by rw[←hp1];exact eG _ _);have HC2:Hid (∀w',Calls jG 256 #[.int .i64 a2] w' fun e w2=>e=.returned (.int .i64 p2)∧w'=w2):=Hd (fun w'=>by rw[←hp2];exact eG _ _);have HC3:Hid (∀w',Calls jG 256 #[.int .i64 a3] w' fun e w2=>e=.returned (.int .i64 p3)∧w'=w2):=Hd (fun w'=>by rw[←hp3];exact eG _ _);obtain⟨N,hN⟩:∃N,65536*p3+256*p2+p1=N:=⟨_,rfl⟩;rw[hN]at hR;have HRR:=Hd hR;have hN1:jP.wrap (65536*p3)=65536*p3:=jH _ qJ;have hN2:jP.wrap (256*p2)=256*p2:=jH _ qJ;have hN3:jP.wrap (65536*p3+256*p2)=65536*p3+256*p2:=jH _ qJ;have hN5:jP.wrap N=N:=jH _ qJ;have k2:jP.wrap 2=2:=by decide
   have k3:jP.wrap 3=3:=by decide
   have k4:jP.wrap 4=4:=by decide
   have k5:jP.wrap 5=5:=by decide
   clear HR HN2 H18 hR ha1 ha2 ha3 hp1 hp2 hp3
   go_enter Tryz.func187,Tryz.ntmps187
   go_upto_region 1 with fail
   rw[HW.o]
   go_upto_region 7 with fail
   refine Go.RL.wp_region_l 27 (fun w'=>w'.cell? ⟨b2,off2+5,none⟩=some (.int .i64 a1)∧w'.cell? ⟨b2,off2+4,none⟩=some (.int .i64 a2)∧w'.cell? ⟨b2,off2+3,none⟩=some (.int .i64 a3)) (fun w'=>Below W.heap.size W w') qQ qQ ⟨m1,m2,m3⟩ ((jU _ _).drew) ?_;refine Go.RL.AtL.go 0 ?_
   iterate 5 refine zK ?_
   refine Go.RL.AtK.back ?_;refine Go.RL.AtL.go 7 ?_
   iterate 5 refine zK ?_
   refine Go.RL.AtK.back ?_;refine Go.RL.AtL.go 15 ?_
   iterate 5 refine zK ?_
   refine Go.RL.AtK.back ?_;refine Go.RL.AtL.go 23 ?_
   iterate 2 refine zK ?_
   refine Go.RL.AtK.back ?_;refine Go.RL.AtL.one 5 (o:=⟨_,_,_,_,_,_⟩) (fun u=>u=.int .i64 p3) (fun _ w'=>Below W.heap.size W w') qV qQ rfl
    (Go.RL.StabL.call 256 #[.int .i64 a3] _ _ qK qB (fun w' hI hS=>(HC3.o w').mono qO)) ?_
   rintro v9 rfl;refine zP ?_;refine Go.RL.AtL.take 6 (o:=⟨_,_,_,_,_,_⟩) (v:=?_) qQ rfl qV qQ qQ ?_ ?_;rotate_left
   · (refine Go.RL.Pure.val qK ?_;intro w' hI;obtain⟨_,_,_⟩:=hI;go_simp;first|done|with_reducible rfl)
   refine zP ?_;refine Go.RL.AtL.one 12 (o:=⟨_,_,_,_,_,_⟩) (fun u=>u=.int .i64 p2) (fun _ w'=>Below W.heap.size W w') qV qQ rfl
    (Go.RL.StabL.call 256 #[.int .i64 a2] _ _ qK qB (fun w' hI hS=>(HC2.o w').mono qO)) ?_
   rintro v9 rfl;refine zP ?_;refine Go.RL.AtL.go 13 ?_
   iterate 2 refine zK ?_
   refine Go.RL.AtK.back ?_;refine Go.RL.AtL.one 20 (o:=⟨_,_,_,_,_,_⟩) (fun u=>u=.int .i64 p1) (fun _ w'=>Below W.heap.size W w') qV qQ rfl
    (Go.RL.StabL.call 256 #[.int .i64 a1] _ _ qK qB (fun w' hI hS=>(HC1.o w').mono qO)) ?_
   rintro v9 rfl;refine zP ?_;refine Go.RL.AtL.go 21 ?_
   iterate 2 refine zK ?_
   refine Go.RL.AtK.back ?_;refine Go.RL.AtL.one 25 (o:=⟨none,.store 38 (.tmp 4) (.tmp 106),_,_,_,_⟩) (fun _=>True) (fun _ w'=>Below w.heap.size w w'∧w'.heap[w.heap.size]? =some (.cells [Value.int .i64 2,.int .i64 N].toArray 38 (0,0))) qV qQ rfl (Go.RL.StabL.unit _ _ qK (fun w' hI hS=>?_)) ?_
   · obtain⟨e1,e2,e3⟩:=hI;have hz':=(hS.block _ (kQ HZ.o)).trans HZ.o;have hk:Below w.heap.size w' (w'.setCells w.heap.size 0 [Value.int .i64 2,.int .i64 N]):=gX (jU _ _) (jS _) _ _;exact qXh
   rintro v25 -;simp only[Act.put];refine Go.RL.AtL.take 26 (o:=⟨_,_,_,_,_,_⟩) (v:=?_) qQ rfl qV qQ qQ ?_ ?_;rotate_left
   · (refine Go.RL.Pure.val qK ?_;intro w' hI;obtain⟨_,_,_⟩:=hI;go_simp;first|done|with_reducible rfl)
   refine zP ?_;refine Go.RL.AtL.done qQ (fun w' hI hS=>?_);have HS:=Hd hS;clear hI hS
   go_wp2
   exact qXi
end
theorem U4{w:World}{A:Option Addr}{H:List Gh}(hG:eR w A H)(ca i:Nat)(hcl:JP (vK H))(hi:i<H.length)(hz:H.length≤1000):Calls jG 187 #[.slice A H.length ca,.int .i64 i] w (tA (eH (vK H) i) w):=by
 by_cases h1:1<((vK H).getD i []).length
 · have hi':i<(vK H).length:=by unfold vK;simpa using hi
   have hm:(vK H).getD i []∈vK H:=by rw[kP,jD hi'];exact List.getElem_mem hi'
   have h8:=(hcl _ hm).2.1;generalize hg:(vK H).getD i []=g at h1 h8
   by_cases hn:g.getD 1 0=2∧(g.length=5∨g.length=6)∧g.getD (g.length-1) 0<256∧g.getD (g.length-2) 0<256∧g.getD (g.length-3) 0<256
   · exact Xi hG ca i hi hz g hg h1 h8 hn
   · exact Xl hG ca i hi hz g hg h1 h8 hn
 · exact WV hG ca i hcl hi hz h1
end Go.Proofs.YtjcpdcncfjkejaaGreatDoor
