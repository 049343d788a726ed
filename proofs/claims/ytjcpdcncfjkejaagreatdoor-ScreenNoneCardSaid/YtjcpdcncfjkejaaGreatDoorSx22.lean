/- Joined by a tool of this claim out of smaller texts. Conditions: as stated. -/
import Derived.Test.YtjcpdcncfjkejaaGreatDoorSx18
import Derived.Test.YtjcpdcncfjkejaaGreatDoorSx21
set_option linter.unusedVariables false
set_option linter.unusedSimpArgs false
set_option maxRecDepth 100000
open Go.Lib renaming hid → Hd
open List renaming setIfInBounds_toArray → jZ, set_cons_zero → jX, drop_succ_cons → jB, getElem?_eq_getElem → jD, drop_zero → jF, mem_singleton → jR, getElem?_eq_some_iff → jE, length_append → jI, replicate → kJ, mem_cons → kW, mem_append → kL, length_replicate → kS, append_assoc → uK, mem_of_getElem? → uW, getElem?_append_right → vU, getElem?_set → vP, drop_eq_nil_of_le → vR, getElem?_drop → gV
open Go.Proofs.Tryz renaming prog → jG, underlying95 → uT
open Go.RowKit.Below renaming refl → jU
open Go.IntWalk renaming i64_in → jH
open Go.IntKind renaming i64 → jP
open Nat renaming le_refl → jS, zero_add → kB, zero_le → kT, le_trans → vY, add_zero → vO
open Option renaming mem_toList → jT
open Go.World renaming ownsRow → kK, setCell → uQ, ownsRow_nil → uE
open And renaming intro → kM
open Array renaming getElem?_eq_some_iff → kF
open Int renaming toNat_natCast → uJ
namespace Go.Proofs.YtjcpdcncfjkejaaGreatDoor
open Go.RowKit
def J7(w:World)(e:Ending)(w':World):Prop:=∃g,e=.returned (.slice (some ⟨g,0,none⟩) 31 31)∧w'.heap[g]? =some (.cells lY.toArray 21 (0,0))∧Below w.heap.size w w'
theorem Xf(w:World):Calls jG 246 #[] w (J7 w):=by
 go_enter Tryz.func246,Tryz.ntmps246
 go_wp2
 go_ret
 exact⟨_,rfl,kZ rfl,jW (jU _ _) _⟩
def JM(kind r:Int)(w:World)(e:Ending)(w':World):Prop:=e=.returned (.int .i32 (hQ kind r))∧Below w.heap.size w w'
set_option maxHeartbeats 1600000 in
theorem Vr(kind r:Int)(w:World):Calls jG 175 #[.int .i64 kind,.int .i32 r] w (JM kind r w):=by
 have HD:=Hd (fun w=>Xf w);unfold JM hQ
 by_cases k1:kind=65
 · subst k1
   by_cases r1:r=35
   · subst r1
     go_enter Tryz.func175,Tryz.ntmps175
     go_wp2
     go_ret
     exact⟨rfl,jU _ _⟩
   · have e1:(r==35)=false:=by simpa using r1
     rw[if_neg qJ,if_neg qJ,if_neg qJ];clear r1
     go_enter Tryz.func175,Tryz.ntmps175
     go_wp2
     go_ret
     exact⟨rfl,jU _ _⟩
 have e1:(kind==65)=false:=by simpa using k1
 rw[if_neg (fun h=>k1 h.1)]
 by_cases k2:kind=48
 · subst k2
   by_cases r1:r=95
   · subst r1;clear e1
     go_enter Tryz.func175,Tryz.ntmps175
     go_wp2
     go_ret
     exact⟨rfl,jU _ _⟩
   · have e2:(r==95)=false:=by simpa using r1
     rw[if_neg qJ];clear e1 k1
     by_cases h1:96≤r
     · by_cases h2:r≤126
       · rw[if_pos ⟨rfl,h1,h2⟩];obtain⟨k,hk,hk31⟩:∃k:Nat,r-96=(k:Int)∧k<31:=⟨(r-96).toNat,by omega,by omega⟩;rw[hk,uJ];have hdr:=Qo k hk31;have hw:IntKind.i32.wrap (r-96)=(k:Int):=by rw[hk];exact IntWalk.i32_in _ qJ
         have HK:=Hd hdr;have hk31I:(k:Int)<31:=by omega
         clear hdr
         go_enter Tryz.func175,Tryz.ntmps175
         go_upto_region 6 with fail
         clear hk
         go_wp2_with(go_at_call 246;refine(HD.o _).mono ?_;rintro e w1 ⟨g,rfl,hg,hb⟩;have HB:=Hd hb;have hcell:=(kC hg k _ HK.o).1;clear hb hg)
         go_ret
         exact⟨rfl,HB.o⟩
       · rw[if_neg qJ]
         go_enter Tryz.func175,Tryz.ntmps175
         go_wp2
         go_ret
         exact⟨rfl,jU _ _⟩
     · rw[if_neg qJ]
       go_enter Tryz.func175,Tryz.ntmps175
       go_wp2
       go_ret
       exact⟨rfl,jU _ _⟩
 · have e2:(kind==48)=false:=by simpa using k2
   rw[if_neg qJ,if_neg qJ]
   go_enter Tryz.func175,Tryz.ntmps175
   go_wp2
   go_ret
   exact⟨rfl,jU _ _⟩
theorem bE:(jG.info? 66).map (·.size)=some 6:=by kernel_rfl
theorem Z9(g0 g1 g2 g3 u o:Int)(k:Nat)(hk:k<4):(vI ⟨g0,g1,g2,g3,u,o⟩)[k]? =some (.int .i64 (Ud ⟨g0,g1,g2,g3,u,o⟩ k)):=by
 obtain rfl|rfl|rfl|rfl:k=0∨k=1∨k=2∨k=3:=by omega
 all_goals rfl
set_option maxHeartbeats 3200000 in
theorem Y8(c:Ch)(r:Int)(w:World):Calls jG 107 #[chV c,.int .i32 r] w (rW c r w):=by
 have HS:=Hd (fun k w=>Vr k r w);obtain⟨g0,g1,g2,g3,u,o⟩:=c;unfold rW YW;have hcs:∃k:Nat,k<4∧aD ⟨g0,g1,g2,g3,u,o⟩=(k:Int)∧((o=2∧k=2)∨(o=3∧k=3)∨((o==2)=false∧(o==3)=false∧u=(k:Int))∨((o==2)=false∧(o==3)=false∧u<0∧k=0)∨((o==2)=false∧(o==3)=false∧3<u∧k=0)):=by
  unfold aD;simp only[]
  by_cases h2:o=2
  · exact⟨2,by decide,by rw[if_pos (.inl h2)];omega,.inl ⟨h2,rfl⟩⟩
  by_cases h3:o=3
  · exact⟨3,by decide,by rw[if_pos (.inr h3)];omega,.inr (.inl ⟨h3,rfl⟩)⟩
  have e2:(o==2)=false:=by simpa using h2
  have e3:(o==3)=false:=by simpa using h3
  rw[if_neg qJ]
  by_cases hu:0≤u∧u≤3
  · exact⟨u.toNat,by omega,by rw[if_pos hu];omega,.inr (.inr (.inl ⟨e2,e3,by omega⟩))⟩
  · rw[if_neg hu]
    by_cases hu0:u<0
    · exact⟨0,by decide,rfl,.inr (.inr (.inr (.inl ⟨e2,e3,hu0,rfl⟩)))⟩
    · exact⟨0,by decide,rfl,.inr (.inr (.inr (.inr ⟨e2,e3,by omega,rfl⟩)))⟩
 obtain⟨k,hk4,hku,hcs⟩:=hcs;rw[hku];clear hku;unfold chV mY;simp only[];have HG:=Hd (Z9 g0 g1 g2 g3 u 0 k hk4);have e0:Ud ⟨g0,g1,g2,g3,u,o⟩ k=Ud ⟨g0,g1,g2,g3,u,0⟩ k:=rfl;rw[e0];obtain⟨gk,hgk⟩:∃gk,Ud ⟨g0,g1,g2,g3,u,0⟩ k=gk:=⟨_,rfl⟩;rw[hgk]at HG ⊢;have hk4I:(k:Int)<4:=by omega
 have hk0I:¬(k:Int)<0:=by omega
 have hk3I:¬3<(k:Int):=by omega
 clear e0 hgk;rcases hcs with⟨rfl,rfl⟩|⟨rfl,rfl⟩|⟨e2,e3,rfl⟩|⟨e2,e3,hu,rfl⟩|⟨e2,e3,hu,rfl⟩
 · have hgk:g2=gk:=by have :=HG.o;simpa[vI]using this
   subst hgk
   go_enter Tryz.func107,Tryz.ntmps107
   go_upto_region 7 with fail
   generalize hW:World.alloc _ _=W3;have hx:W3.heap[w.heap.size]? =some (.cells (vI ⟨g0,g1,g2,g3,u,0⟩).toArray 66 (0,0)):=by rw[←hW];exact uI (kZ rfl)
   have hy:W3.heap[w.heap.size+1]? =some (.cells (vI ⟨0,0,0,0,0,0⟩).toArray 66 (0,0)):=by rw[←hW];exact kZ qV
   have hb0:Below w.heap.size w W3:=by rw[←hW];exact jW (jW (jU _ _) _) _
   have HY:=Hd hy;have HB0:=Hd hb0;obtain⟨x0,-⟩:=kC hx 0 (.int .i64 g0) rfl;obtain⟨x1,-⟩:=kC hx 1 (.int .i64 g1) rfl;obtain⟨x2,-⟩:=kC hx 2 (.int .i64 g2) rfl;obtain⟨x3,-⟩:=kC hx 3 (.int .i64 g3) rfl;obtain⟨x4,-⟩:=kC hx 4 (.int .i64 (u)) rfl;obtain⟨x5,-⟩:=kC hx 5 (.int .i64 0) rfl;obtain⟨xk,-⟩:=kC hx 2 _ HG.o;clear hW hx hy hb0
   try clear hk4
   clear xk;refine zU 8 (fun w'=>Below W3.heap.size W3 w'∧w'.cell? ⟨w.heap.size,0,none⟩=some (.int .i64 g0)∧w'.cell? ⟨w.heap.size,1,none⟩=some (.int .i64 g1)∧w'.cell? ⟨w.heap.size,2,none⟩=some (.int .i64 g2)∧w'.cell? ⟨w.heap.size,3,none⟩=some (.int .i64 g3)∧w'.cell? ⟨w.heap.size,4,none⟩=some (.int .i64 u)∧w'.cell? ⟨w.heap.size,5,none⟩=some (.int .i64 0)) ⟨(jU _ _).drew,x0,x1,x2,x3,x4,x5⟩ ?_
   repeat first|refine zS ?_|refine zD 175 #[.int .i64 g2,.int .i32 r] (.int .i32 (hQ g2 r)) (fun w' hS=>(HS.o g2 w').mono fun e w2 ⟨he,hb⟩=>⟨he,⟨jN hS.1 hb,jA hb hS.2.1,jA hb hS.2.2.1,jA hb hS.2.2.2.1,jA hb hS.2.2.2.2.1,jA hb hS.2.2.2.2.2.1,jA hb hS.2.2.2.2.2.2⟩⟩) ?_|refine zV ?_
   refine kU (fun w' hS=>?_);have hy4:=(hS.1.block _ (kQ HY.o)).trans HY.o;have hb4:=jN HB0.o hS.1;refine wpList_store_mid rfl 66 (.tmp 5) (.tmp 32) rfl (w.heap.size+1) (0) ((vI ⟨g0,g1,g2,g3,u,0⟩).toArray) rfl rfl ((show World.there _ (w.heap.size+1) 0 6 from gH hy4)) bE (all_oneCell_toArray (dB _)) ?_;simp only[Act.put]
   go_wp2
   have hw:=uB (vI ⟨g0,g1,g2,g3,u,0⟩) 0 _ _ hy4 qVl;exact qZ4
 · have hgk:g3=gk:=by have :=HG.o;simpa[vI]using this
   subst hgk
   go_enter Tryz.func107,Tryz.ntmps107
   go_upto_region 7 with fail
   generalize hW:World.alloc _ _=W3;have hx:W3.heap[w.heap.size]? =some (.cells (vI ⟨g0,g1,g2,g3,u,0⟩).toArray 66 (0,0)):=by rw[←hW];exact uI (kZ rfl)
   have hy:W3.heap[w.heap.size+1]? =some (.cells (vI ⟨0,0,0,0,0,0⟩).toArray 66 (0,0)):=by rw[←hW];exact kZ qV
   have hb0:Below w.heap.size w W3:=by rw[←hW];exact jW (jW (jU _ _) _) _
   have HY:=Hd hy;have HB0:=Hd hb0;obtain⟨x0,-⟩:=kC hx 0 (.int .i64 g0) rfl;obtain⟨x1,-⟩:=kC hx 1 (.int .i64 g1) rfl;obtain⟨x2,-⟩:=kC hx 2 (.int .i64 g2) rfl;obtain⟨x3,-⟩:=kC hx 3 (.int .i64 g3) rfl;obtain⟨x4,-⟩:=kC hx 4 (.int .i64 (u)) rfl;obtain⟨x5,-⟩:=kC hx 5 (.int .i64 0) rfl;obtain⟨xk,-⟩:=kC hx 3 _ HG.o;clear hW hx hy hb0
   try clear hk4
   clear xk;refine zU 8 (fun w'=>Below W3.heap.size W3 w'∧w'.cell? ⟨w.heap.size,0,none⟩=some (.int .i64 g0)∧w'.cell? ⟨w.heap.size,1,none⟩=some (.int .i64 g1)∧w'.cell? ⟨w.heap.size,2,none⟩=some (.int .i64 g2)∧w'.cell? ⟨w.heap.size,3,none⟩=some (.int .i64 g3)∧w'.cell? ⟨w.heap.size,4,none⟩=some (.int .i64 u)∧w'.cell? ⟨w.heap.size,5,none⟩=some (.int .i64 0)) ⟨(jU _ _).drew,x0,x1,x2,x3,x4,x5⟩ ?_
   repeat first|refine zS ?_|refine zD 175 #[.int .i64 g3,.int .i32 r] (.int .i32 (hQ g3 r)) (fun w' hS=>(HS.o g3 w').mono fun e w2 ⟨he,hb⟩=>⟨he,⟨jN hS.1 hb,jA hb hS.2.1,jA hb hS.2.2.1,jA hb hS.2.2.2.1,jA hb hS.2.2.2.2.1,jA hb hS.2.2.2.2.2.1,jA hb hS.2.2.2.2.2.2⟩⟩) ?_|refine zV ?_
   refine kU (fun w' hS=>?_);have hy4:=(hS.1.block _ (kQ HY.o)).trans HY.o;have hb4:=jN HB0.o hS.1;refine wpList_store_mid rfl 66 (.tmp 5) (.tmp 32) rfl (w.heap.size+1) (0) ((vI ⟨g0,g1,g2,g3,u,0⟩).toArray) rfl rfl ((show World.there _ (w.heap.size+1) 0 6 from gH hy4)) bE (all_oneCell_toArray (dB _)) ?_;simp only[Act.put]
   go_wp2
   have hw:=uB (vI ⟨g0,g1,g2,g3,u,0⟩) 0 _ _ hy4 qVl;exact qZ4
 · go_enter Tryz.func107,Tryz.ntmps107
   go_upto_region 7 with fail
   generalize hW:World.alloc _ _=W3;have hx:W3.heap[w.heap.size]? =some (.cells (vI ⟨g0,g1,g2,g3,(k:Int),0⟩).toArray 66 (0,0)):=by rw[←hW];exact uI (kZ rfl)
   have hy:W3.heap[w.heap.size+1]? =some (.cells (vI ⟨0,0,0,0,0,0⟩).toArray 66 (0,0)):=by rw[←hW];exact kZ qV
   have hb0:Below w.heap.size w W3:=by rw[←hW];exact jW (jW (jU _ _) _) _
   have HY:=Hd hy;have HB0:=Hd hb0;obtain⟨x0,-⟩:=kC hx 0 (.int .i64 g0) rfl;obtain⟨x1,-⟩:=kC hx 1 (.int .i64 g1) rfl;obtain⟨x2,-⟩:=kC hx 2 (.int .i64 g2) rfl;obtain⟨x3,-⟩:=kC hx 3 (.int .i64 g3) rfl;obtain⟨x4,-⟩:=kC hx 4 (.int .i64 ((k:Int))) rfl;obtain⟨x5,-⟩:=kC hx 5 (.int .i64 0) rfl;obtain⟨xk,-⟩:=kC hx k _ HG.o;clear hW hx hy hb0
   try clear hk4
   refine zU 8 (fun w'=>Below W3.heap.size W3 w'∧w'.cell? ⟨w.heap.size,0,none⟩=some (.int .i64 g0)∧w'.cell? ⟨w.heap.size,1,none⟩=some (.int .i64 g1)∧w'.cell? ⟨w.heap.size,2,none⟩=some (.int .i64 g2)∧w'.cell? ⟨w.heap.size,3,none⟩=some (.int .i64 g3)∧w'.cell? ⟨w.heap.size,4,none⟩=some (.int .i64 (k:Int))∧w'.cell? ⟨w.heap.size,5,none⟩=some (.int .i64 0)∧w'.cell? ⟨w.heap.size,k,none⟩=some (.int .i64 gk)) ⟨(jU _ _).drew,x0,x1,x2,x3,x4,x5,xk⟩ ?_
   repeat first|refine zS ?_|refine zD 175 #[.int .i64 gk,.int .i32 r] (.int .i32 (hQ gk r)) (fun w' hS=>(HS.o gk w').mono fun e w2 ⟨he,hb⟩=>⟨he,⟨jN hS.1 hb,jA hb hS.2.1,jA hb hS.2.2.1,jA hb hS.2.2.2.1,jA hb hS.2.2.2.2.1,jA hb hS.2.2.2.2.2.1,jA hb hS.2.2.2.2.2.2.1,jA hb hS.2.2.2.2.2.2.2⟩⟩) ?_|refine zV ?_
   refine kU (fun w' hS=>?_);have hy4:=(hS.1.block _ (kQ HY.o)).trans HY.o;have hb4:=jN HB0.o hS.1;refine wpList_store_mid rfl 66 (.tmp 5) (.tmp 32) rfl (w.heap.size+1) (0) ((vI ⟨g0,g1,g2,g3,(k:Int),0⟩).toArray) rfl rfl ((show World.there _ (w.heap.size+1) 0 6 from gH hy4)) bE (all_oneCell_toArray (dB _)) ?_;simp only[Act.put]
   go_wp2
   have hw:=uB (vI ⟨g0,g1,g2,g3,(k:Int),0⟩) 0 _ _ hy4 qVl;exact bodyPost_ret (eC rfl _ _ (w.heap.size+1) (vI ⟨g0,g1,g2,g3,(k:Int),0⟩) rfl (kA hw) Tryz.underlying66 rfl bE) rfl ⟨rfl,gX hb4 qJ _ _⟩
 · have hgk:g0=gk:=by have :=HG.o;simpa[vI]using this
   subst hgk
   go_enter Tryz.func107,Tryz.ntmps107
   go_upto_region 7 with fail
   generalize hW:World.alloc _ _=W3;have hx:W3.heap[w.heap.size]? =some (.cells (vI ⟨g0,g1,g2,g3,u,0⟩).toArray 66 (0,0)):=by rw[←hW];exact uI (kZ rfl)
   have hy:W3.heap[w.heap.size+1]? =some (.cells (vI ⟨0,0,0,0,0,0⟩).toArray 66 (0,0)):=by rw[←hW];exact kZ qV
   have hb0:Below w.heap.size w W3:=by rw[←hW];exact jW (jW (jU _ _) _) _
   have HY:=Hd hy;have HB0:=Hd hb0;obtain⟨x0,-⟩:=kC hx 0 (.int .i64 g0) rfl;obtain⟨x1,-⟩:=kC hx 1 (.int .i64 g1) rfl;obtain⟨x2,-⟩:=kC hx 2 (.int .i64 g2) rfl;obtain⟨x3,-⟩:=kC hx 3 (.int .i64 g3) rfl;obtain⟨x4,-⟩:=kC hx 4 (.int .i64 (u)) rfl;obtain⟨x5,-⟩:=kC hx 5 (.int .i64 0) rfl;obtain⟨xk,-⟩:=kC hx 0 _ HG.o;clear hW hx hy hb0
   try clear hk4
   clear xk;refine zU 8 (fun w'=>Below W3.heap.size W3 w'∧w'.cell? ⟨w.heap.size,0,none⟩=some (.int .i64 g0)∧w'.cell? ⟨w.heap.size,1,none⟩=some (.int .i64 g1)∧w'.cell? ⟨w.heap.size,2,none⟩=some (.int .i64 g2)∧w'.cell? ⟨w.heap.size,3,none⟩=some (.int .i64 g3)∧w'.cell? ⟨w.heap.size,4,none⟩=some (.int .i64 u)∧w'.cell? ⟨w.heap.size,5,none⟩=some (.int .i64 0)) ⟨(jU _ _).drew,x0,x1,x2,x3,x4,x5⟩ ?_
   repeat first|refine zS ?_|refine zD 175 #[.int .i64 g0,.int .i32 r] (.int .i32 (hQ g0 r)) (fun w' hS=>(HS.o g0 w').mono fun e w2 ⟨he,hb⟩=>⟨he,⟨jN hS.1 hb,jA hb hS.2.1,jA hb hS.2.2.1,jA hb hS.2.2.2.1,jA hb hS.2.2.2.2.1,jA hb hS.2.2.2.2.2.1,jA hb hS.2.2.2.2.2.2⟩⟩) ?_|refine zV ?_
   refine kU (fun w' hS=>?_);have hy4:=(hS.1.block _ (kQ HY.o)).trans HY.o;have hb4:=jN HB0.o hS.1;refine wpList_store_mid rfl 66 (.tmp 5) (.tmp 32) rfl (w.heap.size+1) (0) ((vI ⟨g0,g1,g2,g3,u,0⟩).toArray) rfl rfl ((show World.there _ (w.heap.size+1) 0 6 from gH hy4)) bE (all_oneCell_toArray (dB _)) ?_;simp only[Act.put]
   go_wp2
   have hw:=uB (vI ⟨g0,g1,g2,g3,u,0⟩) 0 _ _ hy4 qVl;exact qZ4
 · have hgk:g0=gk:=by have :=HG.o;simpa[vI]using this
   subst hgk
   go_enter Tryz.func107,Tryz.ntmps107
   go_upto_region 7 with fail
   generalize hW:World.alloc _ _=W3;have hx:W3.heap[w.heap.size]? =some (.cells (vI ⟨g0,g1,g2,g3,u,0⟩).toArray 66 (0,0)):=by rw[←hW];exact uI (kZ rfl)
   have hy:W3.heap[w.heap.size+1]? =some (.cells (vI ⟨0,0,0,0,0,0⟩).toArray 66 (0,0)):=by rw[←hW];exact kZ qV
   have hb0:Below w.heap.size w W3:=by rw[←hW];exact jW (jW (jU _ _) _) _
   have HY:=Hd hy;have HB0:=Hd hb0;obtain⟨x0,-⟩:=kC hx 0 (.int .i64 g0) rfl;obtain⟨x1,-⟩:=kC hx 1 (.int .i64 g1) rfl;obtain⟨x2,-⟩:=kC hx 2 (.int .i64 g2) rfl;obtain⟨x3,-⟩:=kC hx 3 (.int .i64 g3) rfl;obtain⟨x4,-⟩:=kC hx 4 (.int .i64 (u)) rfl;obtain⟨x5,-⟩:=kC hx 5 (.int .i64 0) rfl;obtain⟨xk,-⟩:=kC hx 0 _ HG.o;clear hW hx hy hb0
   try clear hk4
   clear xk;refine zU 8 (fun w'=>Below W3.heap.size W3 w'∧w'.cell? ⟨w.heap.size,0,none⟩=some (.int .i64 g0)∧w'.cell? ⟨w.heap.size,1,none⟩=some (.int .i64 g1)∧w'.cell? ⟨w.heap.size,2,none⟩=some (.int .i64 g2)∧w'.cell? ⟨w.heap.size,3,none⟩=some (.int .i64 g3)∧w'.cell? ⟨w.heap.size,4,none⟩=some (.int .i64 u)∧w'.cell? ⟨w.heap.size,5,none⟩=some (.int .i64 0)) ⟨(jU _ _).drew,x0,x1,x2,x3,x4,x5⟩ ?_
   repeat first|refine zS ?_|refine zD 175 #[.int .i64 g0,.int .i32 r] (.int .i32 (hQ g0 r)) (fun w' hS=>(HS.o g0 w').mono fun e w2 ⟨he,hb⟩=>⟨he,⟨jN hS.1 hb,jA hb hS.2.1,jA hb hS.2.2.1,jA hb hS.2.2.2.1,jA hb hS.2.2.2.2.1,jA hb hS.2.2.2.2.2.1,jA hb hS.2.2.2.2.2.2⟩⟩) ?_|refine zV ?_
   refine kU (fun w' hS=>?_);have hy4:=(hS.1.block _ (kQ HY.o)).trans HY.o;have hb4:=jN HB0.o hS.1;refine wpList_store_mid rfl 66 (.tmp 5) (.tmp 32) rfl (w.heap.size+1) (0) ((vI ⟨g0,g1,g2,g3,u,0⟩).toArray) rfl rfl ((show World.there _ (w.heap.size+1) 0 6 from gH hy4)) bE (all_oneCell_toArray (dB _)) ?_;simp only[Act.put]
   go_wp2
   have hw:=uB (vI ⟨g0,g1,g2,g3,u,0⟩) 0 _ _ hy4 qVl;exact qZ4
section
variable {base rows cols room:Nat}{w W:World}{m:Mv}{s:Sc}
set_option maxHeartbeats 3200000 in
theorem QP(h:uN base w m s W)(hi:DmI rows cols room s)(ht:s.pg.told.length+10≤900000)(r:Int):Calls jG 36 #[.pointer (some ⟨m.M,0,none⟩),.int .i32 r] W (vB base w m (cA s r)):=by
 have HM:=Hd (fun w=>Y8 s.pen.ch r w);unfold rW chV mY at HM;have HR:=Hd h;obtain⟨c7,-⟩:=h.cellAt 7 (.int .i64 s.pen.ch.g0) (fun _=>rfl);obtain⟨c8,-⟩:=h.cellAt 8 (.int .i64 s.pen.ch.g1) (fun _=>rfl);obtain⟨c9,-⟩:=h.cellAt 9 (.int .i64 s.pen.ch.g2) (fun _=>rfl);obtain⟨c10,-⟩:=h.cellAt 10 (.int .i64 s.pen.ch.g3) (fun _=>rfl);obtain⟨c11,-⟩:=h.cellAt 11 (.int .i64 s.pen.ch.use) (fun _=>rfl);obtain⟨c12,-⟩:=h.cellAt 12 (.int .i64 s.pen.ch.once) (fun _=>rfl);have HI:=Hd (show DmI rows cols room {s with pen:={s.pen with ch:=mY s.pen.ch}}from hi.to (hi.n.pen _) hi.t);have HT:=Hd ht;clear h hi ht
 go_enter Tryz.func36,Tryz.ntmps36
 go_upto_region 1 with(go_at_call 107;refine(HM.o _).mono ?_;rintro e w1 ⟨rfl,hb⟩;replace HR:=Hd (HR.o.post hb);clear hb c7 c8 c9 c10 c11 c12;obtain⟨c7,f7⟩:=HR.o.cellAt 7 (.int .i64 s.pen.ch.g0) (fun _=>rfl);obtain⟨c8,f8⟩:=HR.o.cellAt 8 (.int .i64 s.pen.ch.g1) (fun _=>rfl);obtain⟨c9,f9⟩:=HR.o.cellAt 9 (.int .i64 s.pen.ch.g2) (fun _=>rfl);obtain⟨c10,f10⟩:=HR.o.cellAt 10 (.int .i64 s.pen.ch.g3) (fun _=>rfl);obtain⟨c11,f11⟩:=HR.o.cellAt 11 (.int .i64 s.pen.ch.use) (fun _=>rfl);obtain⟨c12,f12⟩:=HR.o.cellAt 12 (.int .i64 s.pen.ch.once) (fun _=>rfl))
 have hb6:=(((((HR.o.put 7 (.int .i64 s.pen.ch.g0) (s':=s) (fun _=>rfl) rfl rfl).put 8 (.int .i64 s.pen.ch.g1) (s':=s) (fun _=>rfl) rfl rfl).put 9 (.int .i64 s.pen.ch.g2) (s':=s) (fun _=>rfl) rfl rfl).put 10 (.int .i64 s.pen.ch.g3) (s':=s) (fun _=>rfl) rfl rfl).put 11 (.int .i64 s.pen.ch.use) (s':=s) (fun _=>rfl) rfl rfl).put 12 (.int .i64 0) (s':={s with pen:={s.pen with ch:=mY s.pen.ch}}) (fun _=>rfl) rfl rfl;clear c7 f7 c8 f8 c9 f9 c10 f10 c11 f11 c12 f12 HR;generalize uQ _ _ _=W6 at hb6 ⊢;have HWR:=Hd (QM hb6 HI.o HT.o (YW s.pen.ch r));clear hb6
 go_wp2_with(go_at_call 108;refine HWR.o.mono ?_;rintro e w7 ⟨rfl,hs⟩;have HR:=Hd hs;clear hs)
 go_end0
 exact⟨rfl,HR.o⟩
set_option maxHeartbeats 3200000 in
theorem xY(h:uN base w m s W)(hi:DmI rows cols room s)(ht:s.pg.told.length+2*(rows*cols)+10≤900000)(n:Int):Calls jG 38 #[.pointer (some ⟨m.M,0,none⟩),.int .i64 n] W (vB base w m (bZ s n)):=by
 have HR:=Hd h;obtain⟨c_last,-⟩:=h.cellAt 37 (.int .i32 s.last) (fun _=>rfl);unfold bZ
 by_cases hl:s.last=0
 · rw[if_pos hl];rw[hl]at c_last;clear h hi ht hl
   go_enter Tryz.func38,Tryz.ntmps38
   go_wp2
   go_end0
   exact⟨rfl,HR.o⟩
 rw[if_neg hl,hi.n.rowsS,hi.n.colsS];have hl2:(s.last==0)=false:=by simpa using hl
 have hr:=hi.r;have hc:=hi.c;have hc2:=hi.c2;have hr1:0<rows:=by have :=hi.n.y0;have :=hi.n.y1;omega
 obtain⟨P,hP⟩:∃P,rows*cols=P:=⟨_,rfl⟩;have hP1:1≤P:=by rw[←hP];exact Nat.mul_pos hr1 qJ
 have hP2:P≤1000000:=by rw[←hP];exact Nat.mul_le_mul hr hc
 have hPI:(rows:Int)*(cols:Int)=(P:Int):=by rw[←hP];simp
 have hwP:jP.wrap (P:Int)=(P:Int):=jH _ qJ;rw[hPI];obtain⟨N,hN,hN2⟩:∃N:Nat,uZ n 1 (P:Int)=(N:Int)∧N≤P:=⟨(uZ n 1 P).toNat,by unfold uZ;omega,by unfold uZ;omega⟩;rw[hN,uJ];rw[hP]at ht;have hiter:∀i,i≤N→DmI rows cols room (eA (fun t=>pH t t.last) i s)∧(eA (fun t=>pH t t.last) i s).pg.told.length+10≤900000:=fun i hn=>by
  obtain⟨h1,h2⟩:=hi.n.iter hi.c2 i;exact⟨hi.to h1 qJ,by omega⟩
 have HIT:=Hd hiter;have HNN:=Hd hN;have HN:Hid (∀V:World,bP 86 #[.int .i64 n,.int .i64 1,.int .i64 P] V (.int .i64 (N:Int))):=Hd (fun V=>by
  have :=pQ (lo:=1) (hi:=(P:Int)) qJ n V;rw[hN]at this;exact this)
 clear h hi ht hl hr hc hc2 hr1 hP hiter hN hP1
 go_enter Tryz.func38,Tryz.ntmps38
 go_upto_region 1 with fail
 clear c_last hl2
 go_wp2_with fail
 go_loopw [4] (fun s4 wr=>∃i:Nat,s4=.int .i64 i∧i≤N∧uN base w m (eA (fun t=>pH t t.last) i s) wr) (fun s4 _=>N-(intOf s4).toNat)
 case atStart=>exact⟨0,rfl,kT _,HR.o⟩
 case round=>
  obtain⟨i,rfl,hi,hs⟩:=hrel;replace HR:=Hd hs;have HI:=Hd (HIT.o i hi).1;have HT:=Hd (HIT.o i hi).2;have HIS:Hid (eA (fun t=>pH t t.last) (i+1) s=pH (eA (fun t=>pH t t.last) i s) (eA (fun t=>pH t t.last) i s).last):=Hd rfl;clear hs;obtain⟨t,hte⟩:∃t,eA (fun t=>pH t t.last) i s=t:=⟨_,rfl⟩;rw[hte]at HR HI HT HIS;have HTE:=Hd hte;clear hte;have HRW:=Hd (zB HR.o HI.o);have HN1:=Hd (HN.o wr);have hwi:jP.wrap ((i:Int)+1)=(i:Int)+1:=jH _ qJ
  go_upto_region 2 with fail
  obtain⟨c_D,-⟩:=HR.o.cellAt 0 (.pointer (some ⟨m.q.D,0,none⟩)) (fun _=>rfl);have c_C:=HR.o.colsI HI.o;refine zU2 16 c_D c_C ?_
  repeat first|refine zS ?_|refine zC0 (zC2 HRW.o) ?_|refine zC0 (zC2 HN1.o) ?_|refine zV ?_
  refine kU (fun w' hS=>?_);replace HR:=Hd (HR.o.post hS.1);clear hS c_D c_C
  rename World=>W4
  clear HRW HN1
  by_cases hlt:i<N
  · have hltI:(i:Int)<(N:Int):=by omega
    obtain⟨c_last,-⟩:=HR.o.cellAt 37 (.int .i32 t.last) (fun _=>rfl);have HWR:=Hd (QM HR.o HI.o HT.o t.last)
    go_wp2_with(go_at_call 108;refine HWR.o.mono ?_;rintro e w7 ⟨rfl,hs⟩;have HR7:=Hd hs;clear hs c_last)
    go_roundw
    case rel=>exact⟨i+1,by go_num,by omega,by rw[HIS.o];exact HR7.o⟩
    case measure=>exact zm
  · have hltI:¬(i:Int)<(N:Int):=by omega
    go_wp2
    go_end0
    have hiN:i=N:=by omega
    refine⟨rfl,?_⟩;rw[←hiN,HTE.o];exact HR.o
end
section
variable {base rows cols room:Nat}{w W:World}{m:Mv}{s:Sc}
set_option maxHeartbeats 3200000 in
theorem xM(h:uN base w m s W)(hi:DmI rows cols room s)(n:Int):Calls jG 61 #[.pointer (some ⟨m.M,0,none⟩),.int .i64 n,.int .i64 0] W (vB base w m (yH s n)):=by
 have hr:=hi.r;have hc:=hi.c;have hc2:=hi.c2;have hin:=hi.n.inS hi.c2;have HR:=Hd h;have HI:=Hd hi.inX;have HIN:=Hd (bF h hi.n.x0);have hnn:=zO (n:=n) (lo:=1) (hi:=2000) qJ;have hwn:jP.wrap (inS s+uZ n 1 2000)=inS s+uZ n 1 2000:=jH _ qJ;have HN:Hid (∀V,bP 86 #[.int .i64 n,.int .i64 1,.int .i64 2000] V (.int .i64 (uZ n 1 2000))):=Hd (fun V=>pQ qJ n V);obtain⟨c_x,f_x⟩:=h.cellAt 17 (.int .i64 s.x) (fun _=>rfl);have HX:=Hd (kM c_x f_x);rw[←aX hi.n hc2 hc n];have hy0:=hi.n.y0;have HXX:=Hd (show(inX s).x=inS s from rfl);clear h hi c_x f_x hr hc hc2 hin;obtain⟨N,hN⟩:∃N,uZ n 1 2000=N:=⟨_,rfl⟩;rw[hN]at HN hwn hnn ⊢;clear hN
 go_enter Tryz.func61,Tryz.ntmps61
 go_upto_region 1 with(go_at_call 42;refine HIN.o.here.mono ?_;rintro e w1 ⟨rfl,hb⟩;obtain⟨c_x,f_x⟩:=bQ hb HX.o;replace HR:=Hd ((HR.o.post hb).put 17 (.int .i64 (inS s)) (s':=inX s) (fun _=>rfl) rfl rfl);clear hb)
 clear HIN;generalize uQ _ _ _=W3 at HR ⊢;clear c_x f_x
 go_upto_region 5 with(go_at_call 86;refine(HN.o _).here.mono ?_;rintro e w2 ⟨rfl,hb⟩;replace HR:=Hd (HR.o.post hb);clear hb)
 rename World=>W4
 have HBK:=Hd (yI HR.o);have hwn2:jP.wrap ((inX s).x+N)=(inX s).x+N:=hwn;obtain⟨c_D,-⟩:=HR.o.cellAt 0 (.pointer (some ⟨m.q.D,0,none⟩)) (fun _=>rfl);obtain⟨c_y,-⟩:=HR.o.cellAt 16 (.int .i64 (inX s).y) (fun _=>rfl);obtain⟨c_x,-⟩:=HR.o.cellAt 17 (.int .i64 (inX s).x) (fun _=>rfl);refine zU3 20 c_D c_y c_x ?_
 repeat first|refine zS ?_|refine zC0 (zC3 HBK.o) ?_|refine zV ?_
 refine kU (fun w' hS=>?_);replace HR:=Hd (HR.o.post hS.1);clear hS c_D c_y c_x;have HER:=Hd (eM HR.o HI.o (inX s).y (inX s).x ((inX s).x+N) hy0)
 go_wp2_with(go_at_call 128;refine HER.o.mono ?_;rintro e w6 ⟨rfl,hp⟩;replace HR:=Hd hp;clear hp)
 go_end0
 exact⟨rfl,HR.o⟩
set_option maxHeartbeats 3200000 in
theorem xW(h:uN base w m s W)(hi:DmI rows cols room s)(n:Int):Calls jG 61 #[.pointer (some ⟨m.M,0,none⟩),.int .i64 n,.int .i64 1] W (vB base w m (pB s n)):=by
 have hr:=hi.r;have hc:=hi.c;have hc2:=hi.c2;have hin:=hi.n.inS hi.c2;have HR:=Hd h;have HI:=Hd hi.inX;have HIN:=Hd (bF h hi.n.x0);have hnn:=zO (n:=n) (lo:=1) (hi:=2000) qJ;have hwn:jP.wrap (inS s+uZ n 1 2000)=inS s+uZ n 1 2000:=jH _ qJ;have HN:Hid (∀V,bP 86 #[.int .i64 n,.int .i64 1,.int .i64 2000] V (.int .i64 (uZ n 1 2000))):=Hd (fun V=>pQ qJ n V);obtain⟨c_x,f_x⟩:=h.cellAt 17 (.int .i64 s.x) (fun _=>rfl);have HX:=Hd (kM c_x f_x);rw[←wM hi.n hc n];clear h hi c_x f_x hr hc hc2 hin;obtain⟨N,hN⟩:∃N,uZ n 1 2000=N:=⟨_,rfl⟩;rw[hN]at HN hwn hnn ⊢;clear hN
 go_enter Tryz.func61,Tryz.ntmps61
 go_upto_region 1 with(go_at_call 42;refine HIN.o.here.mono ?_;rintro e w1 ⟨rfl,hb⟩;obtain⟨c_x,f_x⟩:=bQ hb HX.o;replace HR:=Hd ((HR.o.post hb).put 17 (.int .i64 (inS s)) (s':=inX s) (fun _=>rfl) rfl rfl);clear hb)
 clear HIN;generalize uQ _ _ _=W3 at HR ⊢;clear c_x f_x
 go_upto_region 7 with(go_at_call 86;refine(HN.o _).here.mono ?_;rintro e w2 ⟨rfl,hb⟩;replace HR:=Hd (HR.o.post hb);clear hb)
 rename World=>W4
 have HBK:=Hd (yI HR.o);obtain⟨r0,hr0,-,hrr,hof,hce⟩:=HR.o.rowOf HI.o HI.o.n.y0 HI.o.n.y1;have HR0:=Hd hr0;have HRR:=Hd hrr;have HOF:=Hd hof;have HCE:=Hd (hce (fun l=>pU l (inX s).x N (yJ (inX s))) (fun l=>dX _ _ _ _));clear hr0 hrr hof hce;obtain⟨c_D,-⟩:=HR.o.cellAt 0 (.pointer (some ⟨m.q.D,0,none⟩)) (fun _=>rfl);obtain⟨c_y,-⟩:=HR.o.cellAt 16 (.int .i64 (inX s).y) (fun _=>rfl);obtain⟨c_x,-⟩:=HR.o.cellAt 17 (.int .i64 (inX s).x) (fun _=>rfl);refine gG 25 (fun w'=>Below W4.heap.size W4 w'∧w'.cell? ⟨m.M,0,none⟩=some (.pointer (some ⟨m.q.D,0,none⟩))∧w'.cell? ⟨m.M,16,none⟩=some (.int .i64 (inX s).y)∧w'.cell? ⟨m.M,17,none⟩=some (.int .i64 (inX s).x)) qQ qQ (fun w1 w2 hS hb=>⟨jN hS.1 hb,jA hb hS.2.1,jA hb hS.2.2.1,jA hb hS.2.2.2⟩) ⟨(jU _ _).drew,c_D,c_y,c_x⟩ ?_;clear c_D c_y c_x;refine AtN.go 0 ?_
 iterate 16 refine zA ?_
 refine AtC.back ?_;refine AtN.take 16 (o:=⟨_,_,_,_,_,_⟩) (v:=.slice r0.A r0.cs.length r0.cap) qQ rfl qV qQ qQ (uY.call1 133 #[.pointer (some ⟨m.q.D,0,none⟩),.int .i64 (inX s).y] (.slice r0.A r0.cs.length r0.cap) qK qB (fun w' hS=>HOF.o _ hS.1)) ?_;refine zP ?_;refine AtN.go 17 ?_
 iterate 6 refine zA ?_
 refine AtC.back ?_;refine AtN.take 23 (o:=⟨_,_,_,_,_,_⟩) (v:=.agg #[.int .i64 (inX s).pen.at_.bk,.int .i64 (inX s).pen.at_.bn]) qQ rfl qV qQ qQ (uY.call1 118 #[.pointer (some ⟨m.M,0,none⟩)] (.agg #[.int .i64 (inX s).pen.at_.bk,.int .i64 (inX s).pen.at_.bn]) qK qB (fun w' hS=>HBK.o _ hS.1)) ?_;refine zP ?_;refine AtN.one 24 (o:=⟨_,_,_,_,_,_⟩) (fun v=>∃g cap,v=.slice (some ⟨g,0,none⟩) r0.cs.length cap) (fun v w'=>∃g cap,v=.slice (some ⟨g,0,none⟩) r0.cs.length cap∧pX w' ⟨some ⟨g,0,none⟩,(fun l=>pU l (inX s).x N (yJ (inX s))) r0.cs,cap,r0.cont⟩) qV qQ rfl (fun v w1 w2 ⟨g,cap,hv,hr⟩ hb=>⟨g,cap,hv,hr.below hb⟩) (uY.call 132 #[.slice r0.A r0.cs.length r0.cap,.int .i64 (inX s).x,.int .i64 N,.agg #[.int .i64 (inX s).pen.at_.bk,.int .i64 (inX s).pen.at_.bn]] _ _ qK ?_ (fun w' hS=>?_)) ?_
 · intro w'
   go_simp
 · refine(QC (inX s).x N (yJ (inX s)) w' (HRR.o w' hS.1) HR0.o).mono ?_;rintro e w3 ⟨g1,cap,rfl,hc,hb⟩;exact qZu
 rintro v ⟨g5,cap,rfl⟩;refine zP ?_;refine AtN.done qQ (fun w' hS=>?_);obtain⟨⟨hb1,-⟩,g1',cap',hv',hrc'⟩:=hS;simp only[Value.slice.injEq,Option.some.injEq,Addr.mk.injEq,and_true,true_and]at hv';obtain⟨rfl,rfl⟩:=hv';have HCE2:=Hd (HCE.o w' g5 cap hb1 hrc');clear hb1 hrc'
 go_wp2_with(go_at_call 131;(with_reducible refine HCE2.o.mono ?_);rintro e w9 ⟨rfl,hp⟩;replace HR:=Hd hp;clear hp HCE2)
 go_end0
 exact⟨rfl,HR.o⟩
set_option maxHeartbeats 3200000 in
theorem xH(h:uN base w m s W)(hi:DmI rows cols room s)(n:Int):Calls jG 61 #[.pointer (some ⟨m.M,0,none⟩),.int .i64 n,.int .i64 2] W (vB base w m (pP s n)):=by
 have hr:=hi.r;have hc:=hi.c;have hc2:=hi.c2;have hin:=hi.n.inS hi.c2;have HR:=Hd h;have HI:=Hd hi.inX;have HIN:=Hd (bF h hi.n.x0);have hnn:=zO (n:=n) (lo:=1) (hi:=2000) qJ;have hwn:jP.wrap (inS s+uZ n 1 2000)=inS s+uZ n 1 2000:=jH _ qJ;have HN:Hid (∀V,bP 86 #[.int .i64 n,.int .i64 1,.int .i64 2000] V (.int .i64 (uZ n 1 2000))):=Hd (fun V=>pQ qJ n V);obtain⟨c_x,f_x⟩:=h.cellAt 17 (.int .i64 s.x) (fun _=>rfl);have HX:=Hd (kM c_x f_x);rw[←wD hi.n hc n];clear h hi c_x f_x hr hc hc2 hin;obtain⟨N,hN⟩:∃N,uZ n 1 2000=N:=⟨_,rfl⟩;rw[hN]at HN hwn hnn ⊢;clear hN
 go_enter Tryz.func61,Tryz.ntmps61
 go_upto_region 1 with(go_at_call 42;refine HIN.o.here.mono ?_;rintro e w1 ⟨rfl,hb⟩;obtain⟨c_x,f_x⟩:=bQ hb HX.o;replace HR:=Hd ((HR.o.post hb).put 17 (.int .i64 (inS s)) (s':=inX s) (fun _=>rfl) rfl rfl);clear hb)
 clear HIN;generalize uQ _ _ _=W3 at HR ⊢;clear c_x f_x
 go_upto_region 3 with(go_at_call 86;refine(HN.o _).here.mono ?_;rintro e w2 ⟨rfl,hb⟩;replace HR:=Hd (HR.o.post hb);clear hb)
 rename World=>W4
 have HBK:=Hd (yI HR.o);obtain⟨r0,hr0,-,hrr,hof,hce⟩:=HR.o.rowOf HI.o HI.o.n.y0 HI.o.n.y1;have HR0:=Hd hr0;have HRR:=Hd hrr;have HOF:=Hd hof;have HCE:=Hd (hce (fun l=>yC l (inX s).x N (yJ (inX s))) (fun l=>lF _ _ _ _));clear hr0 hrr hof hce;obtain⟨c_D,-⟩:=HR.o.cellAt 0 (.pointer (some ⟨m.q.D,0,none⟩)) (fun _=>rfl);obtain⟨c_y,-⟩:=HR.o.cellAt 16 (.int .i64 (inX s).y) (fun _=>rfl);obtain⟨c_x,-⟩:=HR.o.cellAt 17 (.int .i64 (inX s).x) (fun _=>rfl);refine gG 25 (fun w'=>Below W4.heap.size W4 w'∧w'.cell? ⟨m.M,0,none⟩=some (.pointer (some ⟨m.q.D,0,none⟩))∧w'.cell? ⟨m.M,16,none⟩=some (.int .i64 (inX s).y)∧w'.cell? ⟨m.M,17,none⟩=some (.int .i64 (inX s).x)) qQ qQ (fun w1 w2 hS hb=>⟨jN hS.1 hb,jA hb hS.2.1,jA hb hS.2.2.1,jA hb hS.2.2.2⟩) ⟨(jU _ _).drew,c_D,c_y,c_x⟩ ?_;clear c_D c_y c_x;refine AtN.go 0 ?_
 iterate 16 refine zA ?_
 refine AtC.back ?_;refine AtN.take 16 (o:=⟨_,_,_,_,_,_⟩) (v:=.slice r0.A r0.cs.length r0.cap) qQ rfl qV qQ qQ (uY.call1 133 #[.pointer (some ⟨m.q.D,0,none⟩),.int .i64 (inX s).y] (.slice r0.A r0.cs.length r0.cap) qK qB (fun w' hS=>HOF.o _ hS.1)) ?_;refine zP ?_;refine AtN.go 17 ?_
 iterate 6 refine zA ?_
 refine AtC.back ?_;refine AtN.take 23 (o:=⟨_,_,_,_,_,_⟩) (v:=.agg #[.int .i64 (inX s).pen.at_.bk,.int .i64 (inX s).pen.at_.bn]) qQ rfl qV qQ qQ (uY.call1 118 #[.pointer (some ⟨m.M,0,none⟩)] (.agg #[.int .i64 (inX s).pen.at_.bk,.int .i64 (inX s).pen.at_.bn]) qK qB (fun w' hS=>HBK.o _ hS.1)) ?_;refine zP ?_;refine AtN.one 24 (o:=⟨_,_,_,_,_,_⟩) (fun v=>∃g cap,v=.slice (some ⟨g,0,none⟩) r0.cs.length cap) (fun v w'=>∃g cap,v=.slice (some ⟨g,0,none⟩) r0.cs.length cap∧pX w' ⟨some ⟨g,0,none⟩,(fun l=>yC l (inX s).x N (yJ (inX s))) r0.cs,cap,r0.cont⟩) qV qQ rfl (fun v w1 w2 ⟨g,cap,hv,hr⟩ hb=>⟨g,cap,hv,hr.below hb⟩) (uY.call 134 #[.slice r0.A r0.cs.length r0.cap,.int .i64 (inX s).x,.int .i64 N,.agg #[.int .i64 (inX s).pen.at_.bk,.int .i64 (inX s).pen.at_.bn]] _ _ qK ?_ (fun w' hS=>?_)) ?_
 · intro w'
   go_simp
 · refine(Xn (inX s).x N (yJ (inX s)) w' (HRR.o w' hS.1) HR0.o).mono ?_;rintro e w3 ⟨g1,cap,rfl,hc,hb⟩;exact qZu
 rintro v ⟨g5,cap,rfl⟩;refine zP ?_;refine AtN.done qQ (fun w' hS=>?_);obtain⟨⟨hb1,-⟩,g1',cap',hv',hrc'⟩:=hS;simp only[Value.slice.injEq,Option.some.injEq,Addr.mk.injEq,and_true,true_and]at hv';obtain⟨rfl,rfl⟩:=hv';have HCE2:=Hd (HCE.o w' g5 cap hb1 hrc');clear hb1 hrc'
 go_wp2_with(go_at_call 131;(with_reducible refine HCE2.o.mono ?_);rintro e w9 ⟨rfl,hp⟩;replace HR:=Hd hp;clear hp HCE2)
 go_end0
 exact⟨rfl,HR.o⟩
theorem XL(g:Pg)(t b:Int)(F:Nat→Nat→Pg→Pg):gI g t b 0 F=g:=by
 unfold gI
 split
 · have e:min (0:Int).toNat (b-t+1).toNat=0:=by simp
   rw[e];rfl
 · rfl
set_option maxHeartbeats 3200000 in
theorem xU(h:uN base w m s W)(hi:DmI rows cols room s)(n:Int):Calls jG 65 #[.pointer (some ⟨m.M,0,none⟩),.int .i64 n,.int .i64 1] W (vB base w m (gF s n)):=by
 have hr:=hi.r;have hrw:=hi.n.pg.hrows;have HR:=Hd h;have HN:Hid (∀V,bP 86 #[.int .i64 n,.int .i64 1,.int .i64 2000] V (.int .i64 (uZ n 1 2000))):=Hd (fun V=>pQ qJ n V);have HIX:Hid (DmI rows cols room {s with x:=0}):=Hd (hi.to (hi.n.setX (Int.le_refl _) (by have :=hi.c2;omega)) hi.t);unfold gF;rw[←mA (n:=uZ n 1 2000) (k:=max 1 n) qJ s.y s.bot _ qJy];obtain⟨N,hN⟩:∃N,uZ n 1 2000=N:=⟨_,rfl⟩;rw[hN]at HN ⊢;clear h hi hr hrw hN
 by_cases h1:s.top≤s.y
 rotate_left
 · have hb:bW s=false:=by unfold bW;simp;omega
   rw[hb,if_neg qZ];clear hb
   go_enter Tryz.func65,Tryz.ntmps65
   go_upto_region 0 with fail
   obtain⟨c_y,-⟩:=HR.o.cellAt 16 (.int .i64 s.y) (fun _=>rfl);obtain⟨c_top,-⟩:=HR.o.cellAt 18 (.int .i64 s.top) (fun _=>rfl);obtain⟨c_bot,-⟩:=HR.o.cellAt 19 (.int .i64 s.bot) (fun _=>rfl);refine zW3 19 c_y c_top c_bot fun w' hS=>?_;replace HR:=Hd (HR.o.post hS.1);clear hS c_y c_top c_bot
   go_wp2
   go_end0
   exact⟨rfl,HR.o⟩
 by_cases h2:s.y≤s.bot
 rotate_left
 · have hb:bW s=false:=by unfold bW;simp;omega
   rw[hb,if_neg qZ];clear hb
   go_enter Tryz.func65,Tryz.ntmps65
   go_upto_region 0 with fail
   obtain⟨c_y,-⟩:=HR.o.cellAt 16 (.int .i64 s.y) (fun _=>rfl);obtain⟨c_top,-⟩:=HR.o.cellAt 18 (.int .i64 s.top) (fun _=>rfl);obtain⟨c_bot,-⟩:=HR.o.cellAt 19 (.int .i64 s.bot) (fun _=>rfl);refine zW3 19 c_y c_top c_bot fun w' hS=>?_;replace HR:=Hd (HR.o.post hS.1);clear hS c_y c_top c_bot
   go_wp2
   go_end0
   exact⟨rfl,HR.o⟩
 · have hb:bW s=true:=by unfold bW;simp;omega
   rw[hb,if_pos rfl];clear hb
   go_enter Tryz.func65,Tryz.ntmps65
   go_upto_region 0 with fail
   obtain⟨c_y,-⟩:=HR.o.cellAt 16 (.int .i64 s.y) (fun _=>rfl);obtain⟨c_top,-⟩:=HR.o.cellAt 18 (.int .i64 s.top) (fun _=>rfl);obtain⟨c_bot,-⟩:=HR.o.cellAt 19 (.int .i64 s.bot) (fun _=>rfl);refine zW3 19 c_y c_top c_bot fun w' hS=>?_;replace HR:=Hd (HR.o.post hS.1);clear hS c_y c_top c_bot
   rename World=>W2
   obtain⟨c_x,f_x⟩:=HR.o.cellAt 17 (.int .i64 s.x) (fun _=>rfl)
   go_upto_region 2 with fail
   replace HR:=Hd (HR.o.put 17 (.int .i64 0) (s':={s with x:=0}) (fun _=>rfl) rfl rfl);generalize uQ _ _ _=W3 at HR ⊢;clear c_x f_x;have HBK:=Hd (yI HR.o);have HN3:=Hd (HN.o W3);obtain⟨c_D,-⟩:=HR.o.cellAt 0 (.pointer (some ⟨m.q.D,0,none⟩)) (fun _=>rfl);obtain⟨c_y,-⟩:=HR.o.cellAt 16 (.int .i64 s.y) (fun _=>rfl);obtain⟨c_bot,-⟩:=HR.o.cellAt 19 (.int .i64 s.bot) (fun _=>rfl);refine zU3 17 c_D c_y c_bot ?_
   repeat first|refine zS ?_|refine zC0 (zC3 HN3.o) ?_|refine zC0 (zC3 HBK.o) ?_|refine zV ?_
   refine kU (fun w' hS=>?_);replace HR:=Hd (HR.o.post hS.1);clear hS c_D c_y c_bot;have HSC:=Hd (eP HR.o HIX.o s.y s.bot N 1 _ (.inr (.inl ⟨rfl,rfl⟩)))
   go_wp2_with(go_at_call 117;refine HSC.o.mono ?_;rintro e w6 ⟨rfl,hp⟩;replace HR:=Hd hp;clear hp)
   go_end0
   exact⟨rfl,HR.o⟩
set_option maxHeartbeats 3200000 in
theorem xG(h:uN base w m s W)(hi:DmI rows cols room s)(n:Int):Calls jG 65 #[.pointer (some ⟨m.M,0,none⟩),.int .i64 n,.int .i64 2] W (vB base w m (gR s n)):=by
 have hr:=hi.r;have hrw:=hi.n.pg.hrows;have HR:=Hd h;have HN:Hid (∀V,bP 86 #[.int .i64 n,.int .i64 1,.int .i64 2000] V (.int .i64 (uZ n 1 2000))):=Hd (fun V=>pQ qJ n V);have HIX:Hid (DmI rows cols room {s with x:=0}):=Hd (hi.to (hi.n.setX (Int.le_refl _) (by have :=hi.c2;omega)) hi.t);unfold gR;rw[←mA (n:=uZ n 1 2000) (k:=max 1 n) qJ s.y s.bot _ qJy];obtain⟨N,hN⟩:∃N,uZ n 1 2000=N:=⟨_,rfl⟩;rw[hN]at HN ⊢;clear h hi hr hrw hN
 by_cases h1:s.top≤s.y
 rotate_left
 · have hb:bW s=false:=by unfold bW;simp;omega
   rw[hb,if_neg qZ];clear hb
   go_enter Tryz.func65,Tryz.ntmps65
   go_upto_region 0 with fail
   obtain⟨c_y,-⟩:=HR.o.cellAt 16 (.int .i64 s.y) (fun _=>rfl);obtain⟨c_top,-⟩:=HR.o.cellAt 18 (.int .i64 s.top) (fun _=>rfl);obtain⟨c_bot,-⟩:=HR.o.cellAt 19 (.int .i64 s.bot) (fun _=>rfl);refine zW3 19 c_y c_top c_bot fun w' hS=>?_;replace HR:=Hd (HR.o.post hS.1);clear hS c_y c_top c_bot
   go_wp2
   go_end0
   exact⟨rfl,HR.o⟩
 by_cases h2:s.y≤s.bot
 rotate_left
 · have hb:bW s=false:=by unfold bW;simp;omega
   rw[hb,if_neg qZ];clear hb
   go_enter Tryz.func65,Tryz.ntmps65
   go_upto_region 0 with fail
   obtain⟨c_y,-⟩:=HR.o.cellAt 16 (.int .i64 s.y) (fun _=>rfl);obtain⟨c_top,-⟩:=HR.o.cellAt 18 (.int .i64 s.top) (fun _=>rfl);obtain⟨c_bot,-⟩:=HR.o.cellAt 19 (.int .i64 s.bot) (fun _=>rfl);refine zW3 19 c_y c_top c_bot fun w' hS=>?_;replace HR:=Hd (HR.o.post hS.1);clear hS c_y c_top c_bot
   go_wp2
   go_end0
   exact⟨rfl,HR.o⟩
 · have hb:bW s=true:=by unfold bW;simp;omega
   rw[hb,if_pos rfl];clear hb
   go_enter Tryz.func65,Tryz.ntmps65
   go_upto_region 0 with fail
   obtain⟨c_y,-⟩:=HR.o.cellAt 16 (.int .i64 s.y) (fun _=>rfl);obtain⟨c_top,-⟩:=HR.o.cellAt 18 (.int .i64 s.top) (fun _=>rfl);obtain⟨c_bot,-⟩:=HR.o.cellAt 19 (.int .i64 s.bot) (fun _=>rfl);refine zW3 19 c_y c_top c_bot fun w' hS=>?_;replace HR:=Hd (HR.o.post hS.1);clear hS c_y c_top c_bot
   rename World=>W2
   obtain⟨c_x,f_x⟩:=HR.o.cellAt 17 (.int .i64 s.x) (fun _=>rfl)
   go_upto_region 2 with fail
   replace HR:=Hd (HR.o.put 17 (.int .i64 0) (s':={s with x:=0}) (fun _=>rfl) rfl rfl);generalize uQ _ _ _=W3 at HR ⊢;clear c_x f_x;have HBK:=Hd (yI HR.o);have HN3:=Hd (HN.o W3);obtain⟨c_D,-⟩:=HR.o.cellAt 0 (.pointer (some ⟨m.q.D,0,none⟩)) (fun _=>rfl);obtain⟨c_y,-⟩:=HR.o.cellAt 16 (.int .i64 s.y) (fun _=>rfl);obtain⟨c_bot,-⟩:=HR.o.cellAt 19 (.int .i64 s.bot) (fun _=>rfl);refine zU3 17 c_D c_y c_bot ?_
   repeat first|refine zS ?_|refine zC0 (zC3 HN3.o) ?_|refine zC0 (zC3 HBK.o) ?_|refine zV ?_
   refine kU (fun w' hS=>?_);replace HR:=Hd (HR.o.post hS.1);clear hS c_D c_y c_bot;have HSC:=Hd (eP HR.o HIX.o s.y s.bot N 2 _ (.inr (.inr ⟨rfl,rfl⟩)))
   go_wp2_with(go_at_call 117;refine HSC.o.mono ?_;rintro e w6 ⟨rfl,hp⟩;replace HR:=Hd hp;clear hp)
   go_end0
   exact⟨rfl,HR.o⟩
set_option maxHeartbeats 3200000 in
theorem xX(h:uN base w m s W)(hi:DmI rows cols room s)(n:Int):Calls jG 68 #[.pointer (some ⟨m.M,0,none⟩),.int .i64 n] W (vB base w m (bJ s n)):=by
 have hr:=hi.r;have hrw:=hi.n.pg.hrows;have HR:=Hd h;have HI:=Hd hi;have HBK:=Hd (yI h);unfold bJ
 by_cases h1:0<n
 · rw[if_pos h1];rw[←mA (n:=uZ n 0 2000) (k:=n) qJ s.top s.bot _ qJy];have HN:=Hd (pQ (lo:=0) (hi:=2000) qJ n W);obtain⟨N,hN⟩:∃N,uZ n 0 2000=N:=⟨_,rfl⟩;rw[hN]at HN ⊢;clear h hi hr hrw hN
   go_enter Tryz.func68,Tryz.ntmps68
   go_upto_region 1 with fail
   obtain⟨c_D,-⟩:=HR.o.cellAt 0 (.pointer (some ⟨m.q.D,0,none⟩)) (fun _=>rfl);obtain⟨c_top,-⟩:=HR.o.cellAt 18 (.int .i64 s.top) (fun _=>rfl);obtain⟨c_bot,-⟩:=HR.o.cellAt 19 (.int .i64 s.bot) (fun _=>rfl);refine zU3 16 c_D c_top c_bot ?_
   repeat first|refine zS ?_|refine zC0 (zC3 HN.o) ?_|refine zC0 (zC3 HBK.o) ?_|refine zV ?_
   refine kU (fun w' hS=>?_);replace HR:=Hd (HR.o.post hS.1);clear hS c_D c_top c_bot;have HSC:=Hd (eP HR.o HI.o s.top s.bot N 0 _ (.inl ⟨rfl,rfl⟩))
   go_wp2_with(go_at_call 117;refine HSC.o.mono ?_;rintro e w6 ⟨rfl,hp⟩;replace HR:=Hd hp;clear hp)
   go_end0
   exact⟨rfl,HR.o⟩
 · rw[if_neg h1];have HN:=Hd (pQ (lo:= -2000) (hi:=0) qJ n W);have e:(if n<0 then({s with pg:=gI s.pg s.top s.bot (-(max n (-1000))) (fun t b g=>cK g t b (yJ s))}:Sc)else s)={s with pg:=gI s.pg s.top s.bot (-uZ n (-2000) 0) (fun t b g=>cK g t b (yJ s))}:=by
    by_cases h2:n<0
    · rw[if_pos h2,mA (n:= -(max n (-1000))) (k:= -uZ n (-2000) 0) qJ s.top s.bot _ qJy]
    · rw[if_neg h2,show -uZ n (-2000) 0=0 by unfold uZ;omega,XL]
   rw[e];have hwN:jP.wrap (-uZ n (-2000) 0)= -uZ n (-2000) 0:=jH _ qJy;obtain⟨N,hN⟩:∃N,uZ n (-2000) 0=N:=⟨_,rfl⟩;rw[hN]at HN hwN ⊢;clear h hi hr hrw hN e
   go_enter Tryz.func68,Tryz.ntmps68
   go_upto_region 2 with fail
   obtain⟨c_D,-⟩:=HR.o.cellAt 0 (.pointer (some ⟨m.q.D,0,none⟩)) (fun _=>rfl);obtain⟨c_top,-⟩:=HR.o.cellAt 18 (.int .i64 s.top) (fun _=>rfl);obtain⟨c_bot,-⟩:=HR.o.cellAt 19 (.int .i64 s.bot) (fun _=>rfl);refine zU3 17 c_D c_top c_bot ?_
   repeat first|refine zS ?_|refine zC0 (zC3 HN.o) ?_|refine zC0 (zC3 HBK.o) ?_|refine zV ?_
   refine kU (fun w' hS=>?_);replace HR:=Hd (HR.o.post hS.1);clear hS c_D c_top c_bot;have HSC:=Hd (eP HR.o HI.o s.top s.bot (-N) 1 _ (.inr (.inl ⟨rfl,rfl⟩)))
   go_wp2_with(go_at_call 117;refine HSC.o.mono ?_;rintro e w6 ⟨rfl,hp⟩;replace HR:=Hd hp;clear hp)
   go_end0
   exact⟨rfl,HR.o⟩
end
theorem Yp(w:World):Calls jG 215 #[.string ⟨#[40]⟩] w fun e w'=>e=.returned (.int .i64 0)∧w=w':=by
 go_enter Tryz.func215,Tryz.ntmps215
 go_wp2
 go_ret
 exact⟨rfl,rfl⟩
theorem ZR{l:Int}(h:l=66∨l=48∨l=65):dD l={pF with g0:=l}:=by unfold dD;rw[if_pos h]
theorem ZL{l:Int}(h:¬(l=66∨l=48∨l=65)):dD l=pF:=by unfold dD;rw[if_neg h]
set_option maxHeartbeats 1600000 in
theorem Q5(l:Int)(w:World)(h0:0≤l)(h1:l<256):Calls jG 142 #[chV pF,.string ⟨#[40]⟩,.int .u8 l] w fun e w'=>e=.returned (chV (dD l))∧Below w.heap.size w w':=by
 have HP:=Hd (fun w=>Yp w)
 by_cases hl:l=66∨l=48∨l=65
 · rw[ZR hl];unfold chV pF;simp only[];rcases hl with rfl|rfl|rfl
   all_goals
    go_enter Tryz.func142,Tryz.ntmps142
    go_wp2_with(go_at_call 215;(with_reducible refine(HP.o _).mono ?_);rintro e w1 ⟨rfl,rfl⟩)
    first
     |exact bodyPost_ret (bV rfl _ _ (w.heap.size+1) (vI (dD 66)) rfl (kA (kZ qV)) Tryz.underlying43 rfl iU) rfl ⟨rfl,jW (jW (jU _ _) _) _⟩
     |exact bodyPost_ret (bV rfl _ _ (w.heap.size+1) (vI (dD 48)) rfl (kA (kZ qV)) Tryz.underlying43 rfl iU) rfl ⟨rfl,jW (jW (jU _ _) _) _⟩
     |exact bodyPost_ret (bV rfl _ _ (w.heap.size+1) (vI (dD 65)) rfl (kA (kZ qV)) Tryz.underlying43 rfl iU) rfl ⟨rfl,jW (jW (jU _ _) _) _⟩
 · rw[ZL hl];have e1:(l==66)=false:=zb (fun h=>hl (.inl h));have e2:(l==48)=false:=zb (fun h=>hl (.inr (.inl h)));have e3:(l==65)=false:=zb (fun h=>hl (.inr (.inr h)));unfold chV pF;simp only[]
   go_enter Tryz.func142,Tryz.ntmps142
   go_wp2_with(go_at_call 215;(with_reducible refine(HP.o _).mono ?_);rintro e w1 ⟨rfl,rfl⟩)
   exact bodyPost_ret (bV rfl _ _ (w.heap.size+1) (vI pF) rfl (kA (kZ qV)) Tryz.underlying43 rfl iU) rfl ⟨rfl,jW (jW (jU _ _) _) _⟩
theorem Vx(w:World):Calls jG 144 #[] w fun e w'=>e=.returned (chV pF)∧Below w.heap.size w w':=by
 go_enter Tryz.func144,Tryz.ntmps144
 go_wp2
 exact bodyPost_ret (bV rfl _ _ w.heap.size (vI pF) rfl (kA (kZ rfl)) Tryz.underlying66 rfl bE) rfl ⟨rfl,jW (jU _ _) _⟩
set_option maxHeartbeats 1600000 in
theorem Ua(l:Int)(w:World)(h0:0≤l)(h1:l<256):Calls jG 143 #[chV pF,.string ⟨#[40]⟩,.int .u8 l] w fun e w'=>e=.returned (chV (dD l))∧Below w.heap.size w w':=by
 obtain⟨W,hW⟩:∃W,(w.alloc (.cells (vI pF).toArray 66)).alloc (.cells (vI ⟨0,0,0,0,0,0⟩).toArray 66)=W:=⟨_,rfl⟩;have hb:Below w.heap.size w W:=by rw[←hW];exact jW (jW (jU _ _) _) _
 have hcx:W.heap[w.heap.size]? =some (.cells (vI pF).toArray 66 (0,0)):=by rw[←hW];exact uI (kZ rfl)
 have hcy:W.heap[w.heap.size+1]? =some (.cells (vI ⟨0,0,0,0,0,0⟩).toArray 66 (0,0)):=by rw[←hW];exact kZ qV
 have HB0:=Hd hb;have HX0:=Hd hcx;have HY0:=Hd hcy;have HW:=Hd hW;have HL:Hid ((l=66∧dD l=⟨66,66,66,66,0,0⟩)∨(l=48∧dD l=⟨48,66,66,66,0,0⟩)∨(l=65∧dD l=⟨65,66,66,66,0,0⟩)∨((l==66)=false∧(l==48)=false∧(l==65)=false∧dD l=⟨66,66,66,66,0,0⟩)):=Hd (by
  by_cases hl:l=66∨l=48∨l=65
  · have e:=ZR hl;rcases hl with rfl|rfl|rfl
    · exact .inl ⟨rfl,e⟩
    · exact .inr (.inl ⟨rfl,e⟩)
    · exact .inr (.inr (.inl ⟨rfl,e⟩))
  · exact .inr (.inr (.inr ⟨zb (fun h=>hl (.inl h)),zb (fun h=>hl (.inr (.inl h))),zb (fun h=>hl (.inr (.inr h))),ZL hl⟩)))
 have hcv:chV pF=.agg #[.int .i64 66,.int .i64 66,.int .i64 66,.int .i64 66,.int .i64 0,.int .i64 0]:=rfl;rw[hcv];clear hb hcx hcy hW hcv
 go_enter Tryz.func143,Tryz.ntmps143
 go_upto_region 1 with fail
 have hW2:(w.alloc (.cells #[.int .i64 66,.int .i64 66,.int .i64 66,.int .i64 66,.int .i64 0,.int .i64 0] 66)).alloc (.cells #[.int .i64 0,.int .i64 0,.int .i64 0,.int .i64 0,.int .i64 0,.int .i64 0] 66)=W:=HW.o;rw[hW2];clear hW2
 go_wp2_with fail
 go_loopw [7] (fun s7 wr=>∃i:Nat,s7=.int .i64 i∧i≤4∧wr.heap[w.heap.size]? =some (.cells (vI (if i=0 then pF else dD l)).toArray 66 (0,0))∧wr.heap[w.heap.size+1]? =some (.cells (vI ⟨0,0,0,0,0,0⟩).toArray 66 (0,0))∧Below w.heap.size w wr) (fun s7 _=>4-(intOf s7).toNat)
 case atStart=>exact⟨0,rfl,kT _,HX0.o,HY0.o,HB0.o⟩
 case round=>
  obtain⟨i,rfl,hi,hx,hy,hbw⟩:=hrel;have HY:=Hd hy;have HB:=Hd hbw;have HX:=Hd hx;clear HX0 HY0 HB0 HW hx hy hbw;rcases(show i=0∨i=1∨i=2∨i=3∨i=4 by omega)with rfl|rfl|rfl|rfl|rfl
  all_goals clear hi
  · obtain⟨c0,c0f⟩:=at_ HX.o 0 (.int .i64 66) rfl;have hs0:([40]:List UInt8)=((⟨#[40,41,42,43]⟩:ByteArray).extract 0 1).toList:=by decide +kernel
    rcases HL.o with⟨rfl,hl⟩|⟨rfl,hl⟩|⟨rfl,hl⟩|⟨e1,e2,e3,hl⟩
    · have HLE:=Hd hl;have HX9:=Hd (kY HX.o 0 (.int .i64 66) rfl);have HY9:=Hd (uV (i:=0) (v:=.int .i64 66) HY.o (show w.heap.size+1≠w.heap.size by omega));have HB9:=Hd (kH HB.o (jS w.heap.size) (o:=0) (.int .i64 66));clear hl HL h0 h1
      go_wp2
      go_roundw
      case rel=>exact⟨1,rfl,by omega,by rw[if_neg qZ,HLE.o];exact HX9.o,HY9.o,HB9.o⟩
      case measure=>simp[intOf]
    · have HLE:=Hd hl;have HX9:=Hd (kY HX.o 0 (.int .i64 48) rfl);have HY9:=Hd (uV (i:=0) (v:=.int .i64 48) HY.o (show w.heap.size+1≠w.heap.size by omega));have HB9:=Hd (kH HB.o (jS w.heap.size) (o:=0) (.int .i64 48));clear hl HL h0 h1
      go_wp2
      go_roundw
      case rel=>exact⟨1,rfl,by omega,by rw[if_neg qZ,HLE.o];exact HX9.o,HY9.o,HB9.o⟩
      case measure=>simp[intOf]
    · have HLE:=Hd hl;have HX9:=Hd (kY HX.o 0 (.int .i64 65) rfl);have HY9:=Hd (uV (i:=0) (v:=.int .i64 65) HY.o (show w.heap.size+1≠w.heap.size by omega));have HB9:=Hd (kH HB.o (jS w.heap.size) (o:=0) (.int .i64 65));clear hl HL h0 h1
      go_wp2
      go_roundw
      case rel=>exact⟨1,rfl,by omega,by rw[if_neg qZ,HLE.o];exact HX9.o,HY9.o,HB9.o⟩
      case measure=>simp[intOf]
    · have HLE:=Hd hl;clear hl HL h0 h1 c0 c0f
      go_wp2
      go_roundw
      case rel=>exact⟨1,rfl,by omega,by rw[if_neg qZ,HLE.o];exact HX.o,HY.o,HB.o⟩
      case measure=>simp[intOf]
  · have hs1:¬([40]:List UInt8)=((⟨#[40,41,42,43]⟩:ByteArray).extract 1 2).toList:=by decide +kernel
    clear HL h0 h1
    go_wp2
    go_roundw
    case rel=>exact⟨2,rfl,by omega,by rw[if_neg qZ];exact HX.o,HY.o,HB.o⟩
    case measure=>simp[intOf]
  · have hs1:¬([40]:List UInt8)=((⟨#[40,41,42,43]⟩:ByteArray).extract 2 3).toList:=by decide +kernel
    clear HL h0 h1
    go_wp2
    go_roundw
    case rel=>exact⟨3,rfl,by omega,by rw[if_neg qZ];exact HX.o,HY.o,HB.o⟩
    case measure=>simp[intOf]
  · have hs1:¬([40]:List UInt8)=((⟨#[40,41,42,43]⟩:ByteArray).extract 3 4).toList:=by decide +kernel
    clear HL h0 h1
    go_wp2
    go_roundw
    case rel=>exact⟨4,rfl,by omega,by rw[if_neg qZ];exact HX.o,HY.o,HB.o⟩
    case measure=>simp[intOf]
  · clear HL h0 h1;have hx4:wr.heap[w.heap.size]? =some (.cells (vI (dD l)).toArray 66 (0,0)):=by have h:=HX.o;rw[if_neg qZ]at h;exact h
    obtain⟨c,hc⟩:∃c,dD l=c:=⟨_,rfl⟩;have HC:=Hd hc;rw[hc]at hx4;clear hc HX;obtain⟨g0,g1,g2,g3,u,o⟩:=c
    go_upto_region 6 with fail
    refine wp_region_lit ?_;refine uF qK 66 (.tmp 3) rfl (w.heap.size) (0) rfl (vI ⟨g0,g1,g2,g3,u,o⟩) _ (kA hx4) Tryz.underlying66 rfl bE ?_;refine zP ?_;refine wpList_store_mid rfl 66 (.tmp 6) (.tmp 35) rfl (w.heap.size+1) (0) ((vI ⟨g0,g1,g2,g3,u,o⟩).toArray) rfl rfl ((show World.there _ (w.heap.size+1) 0 6 from gH HY.o)) bE (all_oneCell_toArray (dB _)) ?_;simp only[Act.put]
    go_wp2
    have hw:=uB (vI ⟨g0,g1,g2,g3,u,o⟩) 0 _ _ HY.o qVl;exact bodyPost_ret (bV rfl _ _ (w.heap.size+1) (vI ⟨g0,g1,g2,g3,u,o⟩) rfl (kA hw) Tryz.underlying66 rfl bE) rfl ⟨by rw[HC.o];rfl,gX HB.o qJ _ _⟩
section
variable {base rows cols room:Nat}{w W:World}{m:Mv}{s:Sc}
theorem fN:(jG.info? 68).map (·.size)=some 14:=oH
set_option maxHeartbeats 3200000 in
theorem Ji(h:uN base w m s W)(hi:DmI rows cols room s):Calls jG 69 #[.pointer (some ⟨m.M,0,none⟩)] W (vB base w m (cI s)):=by
 have HR:=Hd h;have HI:=Hd hi;have HIN:Hid (∀V,uN base w m s V→bP 42 #[.pointer (some ⟨m.M,0,none⟩)] V (.int .i64 (inS s))):=Hd (fun V hV=>bF hV hi.n.x0);clear h hi
 go_enter Tryz.func69,Tryz.ntmps69
 go_upto_region 0 with fail
 obtain⟨c_fk,-⟩:=HR.o.cellAt 2 (.int .i64 s.pen.at_.fk) (fun _=>rfl);obtain⟨c_fn,-⟩:=HR.o.cellAt 3 (.int .i64 s.pen.at_.fn) (fun _=>rfl);obtain⟨c_bk,-⟩:=HR.o.cellAt 4 (.int .i64 s.pen.at_.bk) (fun _=>rfl);obtain⟨c_bn,-⟩:=HR.o.cellAt 5 (.int .i64 s.pen.at_.bn) (fun _=>rfl);obtain⟨c_fl,-⟩:=HR.o.cellAt 6 (.int .i64 s.pen.at_.fl) (fun _=>rfl);obtain⟨c_g0,-⟩:=HR.o.cellAt 7 (.int .i64 s.pen.ch.g0) (fun _=>rfl);obtain⟨c_g1,-⟩:=HR.o.cellAt 8 (.int .i64 s.pen.ch.g1) (fun _=>rfl);obtain⟨c_g2,-⟩:=HR.o.cellAt 9 (.int .i64 s.pen.ch.g2) (fun _=>rfl);obtain⟨c_g3,-⟩:=HR.o.cellAt 10 (.int .i64 s.pen.ch.g3) (fun _=>rfl);obtain⟨c_use,-⟩:=HR.o.cellAt 11 (.int .i64 s.pen.ch.use) (fun _=>rfl);obtain⟨c_once,-⟩:=HR.o.cellAt 12 (.int .i64 s.pen.ch.once) (fun _=>rfl);obtain⟨c_put,-⟩:=HR.o.cellAt 13 (.bool s.pen.put) (fun _=>rfl);obtain⟨c_wrap,-⟩:=HR.o.cellAt 14 (.bool s.pen.wrap) (fun _=>rfl);obtain⟨c_home,-⟩:=HR.o.cellAt 15 (.bool s.pen.home) (fun _=>rfl);obtain⟨c_y,-⟩:=HR.o.cellAt 16 (.int .i64 s.y) (fun _=>rfl)
 refine Go.RL.wp_region_l 25 (fun w'=>w'.cell? ⟨m.M,2,none⟩=some (.int .i64 s.pen.at_.fk)∧w'.cell? ⟨m.M,3,none⟩=some (.int .i64 s.pen.at_.fn)∧w'.cell? ⟨m.M,4,none⟩=some (.int .i64 s.pen.at_.bk)∧w'.cell? ⟨m.M,5,none⟩=some (.int .i64 s.pen.at_.bn)∧w'.cell? ⟨m.M,6,none⟩=some (.int .i64 s.pen.at_.fl)∧w'.cell? ⟨m.M,7,none⟩=some (.int .i64 s.pen.ch.g0)∧w'.cell? ⟨m.M,8,none⟩=some (.int .i64 s.pen.ch.g1)∧w'.cell? ⟨m.M,9,none⟩=some (.int .i64 s.pen.ch.g2)∧w'.cell? ⟨m.M,10,none⟩=some (.int .i64 s.pen.ch.g3)∧w'.cell? ⟨m.M,11,none⟩=some (.int .i64 s.pen.ch.use)∧w'.cell? ⟨m.M,12,none⟩=some (.int .i64 s.pen.ch.once)∧w'.cell? ⟨m.M,13,none⟩=some (.bool s.pen.put)∧w'.cell? ⟨m.M,14,none⟩=some (.bool s.pen.wrap)∧w'.cell? ⟨m.M,15,none⟩=some (.bool s.pen.home)∧w'.cell? ⟨m.M,16,none⟩=some (.int .i64 s.y)) (fun w'=>uN base w m s w') qQ qQ ⟨c_fk,c_fn,c_bk,c_bn,c_fl,c_g0,c_g1,c_g2,c_g3,c_use,c_once,c_put,c_wrap,c_home,c_y⟩ (HR.o.post (jU _ _).drew) ?_;clear c_fk c_fn c_bk c_bn c_fl c_g0 c_g1 c_g2 c_g3 c_use c_once c_put c_wrap c_home c_y;refine Go.RL.AtL.go 0 ?_
 iterate 13 refine zK ?_
 refine Go.RL.AtK.back ?_;refine Go.RL.AtL.one 13 (o:=⟨_,_,_,_,_,_⟩) (fun v=>v=.int .i64 (inS s)) (fun _ w'=>uN base w m s w') qV qQ rfl
  (Go.RL.StabL.call 42 #[.pointer (some ⟨m.M,0,none⟩)] _ _ qK ?_ (fun w' hI hS=>?_)) ?_
 · intro w'
   go_simp
 · refine((HIN.o w' hS).here).mono ?_;rintro e w3 ⟨rfl,hb⟩;exact⟨_,rfl,rfl,⟨jA hb (hI.1),jA hb (hI.2.1),jA hb (hI.2.2.1),jA hb (hI.2.2.2.1),jA hb (hI.2.2.2.2.1),jA hb (hI.2.2.2.2.2.1),jA hb (hI.2.2.2.2.2.2.1),jA hb (hI.2.2.2.2.2.2.2.1),jA hb (hI.2.2.2.2.2.2.2.2.1),jA hb (hI.2.2.2.2.2.2.2.2.2.1),jA hb (hI.2.2.2.2.2.2.2.2.2.2.1),jA hb (hI.2.2.2.2.2.2.2.2.2.2.2.1),jA hb (hI.2.2.2.2.2.2.2.2.2.2.2.2.1),jA hb (hI.2.2.2.2.2.2.2.2.2.2.2.2.2.1),jA hb (hI.2.2.2.2.2.2.2.2.2.2.2.2.2.2)⟩,hS.post hb⟩
 rintro v1 rfl;refine zP ?_;refine Go.RL.AtL.go 14 ?_
 iterate 2 refine zK ?_
 refine Go.RL.AtK.back ?_;refine Go.RL.AtL.one 16 (o:=⟨none,.store 4 (.tmp 17) (.const (.bool true)),_,_,_,_⟩) (fun _=>True) (fun _ w'=>uN base w m ({s with has:=true}) w') qV qQ rfl (Go.RL.StabL.unit _ _ qK (fun w' hI hS=>?_)) ?_
 · obtain⟨ca,cf⟩:=hS.cellAt 20 (.bool s.has) (fun _=>rfl);have hq:uN base w m ({s with has:=true}) (w'.setCell ⟨m.M,20,none⟩ (.bool true)):=hS.put 20 (.bool true) (fun _=>rfl) rfl rfl
   refine⟨_,?_,trivial,⟨(hq.cellAt 2 (.int .i64 {s with has:=true}.pen.at_.fk) (fun _=>rfl)).1,(hq.cellAt 3 (.int .i64 {s with has:=true}.pen.at_.fn) (fun _=>rfl)).1,(hq.cellAt 4 (.int .i64 {s with has:=true}.pen.at_.bk) (fun _=>rfl)).1,(hq.cellAt 5 (.int .i64 {s with has:=true}.pen.at_.bn) (fun _=>rfl)).1,(hq.cellAt 6 (.int .i64 {s with has:=true}.pen.at_.fl) (fun _=>rfl)).1,(hq.cellAt 7 (.int .i64 {s with has:=true}.pen.ch.g0) (fun _=>rfl)).1,(hq.cellAt 8 (.int .i64 {s with has:=true}.pen.ch.g1) (fun _=>rfl)).1,(hq.cellAt 9 (.int .i64 {s with has:=true}.pen.ch.g2) (fun _=>rfl)).1,(hq.cellAt 10 (.int .i64 {s with has:=true}.pen.ch.g3) (fun _=>rfl)).1,(hq.cellAt 11 (.int .i64 {s with has:=true}.pen.ch.use) (fun _=>rfl)).1,(hq.cellAt 12 (.int .i64 {s with has:=true}.pen.ch.once) (fun _=>rfl)).1,(hq.cellAt 13 (.bool {s with has:=true}.pen.put) (fun _=>rfl)).1,(hq.cellAt 14 (.bool {s with has:=true}.pen.wrap) (fun _=>rfl)).1,(hq.cellAt 15 (.bool {s with has:=true}.pen.home) (fun _=>rfl)).1,(hq.cellAt 16 (.int .i64 {s with has:=true}.y) (fun _=>rfl)).1⟩,hq⟩;clear hI
   go_simp
 rintro vS -;simp only[Act.put];refine Go.RL.AtL.go 17 ?_
 iterate 2 refine zK ?_
 refine Go.RL.AtK.back ?_;refine Go.RL.AtL.one 19 (o:=⟨none,.store 68 (.tmp 19) (.tmp 9),_,_,_,_⟩) (fun _=>True) (fun _ w'=>uN base w m ({s with has:=true,sp:=s.pen}) w') qV qQ rfl (Go.RL.StabL.unit _ _ qK (fun w' hI hS=>?_)) ?_
 · have hq:uN base w m ({s with has:=true,sp:=s.pen}) (w'.setCells m.M 21 (peL s.pen)):=hS.puts 21 (peL s.pen) qVp (fun _=>rfl) rfl rfl
   exact⟨_,yS 68 (.tmp 19) (.tmp 9) rfl m.M 21 (peL s.pen).toArray rfl rfl (hS.there qVp) fN (all_oneCell_toArray (iY _)),trivial,⟨(hq.cellAt 2 (.int .i64 {s with has:=true,sp:=s.pen}.pen.at_.fk) (fun _=>rfl)).1,(hq.cellAt 3 (.int .i64 {s with has:=true,sp:=s.pen}.pen.at_.fn) (fun _=>rfl)).1,(hq.cellAt 4 (.int .i64 {s with has:=true,sp:=s.pen}.pen.at_.bk) (fun _=>rfl)).1,(hq.cellAt 5 (.int .i64 {s with has:=true,sp:=s.pen}.pen.at_.bn) (fun _=>rfl)).1,(hq.cellAt 6 (.int .i64 {s with has:=true,sp:=s.pen}.pen.at_.fl) (fun _=>rfl)).1,(hq.cellAt 7 (.int .i64 {s with has:=true,sp:=s.pen}.pen.ch.g0) (fun _=>rfl)).1,(hq.cellAt 8 (.int .i64 {s with has:=true,sp:=s.pen}.pen.ch.g1) (fun _=>rfl)).1,(hq.cellAt 9 (.int .i64 {s with has:=true,sp:=s.pen}.pen.ch.g2) (fun _=>rfl)).1,(hq.cellAt 10 (.int .i64 {s with has:=true,sp:=s.pen}.pen.ch.g3) (fun _=>rfl)).1,(hq.cellAt 11 (.int .i64 {s with has:=true,sp:=s.pen}.pen.ch.use) (fun _=>rfl)).1,(hq.cellAt 12 (.int .i64 {s with has:=true,sp:=s.pen}.pen.ch.once) (fun _=>rfl)).1,(hq.cellAt 13 (.bool {s with has:=true,sp:=s.pen}.pen.put) (fun _=>rfl)).1,(hq.cellAt 14 (.bool {s with has:=true,sp:=s.pen}.pen.wrap) (fun _=>rfl)).1,(hq.cellAt 15 (.bool {s with has:=true,sp:=s.pen}.pen.home) (fun _=>rfl)).1,(hq.cellAt 16 (.int .i64 {s with has:=true,sp:=s.pen}.y) (fun _=>rfl)).1⟩,hq⟩
 rintro vS -;simp only[Act.put];refine Go.RL.AtL.go 20 ?_
 iterate 2 refine zK ?_
 refine Go.RL.AtK.back ?_;refine Go.RL.AtL.one 22 (o:=⟨none,.store 3 (.tmp 21) (.tmp 13),_,_,_,_⟩) (fun _=>True) (fun _ w'=>uN base w m ({s with has:=true,sp:=s.pen,sy:=s.y}) w') qV qQ rfl (Go.RL.StabL.unit _ _ qK (fun w' hI hS=>?_)) ?_
 · obtain⟨ca,cf⟩:=hS.cellAt 35 (.int .i64 s.sy) (fun _=>rfl);have hq:uN base w m ({s with has:=true,sp:=s.pen,sy:=s.y}) (w'.setCell ⟨m.M,35,none⟩ (.int .i64 s.y)):=hS.put 35 (.int .i64 s.y) (fun _=>rfl) rfl rfl
   refine⟨_,?_,trivial,⟨(hq.cellAt 2 (.int .i64 {s with has:=true,sp:=s.pen,sy:=s.y}.pen.at_.fk) (fun _=>rfl)).1,(hq.cellAt 3 (.int .i64 {s with has:=true,sp:=s.pen,sy:=s.y}.pen.at_.fn) (fun _=>rfl)).1,(hq.cellAt 4 (.int .i64 {s with has:=true,sp:=s.pen,sy:=s.y}.pen.at_.bk) (fun _=>rfl)).1,(hq.cellAt 5 (.int .i64 {s with has:=true,sp:=s.pen,sy:=s.y}.pen.at_.bn) (fun _=>rfl)).1,(hq.cellAt 6 (.int .i64 {s with has:=true,sp:=s.pen,sy:=s.y}.pen.at_.fl) (fun _=>rfl)).1,(hq.cellAt 7 (.int .i64 {s with has:=true,sp:=s.pen,sy:=s.y}.pen.ch.g0) (fun _=>rfl)).1,(hq.cellAt 8 (.int .i64 {s with has:=true,sp:=s.pen,sy:=s.y}.pen.ch.g1) (fun _=>rfl)).1,(hq.cellAt 9 (.int .i64 {s with has:=true,sp:=s.pen,sy:=s.y}.pen.ch.g2) (fun _=>rfl)).1,(hq.cellAt 10 (.int .i64 {s with has:=true,sp:=s.pen,sy:=s.y}.pen.ch.g3) (fun _=>rfl)).1,(hq.cellAt 11 (.int .i64 {s with has:=true,sp:=s.pen,sy:=s.y}.pen.ch.use) (fun _=>rfl)).1,(hq.cellAt 12 (.int .i64 {s with has:=true,sp:=s.pen,sy:=s.y}.pen.ch.once) (fun _=>rfl)).1,(hq.cellAt 13 (.bool {s with has:=true,sp:=s.pen,sy:=s.y}.pen.put) (fun _=>rfl)).1,(hq.cellAt 14 (.bool {s with has:=true,sp:=s.pen,sy:=s.y}.pen.wrap) (fun _=>rfl)).1,(hq.cellAt 15 (.bool {s with has:=true,sp:=s.pen,sy:=s.y}.pen.home) (fun _=>rfl)).1,(hq.cellAt 16 (.int .i64 {s with has:=true,sp:=s.pen,sy:=s.y}.y) (fun _=>rfl)).1⟩,hq⟩
   clear hI
   go_simp
 rintro vS -;simp only[Act.put];refine Go.RL.AtL.go 23 ?_
 iterate 2 refine zK ?_
 refine Go.RL.AtK.back ?_;refine Go.RL.AtL.done qQ (fun w' hI hS=>?_);replace HR:=Hd hS;obtain⟨c36,f36⟩:=hS.cellAt 36 (.int .i64 s.sx) (fun _=>rfl);clear hI hS
 go_wp2
 go_end0
 exact⟨rfl,HR.o.put 36 _ (fun _=>rfl) rfl rfl⟩
set_option maxHeartbeats 3200000 in
theorem QB(h:uN base w m s W)(hi:DmI rows cols room s):Calls jG 74 #[.pointer (some ⟨m.M,0,none⟩)] W (vB base w m (fW s)):=by
 have hr:=hi.r;have HR:=Hd h;have HI:=Hd hi;have HF:=Hd (fun w=>nQ w);unfold peL at HF;have HRW:Hid (∀V,uN base w m s V→bP 87 #[.pointer (some ⟨m.q.D,0,none⟩)] V (.int .i64 rows)):=Hd (fun V hV=>zB hV hi);have hwr:jP.wrap ((rows:Int)-1)=(rows:Int)-1:=jH _ qJ;have e:fW s={s with pen:=vW,has:=false,last:=0,top:=0,bot:=(rows:Int)-1,sp:=bH,sy:=0,sx:=0}:=by show({s with pen:=vW,sp:=bH,sy:=0,sx:=0,has:=false,last:=0,top:=0,bot:=rowsS s-1}:Sc)=_;rw[hi.n.rowsS]
 rw[e];clear h hi hr e
 go_enter Tryz.func74,Tryz.ntmps74
 go_upto_region 0 with fail
 obtain⟨c_D,-⟩:=HR.o.cellAt 0 (.pointer (some ⟨m.q.D,0,none⟩)) (fun _=>rfl);refine Go.RL.wp_region_l 26 (fun w'=>w'.cell? ⟨m.M,0,none⟩=some (.pointer (some ⟨m.q.D,0,none⟩))) (fun w'=>uN base w m s w') qQ qQ c_D (HR.o.post (jU _ _).drew) ?_;clear c_D;refine Go.RL.AtL.go 0 ?_
 iterate 5 refine zK ?_
 refine Go.RL.AtK.back ?_;refine Go.RL.AtL.go 6 ?_
 iterate 4 refine zK ?_
 refine Go.RL.AtK.back ?_;refine Go.RL.AtL.one 5 (o:=⟨_,_,_,_,_,_⟩) (fun v=>v=.agg (peL vW).toArray) (fun _ w'=>uN base w m s w') qV qQ rfl
  (Go.RL.StabL.call 106 #[] _ _ qK ?_ (fun w' hI hS=>?_)) ?_
 · intro w'
   go_simp
 · refine((HF.o w')).mono ?_;rintro e w3 ⟨rfl,hb⟩;exact⟨_,rfl,rfl,jA hb (hI),hS.post hb⟩
 rintro v1 rfl;refine zP ?_;refine Go.RL.AtL.one 10 (o:=⟨_,_,_,_,_,_⟩) (fun v=>v=.int .i64 rows) (fun _ w'=>uN base w m s w') qV qQ rfl
  (Go.RL.StabL.call 87 #[.pointer (some ⟨m.q.D,0,none⟩)] _ _ qK ?_ (fun w' hI hS=>?_)) ?_
 · intro w'
   go_simp
 · refine((HRW.o w' hS).here).mono ?_;rintro e w3 ⟨rfl,hb⟩;exact⟨_,rfl,rfl,jA hb (hI),hS.post hb⟩
 rintro v1 rfl;refine zP ?_;refine Go.RL.AtL.go 11 ?_
 iterate 3 refine zK ?_
 refine Go.RL.AtK.back ?_;refine Go.RL.AtL.one 14 (o:=⟨none,.store 68 (.tmp 15) (.tmp 7),_,_,_,_⟩) (fun _=>True) (fun _ w'=>uN base w m ({s with pen:=vW}) w') qV qQ rfl (Go.RL.StabL.unit _ _ qK (fun w' hI hS=>?_)) ?_
 · have hq:uN base w m ({s with pen:=vW}) (w'.setCells m.M 2 (peL vW)):=hS.puts 2 (peL vW) qVu (fun _=>rfl) rfl rfl;exact⟨_,yS 68 (.tmp 15) (.tmp 7) rfl m.M 2 (peL vW).toArray rfl rfl (hS.there qVu) fN (all_oneCell_toArray (iY _)),trivial,(hq.cellAt 0 (.pointer (some ⟨m.q.D,0,none⟩)) (fun _=>rfl)).1,hq⟩
 rintro vS -;simp only[Act.put];refine Go.RL.AtL.go 15 ?_
 iterate 2 refine zK ?_
 refine Go.RL.AtK.back ?_;refine Go.RL.AtL.one 17 (o:=⟨none,.store 4 (.tmp 17) (.const (.bool false)),_,_,_,_⟩) (fun _=>True) (fun _ w'=>uN base w m ({s with pen:=vW,has:=false}) w') qV qQ rfl (Go.RL.StabL.unit _ _ qK (fun w' hI hS=>?_)) ?_
 · obtain⟨ca,cf⟩:=hS.cellAt 20 (.bool s.has) (fun _=>rfl);have hq:uN base w m ({s with pen:=vW,has:=false}) (w'.setCell ⟨m.M,20,none⟩ (.bool false)):=hS.put 20 (.bool false) (fun _=>rfl) rfl rfl;refine⟨_,?_,trivial,(hq.cellAt 0 (.pointer (some ⟨m.q.D,0,none⟩)) (fun _=>rfl)).1,hq⟩;clear hI
   go_simp
 rintro vS -;simp only[Act.put];refine Go.RL.AtL.go 18 ?_
 iterate 2 refine zK ?_
 refine Go.RL.AtK.back ?_;refine Go.RL.AtL.one 20 (o:=⟨none,.store 21 (.tmp 19) (.const (.int .i32 0)),_,_,_,_⟩) (fun _=>True) (fun _ w'=>uN base w m ({s with pen:=vW,has:=false,last:=0}) w') qV qQ rfl (Go.RL.StabL.unit _ _ qK (fun w' hI hS=>?_)) ?_
 · obtain⟨ca,cf⟩:=hS.cellAt 37 (.int .i32 s.last) (fun _=>rfl);have hq:uN base w m ({s with pen:=vW,has:=false,last:=0}) (w'.setCell ⟨m.M,37,none⟩ (.int .i32 0)):=hS.put 37 (.int .i32 0) (fun _=>rfl) rfl rfl;refine⟨_,?_,trivial,(hq.cellAt 0 (.pointer (some ⟨m.q.D,0,none⟩)) (fun _=>rfl)).1,hq⟩;clear hI
   go_simp
 rintro vS -;simp only[Act.put];refine Go.RL.AtL.go 21 ?_
 iterate 2 refine zK ?_
 refine Go.RL.AtK.back ?_;refine Go.RL.AtL.one 23 (o:=⟨none,.store 3 (.tmp 21) (.const (.int .i64 0)),_,_,_,_⟩) (fun _=>True) (fun _ w'=>uN base w m ({s with pen:=vW,has:=false,last:=0,top:=0}) w') qV qQ rfl (Go.RL.StabL.unit _ _ qK (fun w' hI hS=>?_)) ?_
 · obtain⟨ca,cf⟩:=hS.cellAt 18 (.int .i64 s.top) (fun _=>rfl);have hq:uN base w m ({s with pen:=vW,has:=false,last:=0,top:=0}) (w'.setCell ⟨m.M,18,none⟩ (.int .i64 0)):=hS.put 18 (.int .i64 0) (fun _=>rfl) rfl rfl;refine⟨_,?_,trivial,(hq.cellAt 0 (.pointer (some ⟨m.q.D,0,none⟩)) (fun _=>rfl)).1,hq⟩;clear hI
   go_simp
 rintro vS -;simp only[Act.put];refine Go.RL.AtL.go 24 ?_
 iterate 2 refine zK ?_
 refine Go.RL.AtK.back ?_;refine Go.RL.AtL.done qQ (fun w' hI hS=>?_);replace HR:=Hd hS;obtain⟨c19,f19⟩:=hS.cellAt 19 (.int .i64 s.bot) (fun _=>rfl);clear hI hS
 go_upto_region 1 with fail
 replace HR:=Hd (HR.o.put 19 (.int .i64 ((rows:Int)-1)) (s':={s with pen:=vW,has:=false,last:=0,top:=0,bot:=(rows:Int)-1}) (fun _=>rfl) rfl rfl);generalize uQ _ _ _=W5 at HR ⊢;clear c19 f19;refine wp_region_lit ?_;refine zG (.pointer (some ⟨m.M,0,none⟩)) ?_;refine zG (.pointer (some ⟨m.M,0,none⟩)) ?_;refine zG (.pointer (some ⟨m.M,0,none⟩)) ?_;refine jM (.agg (peL bH).toArray) qK qJ9 ?_;refine zP ?_;refine zGs (.pointer (some ⟨m.M,0,none⟩)) ?_;refine zGs (.pointer (some ⟨m.M,21,none⟩)) ?_;refine wpList_store_mid rfl 68 (.tmp 29) (.tmp 27) rfl (m.M) (21) ((peL bH).toArray) rfl rfl (HR.o.there qVp) fN (all_oneCell_toArray (iY _)) ?_;simp only[Act.put];replace HR:=Hd (HR.o.puts 21 (peL bH) qVp (s':={s with pen:=vW,has:=false,last:=0,top:=0,bot:=(rows:Int)-1,sp:=bH}) (fun _=>rfl) rfl rfl);change wpList _ _ _ _ _ (W5.setCells m.M 21 (peL bH));generalize W5.setCells m.M 21 (peL bH)=W6 at HR ⊢;obtain⟨c35,f35⟩:=HR.o.cellAt 35 (.int .i64 s.sy) (fun _=>rfl);obtain⟨c36,f36⟩:=HR.o.cellAt 36 (.int .i64 s.sx) (fun _=>rfl)
 go_wp2
 go_end0
 exact⟨rfl,(HR.o.put 35 (.int .i64 0) (s':={s with pen:=vW,has:=false,last:=0,top:=0,bot:=(rows:Int)-1,sp:=bH,sy:=0}) (fun _=>rfl) rfl rfl).put 36 (.int .i64 0) (fun _=>rfl) rfl rfl⟩
set_option maxHeartbeats 3200000 in
theorem Vw{base2:Nat}{mo:Mv}{so:Sc}(h:uN base w m s W)(hi:DmI rows cols room s)(ho:DmO base2 W mo so)(hox:0≤so.x)(hM:m.M∉dmX mo):Calls jG 23 #[.pointer (some ⟨m.M,0,none⟩),.pointer (some ⟨mo.M,0,none⟩)] W (vB base w m (tM s so)):=by
 have hr:=hi.r;have hc:=hi.c;have hc2:=hi.c2;have hr0:0<rows:=by have :=hi.n.y0;have :=hi.n.y1;omega
 have HR:=Hd h;have HI:Hid (DmI rows cols room {s with pen:=so.pen}):=Hd (hi.to (hi.n.pen _) hi.t);have HI7:Hid (DmI rows cols room {s with pen:=so.pen,y:=uZ so.y 0 ((rows:Int)-1)}):=Hd (HI.o.to (HI.o.n.to (x:=s.x) (zO qJ).1 (by have :=(zO (n:=so.y) (lo:=0) (hi:=(rows:Int)-1) qJ).2;omega) HI.o.n.x0 HI.o.n.x1) HI.o.t);have HO:=Hd ho;have e:tM s so={s with pen:=so.pen,y:=uZ so.y 0 ((rows:Int)-1),x:=uZ (inS so) 0 ((cols:Int)-1)}:=by
  show({s with pen:=so.pen,y:=uZ so.y 0 (rowsS s-1),x:=uZ (inS so) 0 (colsS s-1)}:Sc)=_;rw[hi.n.rowsS,hi.n.colsS]
 rw[e];have hwr:jP.wrap ((rows:Int)-1)=(rows:Int)-1:=jH _ qJ;have hwc:jP.wrap ((cols:Int)-1)=(cols:Int)-1:=jH _ qJ;have HN1:Hid (∀V,bP 86 #[.int .i64 so.y,.int .i64 0,.int .i64 ((rows:Int)-1)] V (.int .i64 (uZ so.y 0 ((rows:Int)-1)))):=Hd (fun V=>pQ qJ so.y V);have HN2:Hid (∀V,bP 86 #[.int .i64 (inS so),.int .i64 0,.int .i64 ((cols:Int)-1)] V (.int .i64 (uZ (inS so) 0 ((cols:Int)-1)))):=Hd (fun V=>pQ qJ (inS so) V);have HNE:Hid (mo.M≠m.M):=Hd (fun hx=>hM (by rw[←hx];simp[dmX]));have HMO:Hid (DmO base2 (W.setCells m.M 2 (peL so.pen)) mo so):=Hd (by
  have hm:Mod [m.M] W (W.setCells m.M 2 (peL so.pen)):=gM (.inl qV) (peL so.pen) 2 W (Mod.refl _ _);obtain⟨vs,hb⟩:=h.blk;exact ho.mod hm (fun b hb' cs f he=>by rw[jR.1 hb']at he;exact uP hb he qZ rfl) (fun b hb' hx=>hM (by rw[←jR.1 hx];exact hb')))
 clear h hi ho hr hc hc2 hr0 e hM
 go_enter Tryz.func23,Tryz.ntmps23
 go_upto_region 0 with fail
 refine wp_region_lit ?_;refine zG (.pointer (some ⟨m.M,0,none⟩)) ?_;refine zG (.pointer (some ⟨mo.M,0,none⟩)) ?_;have f_o:=(kC HO.o.blk 2 (.int .i64 so.pen.at_.fk) rfl).1;refine zGs (.pointer (some ⟨mo.M,0,none⟩)) ?_;refine zGs (.pointer (some ⟨mo.M,2,none⟩)) ?_;refine uF qK 68 (.tmp 7) rfl (mo.M) (2) rfl (peL so.pen) _ (HO.o.range (n:=14) rfl) Tryz.underlying68 rfl fN ?_;refine zP ?_;refine zGs (.pointer (some ⟨m.M,0,none⟩)) ?_;refine zGs (.pointer (some ⟨m.M,2,none⟩)) ?_;refine wpList_store_mid rfl 68 (.tmp 10) (.tmp 8) rfl (m.M) (2) ((peL so.pen).toArray) rfl rfl (HR.o.there qVu) fN (all_oneCell_toArray (iY _)) ?_;simp only[Act.put];replace HR:=Hd (HR.o.puts 2 (peL so.pen) qVu (s':={s with pen:=so.pen}) (fun _=>rfl) rfl rfl);change wpList _ _ _ _ _ (W.setCells m.M 2 (peL so.pen));generalize W.setCells m.M 2 (peL so.pen)=W2 at HR HMO ⊢;clear f_o HO;have HOO:=HMO;have HRW:=Hd (zB HR.o HI.o);have HIO:=Hd (bF HOO.o.res hox)
 go_upto_region 1 with fail
 obtain⟨c_D,-⟩:=HR.o.cellAt 0 (.pointer (some ⟨m.q.D,0,none⟩)) (fun _=>rfl);have c_C:=HR.o.colsI HI.o;have o_y:=(kC HOO.o.blk 16 (.int .i64 so.y) rfl).1;refine Go.RL.wp_region_l 29 (fun w'=>w'.cell? ⟨m.M,0,none⟩=some (.pointer (some ⟨m.q.D,0,none⟩))∧w'.cell? ⟨m.q.D,2,none⟩=some (.int .i64 cols)∧w'.cell? ⟨mo.M,16,none⟩=some (.int .i64 so.y)) (fun w'=>Below W2.heap.size W2 w'∧uN base w m {s with pen:=so.pen} w') qQ qQ ⟨c_D,c_C,o_y⟩ (⟨(jU _ _).drew,HR.o.post (jU _ _).drew⟩) ?_;clear c_D c_C o_y;refine Go.RL.AtL.go 0 ?_
 iterate 10 refine zK ?_
 refine Go.RL.AtK.back ?_;refine Go.RL.AtL.take 13 (o:=⟨_,_,_,_,_,_⟩) (v:=?_) qQ rfl qV qQ qQ ?_ ?_;rotate_left
 · (refine Go.RL.Pure.val qK ?_;intro w' hI;obtain⟨_,_,_⟩:=hI;go_simp;first|done|with_reducible rfl)
 refine zP ?_;refine Go.RL.AtL.go 15 ?_
 iterate 8 refine zK ?_
 refine Go.RL.AtK.back ?_;refine Go.RL.AtL.one 10 (o:=⟨_,_,_,_,_,_⟩) (fun v=>v=.int .i64 rows) (fun _ w'=>Below W2.heap.size W2 w'∧uN base w m {s with pen:=so.pen} w') qV qQ rfl
  (Go.RL.StabL.call 87 #[.pointer (some ⟨m.q.D,0,none⟩)] _ _ qK ?_ (fun w' hI hS=>?_)) ?_
 · intro w'
   go_simp
 · refine((HRW.o w' hS.1)).mono ?_;rintro e w3 ⟨rfl,hb⟩;exact qXm
 rintro v1 rfl;refine zP ?_;refine Go.RL.AtL.take 11 (o:=⟨_,_,_,_,_,_⟩) (v:=?_) qQ rfl qV qQ qQ ?_ ?_;rotate_left
 · (refine Go.RL.Pure.val qK ?_;intro w' hI;obtain⟨_,_,_⟩:=hI;go_simp;first|done|with_reducible rfl)
 refine zP ?_;refine Go.RL.AtL.one 12 (o:=⟨_,_,_,_,_,_⟩) (fun v=>v=.int .i64 (uZ so.y 0 ((rows:Int)-1))) (fun _ w'=>Below W2.heap.size W2 w'∧uN base w m {s with pen:=so.pen} w') qV qQ rfl
  (Go.RL.StabL.call 86 #[.int .i64 so.y,.int .i64 0,.int .i64 ((rows:Int)-1)] _ _ qK ?_ (fun w' hI hS=>?_)) ?_
 · intro w'
   go_simp
 · refine(((HN1.o w').here)).mono ?_;rintro e w3 ⟨rfl,hb⟩;exact qXm
 rintro v1 rfl;refine zP ?_;refine Go.RL.AtL.one 14 (o:=⟨_,_,_,_,_,_⟩) (fun v=>v=.int .i64 (inS so)) (fun _ w'=>Below W2.heap.size W2 w'∧uN base w m {s with pen:=so.pen} w') qV qQ rfl
  (Go.RL.StabL.call 42 #[.pointer (some ⟨mo.M,0,none⟩)] _ _ qK ?_ (fun w' hI hS=>?_)) ?_
 · intro w'
   go_simp
 · refine((HIO.o w' hS.1)).mono ?_;rintro e w3 ⟨rfl,hb⟩;exact qXm
 rintro v1 rfl;refine zP ?_;refine Go.RL.AtL.one 23 (o:=⟨_,_,_,_,_,_⟩) (fun v=>v=.int .i64 (uZ (inS so) 0 ((cols:Int)-1))) (fun _ w'=>Below W2.heap.size W2 w'∧uN base w m {s with pen:=so.pen} w') qV qQ rfl
  (Go.RL.StabL.call 86 #[.int .i64 (inS so),.int .i64 0,.int .i64 ((cols:Int)-1)] _ _ qK ?_ (fun w' hI hS=>?_)) ?_
 · intro w'
   go_simp
 · refine(((HN2.o w').here)).mono ?_;rintro e w3 ⟨rfl,hb⟩;exact qXm
 rintro v1 rfl;refine zP ?_;refine Go.RL.AtL.go 24 ?_
 iterate 2 refine zK ?_
 refine Go.RL.AtK.back ?_;refine Go.RL.AtL.one 26 (o:=⟨none,.store 3 (.tmp 36) (.tmp 23),_,_,_,_⟩) (fun _=>True) (fun _ w'=>uN base w m {s with pen:=so.pen,y:=uZ so.y 0 ((rows:Int)-1)} w') qV qQ rfl (Go.RL.StabL.unit _ _ qK (fun w' hI hS=>?_)) ?_
 · obtain⟨ca,cf⟩:=hS.2.cellAt 16 (.int .i64 s.y) (fun _=>rfl);have hq:uN base w m {s with pen:=so.pen,y:=uZ so.y 0 ((rows:Int)-1)} (w'.setCell ⟨m.M,16,none⟩ (.int .i64 (uZ so.y 0 ((rows:Int)-1)))):=hS.2.put 16 _ (fun _=>rfl) rfl rfl;refine⟨_,?_,trivial,⟨(hq.cellAt 0 (.pointer (some ⟨m.q.D,0,none⟩)) (fun _=>rfl)).1,?_,?_⟩,hq⟩
   · clear hI
     go_simp
   · exact hq.colsI HI7.o
   · rw[World.cell?_setCell_other _ _ _ _ (by intro hx;simp only[Addr.mk.injEq]at hx;exact HNE.o (by first|exact hx.1|exact hx.1.symm))];exact hI.2.2
 rintro vS -;simp only[Act.put];refine Go.RL.AtL.go 27 ?_
 iterate 2 refine zK ?_
 refine Go.RL.AtK.back ?_;refine Go.RL.AtL.done qQ (fun w' hI hS=>?_);replace HR:=Hd hS;obtain⟨c17,f17⟩:=hS.cellAt 17 (.int .i64 s.x) (fun _=>rfl);clear hI hS
 go_wp2
 go_end0
 exact qZ2
theorem QL{w:World}{b:Nat}{p:Pe}(h:w.heap[b]? =some (.cells (peL p).toArray 68 (0,0))):w.cell? ⟨b,0,none⟩=some (.int .i64 p.at_.fk)∧w.cell? ⟨b,1,none⟩=some (.int .i64 p.at_.fn)∧w.cell? ⟨b,2,none⟩=some (.int .i64 p.at_.bk)∧w.cell? ⟨b,3,none⟩=some (.int .i64 p.at_.bn)∧w.cell? ⟨b,4,none⟩=some (.int .i64 p.at_.fl)∧w.cell? ⟨b,5,none⟩=some (.int .i64 p.ch.g0)∧w.cell? ⟨b,6,none⟩=some (.int .i64 p.ch.g1)∧w.cell? ⟨b,7,none⟩=some (.int .i64 p.ch.g2)∧w.cell? ⟨b,8,none⟩=some (.int .i64 p.ch.g3)∧w.cell? ⟨b,9,none⟩=some (.int .i64 p.ch.use)∧w.cell? ⟨b,10,none⟩=some (.int .i64 p.ch.once)∧w.cell? ⟨b,13,none⟩=some (.bool p.home):=
 ⟨(kC h 0 (.int .i64 p.at_.fk) rfl).1,(kC h 1 (.int .i64 p.at_.fn) rfl).1,(kC h 2 (.int .i64 p.at_.bk) rfl).1,(kC h 3 (.int .i64 p.at_.bn) rfl).1,(kC h 4 (.int .i64 p.at_.fl) rfl).1,(kC h 5 (.int .i64 p.ch.g0) rfl).1,(kC h 6 (.int .i64 p.ch.g1) rfl).1,(kC h 7 (.int .i64 p.ch.g2) rfl).1,(kC h 8 (.int .i64 p.ch.g3) rfl).1,(kC h 9 (.int .i64 p.ch.use) rfl).1,(kC h 10 (.int .i64 p.ch.once) rfl).1,(kC h 13 (.bool p.home) rfl).1⟩
set_option maxHeartbeats 6400000 in
theorem tV(h:uN base w m s W)(hi:DmI rows cols room s):Calls jG 70 #[.pointer (some ⟨m.M,0,none⟩)] W (vB base w m (gD s)):=by
 have hr:=hi.r;have hc:=hi.c;have hc2:=hi.c2;have hr0:0<rows:=by have :=hi.n.y0;have :=hi.n.y1;omega
 have HF:=Hd (fun w=>nQ w);unfold peL at HF;have hlM:=gO (h.cellAt 16 (.int .i64 s.y) (fun _=>rfl)).1;obtain⟨p,y,x,hk,hp⟩:∃p y x,gD s=fM {s with pen:=fV s.pen p} y x∧((s.has=true∧s.sp=p∧s.sy=y∧s.sx=x)∨(s.has=false∧vW=p∧0=y∧0=x)):=by
  unfold gD;cases hh:s.has with
  |true=>exact⟨_,_,_,by rw[if_pos rfl],.inl ⟨rfl,rfl,rfl,rfl⟩⟩
  |false=>exact⟨_,_,_,by rw[if_neg qZ],.inr ⟨rfl,rfl,rfl,rfl⟩⟩
 have e:gD s={s with pen:=fV s.pen p,y:=uZ y 0 ((rows:Int)-1),x:=uZ x 0 ((cols:Int)-1)}:=by
  rw[hk];show({s with pen:=fV s.pen p,y:=uZ y 0 (rowsS s-1),x:=uZ x 0 (colsS s-1)}:Sc)=_;rw[hi.n.rowsS,hi.n.colsS]
 rw[e];have hwr:jP.wrap ((rows:Int)-1)=(rows:Int)-1:=jH _ qJ;have hwc:jP.wrap ((cols:Int)-1)=(cols:Int)-1:=jH _ qJ;have HN1:Hid (∀V,bP 86 #[.int .i64 y,.int .i64 0,.int .i64 ((rows:Int)-1)] V (.int .i64 (uZ y 0 ((rows:Int)-1)))):=Hd (fun V=>pQ qJ y V);have HN2:Hid (∀V,bP 86 #[.int .i64 x,.int .i64 0,.int .i64 ((cols:Int)-1)] V (.int .i64 (uZ x 0 ((cols:Int)-1)))):=Hd (fun V=>pQ qJ x V);have HI:Hid (DmI rows cols room {s with pen:=fV s.pen p}):=Hd (hi.to (hi.n.pen _) hi.t);have HI7:Hid (DmI rows cols room {s with pen:=fV s.pen p,y:=uZ y 0 ((rows:Int)-1)}):=Hd (HI.o.to (HI.o.n.to (x:=s.x) (zO qJ).1 (by have :=(zO (n:=y) (lo:=0) (hi:=(rows:Int)-1) qJ).2;omega) HI.o.n.x0 HI.o.n.x1) HI.o.t);have HRW:Hid (∀V,uN base w m {s with pen:=fV s.pen p} V→bP 87 #[.pointer (some ⟨m.q.D,0,none⟩)] V (.int .i64 rows)):=Hd (fun V hV=>zB hV HI.o);have HR:=Hd h;have HLM:=Hd hlM;clear hk e h hi hr hc hc2 hr0 hlM;rcases hp with⟨hh,hp1,hp2,hp3⟩|⟨hh,hp1,hp2,hp3⟩
 all_goals
  have HPP:=Hd (kM hp1 (kM hp2 hp3));have HH:=Hd hh;clear hp1 hp2 hp3 hh
  go_enter Tryz.func70,Tryz.ntmps70
  go_upto_region 1 with(go_at_call 106;refine(HF.o _).mono ?_;rintro e w1 ⟨rfl,hb⟩;have HB1:=Hd hb;clear hb)
  generalize hW2:World.alloc _ _=W2;have hb2:Below w1.heap.size w1 W2:=by rw[←hW2];exact jW (jU _ _) _
  have HBX:Hid (W2.heap[w1.heap.size]? =some (.cells (peL vW).toArray 68 (0,0))):=Hd (by rw[←hW2];exact kZ rfl);have HB2:=Hd (jN HB1.o hb2);have HNM:Hid (w1.heap.size∉[m.M]):=Hd (fun hx=>by have h1:=HLM.o;have h2:=HB1.o.size;rw[jR.1 hx]at h2;omega);have HNW:Hid (W.heap.size≤w1.heap.size):=Hd HB1.o.size;have HR2:=Hd (HR.o.post HB2.o);clear hW2 hb2;obtain⟨c_has,-⟩:=HR2.o.cellAt 20 (.bool s.has) (fun _=>rfl);rw[HH.o]at c_has
  first
  |(have hz:s.has=true:=HH.o
    clear hz
    go_upto_region 2 with fail
    clear c_has;obtain⟨c_kfk,-⟩:=HR2.o.cellAt 21 (.int .i64 s.sp.at_.fk) (fun _=>rfl);obtain⟨c_kfn,-⟩:=HR2.o.cellAt 22 (.int .i64 s.sp.at_.fn) (fun _=>rfl);obtain⟨c_kbk,-⟩:=HR2.o.cellAt 23 (.int .i64 s.sp.at_.bk) (fun _=>rfl);obtain⟨c_kbn,-⟩:=HR2.o.cellAt 24 (.int .i64 s.sp.at_.bn) (fun _=>rfl);obtain⟨c_kfl,-⟩:=HR2.o.cellAt 25 (.int .i64 s.sp.at_.fl) (fun _=>rfl);obtain⟨c_kg0,-⟩:=HR2.o.cellAt 26 (.int .i64 s.sp.ch.g0) (fun _=>rfl);obtain⟨c_kg1,-⟩:=HR2.o.cellAt 27 (.int .i64 s.sp.ch.g1) (fun _=>rfl);obtain⟨c_kg2,-⟩:=HR2.o.cellAt 28 (.int .i64 s.sp.ch.g2) (fun _=>rfl);obtain⟨c_kg3,-⟩:=HR2.o.cellAt 29 (.int .i64 s.sp.ch.g3) (fun _=>rfl);obtain⟨c_kuse,-⟩:=HR2.o.cellAt 30 (.int .i64 s.sp.ch.use) (fun _=>rfl);obtain⟨c_konce,-⟩:=HR2.o.cellAt 31 (.int .i64 s.sp.ch.once) (fun _=>rfl);obtain⟨c_kput,-⟩:=HR2.o.cellAt 32 (.bool s.sp.put) (fun _=>rfl);obtain⟨c_kwrap,-⟩:=HR2.o.cellAt 33 (.bool s.sp.wrap) (fun _=>rfl);obtain⟨c_khome,-⟩:=HR2.o.cellAt 34 (.bool s.sp.home) (fun _=>rfl);obtain⟨c_ky,-⟩:=HR2.o.cellAt 35 (.int .i64 s.sy) (fun _=>rfl);obtain⟨c_kx,-⟩:=HR2.o.cellAt 36 (.int .i64 s.sx) (fun _=>rfl)
    refine Go.RL.wp_region_l 14 (fun w'=>w'.cell? ⟨m.M,21,none⟩=some (.int .i64 s.sp.at_.fk)∧w'.cell? ⟨m.M,22,none⟩=some (.int .i64 s.sp.at_.fn)∧w'.cell? ⟨m.M,23,none⟩=some (.int .i64 s.sp.at_.bk)∧w'.cell? ⟨m.M,24,none⟩=some (.int .i64 s.sp.at_.bn)∧w'.cell? ⟨m.M,25,none⟩=some (.int .i64 s.sp.at_.fl)∧w'.cell? ⟨m.M,26,none⟩=some (.int .i64 s.sp.ch.g0)∧w'.cell? ⟨m.M,27,none⟩=some (.int .i64 s.sp.ch.g1)∧w'.cell? ⟨m.M,28,none⟩=some (.int .i64 s.sp.ch.g2)∧w'.cell? ⟨m.M,29,none⟩=some (.int .i64 s.sp.ch.g3)∧w'.cell? ⟨m.M,30,none⟩=some (.int .i64 s.sp.ch.use)∧w'.cell? ⟨m.M,31,none⟩=some (.int .i64 s.sp.ch.once)∧w'.cell? ⟨m.M,32,none⟩=some (.bool s.sp.put)∧w'.cell? ⟨m.M,33,none⟩=some (.bool s.sp.wrap)∧w'.cell? ⟨m.M,34,none⟩=some (.bool s.sp.home)∧w'.cell? ⟨m.M,35,none⟩=some (.int .i64 s.sy)∧w'.cell? ⟨m.M,36,none⟩=some (.int .i64 s.sx)) (fun w'=>Below W.heap.size W w'∧w'.heap[w1.heap.size]? =some (.cells (peL vW).toArray 68 (0,0))) qQ qQ ⟨c_kfk,c_kfn,c_kbk,c_kbn,c_kfl,c_kg0,c_kg1,c_kg2,c_kg3,c_kuse,c_konce,c_kput,c_kwrap,c_khome,c_ky,c_kx⟩ (⟨(HB2.o.drew),HBX.o⟩) ?_;clear c_kfk c_kfn c_kbk c_kbn c_kfl c_kg0 c_kg1 c_kg2 c_kg3 c_kuse c_konce c_kput c_kwrap c_khome c_ky c_kx
    refine Go.RL.AtL.go 0 ?_
    iterate 12 refine zK ?_
    refine Go.RL.AtK.back ?_;refine Go.RL.AtL.one 12 (o:=⟨none,.store 68 (.tmp 2) (.tmp 13),_,_,_,_⟩) (fun _=>True) (fun _ w'=>Below W.heap.size W w'∧w'.heap[w1.heap.size]? =some (.cells (peL s.sp).toArray 68 (0,0))) qV qQ rfl (Go.RL.StabL.unit _ _ qK (fun w' hI hS=>?_)) ?_
    · have hbb:=gX hS.1 HNW.o (peL s.sp) 0;have hq:=HR.o.post hbb;have hbx:=uB (peL s.sp) 0 _ w' hS.2 (by simp[peL]);exact⟨_,yS 68 (.tmp 2) (.tmp 13) rfl w1.heap.size 0 (peL s.sp).toArray rfl rfl (show World.there _ w1.heap.size 0 14 from gH hS.2) fN (all_oneCell_toArray (iY _)),trivial,⟨(hq.cellAt 21 (.int .i64 s.sp.at_.fk) (fun _=>rfl)).1,(hq.cellAt 22 (.int .i64 s.sp.at_.fn) (fun _=>rfl)).1,(hq.cellAt 23 (.int .i64 s.sp.at_.bk) (fun _=>rfl)).1,(hq.cellAt 24 (.int .i64 s.sp.at_.bn) (fun _=>rfl)).1,(hq.cellAt 25 (.int .i64 s.sp.at_.fl) (fun _=>rfl)).1,(hq.cellAt 26 (.int .i64 s.sp.ch.g0) (fun _=>rfl)).1,(hq.cellAt 27 (.int .i64 s.sp.ch.g1) (fun _=>rfl)).1,(hq.cellAt 28 (.int .i64 s.sp.ch.g2) (fun _=>rfl)).1,(hq.cellAt 29 (.int .i64 s.sp.ch.g3) (fun _=>rfl)).1,(hq.cellAt 30 (.int .i64 s.sp.ch.use) (fun _=>rfl)).1,(hq.cellAt 31 (.int .i64 s.sp.ch.once) (fun _=>rfl)).1,(hq.cellAt 32 (.bool s.sp.put) (fun _=>rfl)).1,(hq.cellAt 33 (.bool s.sp.wrap) (fun _=>rfl)).1,(hq.cellAt 34 (.bool s.sp.home) (fun _=>rfl)).1,(hq.cellAt 35 (.int .i64 s.sy) (fun _=>rfl)).1,(hq.cellAt 36 (.int .i64 s.sx) (fun _=>rfl)).1⟩,hbb,hbx⟩
    rintro vS -;simp only[Act.put];refine Go.RL.AtL.take 13 (o:=⟨_,_,_,_,_,_⟩) (v:=?_) qQ rfl qV qQ qQ ?_ ?_;rotate_left
    · (refine Go.RL.Pure.val qK ?_;intro w' hI;obtain⟨_,_,_,_,_,_,_,_,_,_,_,_,_,_,_,_⟩:=hI;go_simp;first|done|with_reducible rfl)
    refine zP ?_;refine Go.RL.AtL.done qQ (fun W3 hI hS=>?_);have HB3:=Hd hS.1;have HK:Hid (W3.heap[w1.heap.size]? =some (.cells (peL p).toArray 68 (0,0))):=Hd (by rw[←HPP.o.1];exact hS.2);clear hI hS
    go_upto_region 3 with fail
    have hpy:=HPP.o.2.1;have hpx:=HPP.o.2.2;rw[hpy,hpx];clear hpy hpx HBX HB2 HR2)
  |(have hz:s.has=false:=HH.o
    clear hz;have HB3:=HB2;have HK:Hid (W2.heap[w1.heap.size]? =some (.cells (peL p).toArray 68 (0,0))):=Hd (by rw[←HPP.o.1];exact HBX.o)
    go_upto_region 3 with fail
    clear c_has HBX HB2 HR2
    rename World=>W3)
  replace HR:=Hd (HR.o.post HB3.o);obtain⟨q0,q1,q2,q3,q4,q5,q6,q7,q8,q9,q10,q13⟩:=QL HK.o;have hbox:=HK.o;refine Go.RL.wp_region_l 22 (fun w'=>w'.heap[w1.heap.size]? =some (.cells (peL p).toArray 68 (0,0))∧w'.cell? ⟨w1.heap.size,0,none⟩=some (.int .i64 p.at_.fk)∧w'.cell? ⟨w1.heap.size,1,none⟩=some (.int .i64 p.at_.fn)∧w'.cell? ⟨w1.heap.size,2,none⟩=some (.int .i64 p.at_.bk)∧w'.cell? ⟨w1.heap.size,3,none⟩=some (.int .i64 p.at_.bn)∧w'.cell? ⟨w1.heap.size,4,none⟩=some (.int .i64 p.at_.fl)∧w'.cell? ⟨w1.heap.size,5,none⟩=some (.int .i64 p.ch.g0)∧w'.cell? ⟨w1.heap.size,6,none⟩=some (.int .i64 p.ch.g1)∧w'.cell? ⟨w1.heap.size,7,none⟩=some (.int .i64 p.ch.g2)∧w'.cell? ⟨w1.heap.size,8,none⟩=some (.int .i64 p.ch.g3)∧w'.cell? ⟨w1.heap.size,9,none⟩=some (.int .i64 p.ch.use)∧w'.cell? ⟨w1.heap.size,10,none⟩=some (.int .i64 p.ch.once)∧w'.cell? ⟨w1.heap.size,13,none⟩=some (.bool p.home)) (fun w'=>uN base w m s w') qQ qQ ⟨hbox,q0,q1,q2,q3,q4,q5,q6,q7,q8,q9,q10,q13⟩ (HR.o.post (jU _ _).drew) ?_;clear hbox q0 q1 q2 q3 q4 q5 q6 q7 q8 q9 q10 q13 HK;refine Go.RL.AtL.go 0 ?_
  iterate 13 refine zK ?_
  refine Go.RL.AtK.back ?_;refine Go.RL.AtL.one 13 (o:=⟨none,.store 40 (.tmp 34) (.tmp 26),_,_,_,_⟩) (fun _=>True) (fun _ w'=>uN base w m ({s with pen:={s.pen with at_:=p.at_}}) w') qV qQ rfl (Go.RL.StabL.unit _ _ qK (fun w' hI hS=>?_)) ?_
  · have hq:uN base w m ({s with pen:={s.pen with at_:=p.at_}}) (w'.setCells m.M 2 (aL p.at_)):=hS.puts 2 (aL p.at_) qVy (fun _=>rfl) rfl rfl;have hm:Mod [m.M] w' (w'.setCells m.M 2 (aL p.at_)):=gM (.inl qV) (aL p.at_) 2 w' (Mod.refl _ _);exact⟨_,yS 40 (.tmp 34) (.tmp 26) rfl m.M 2 (aL p.at_).toArray rfl rfl (hS.there qVy) pD (all_oneCell_toArray (JS p.at_)),trivial,⟨sG hI.1 hm HNM.o,QL (sG hI.1 hm HNM.o)⟩,hq⟩
  rintro vS -;simp only[Act.put];refine Go.RL.AtL.go 14 ?_
  iterate 3 refine zK ?_
  refine Go.RL.AtK.back ?_;refine Go.RL.AtL.one 17 (o:=⟨none,.store 66 (.tmp 37) (.tmp 28),_,_,_,_⟩) (fun _=>True) (fun _ w'=>uN base w m ({s with pen:={s.pen with at_:=p.at_,ch:=p.ch}}) w') qV qQ rfl (Go.RL.StabL.unit _ _ qK (fun w' hI hS=>?_)) ?_
  · have hq:uN base w m ({s with pen:={s.pen with at_:=p.at_,ch:=p.ch}}) (w'.setCells m.M 7 (cL p.ch)):=hS.puts 7 (cL p.ch) qVz (fun _=>rfl) rfl rfl;have hm:Mod [m.M] w' (w'.setCells m.M 7 (cL p.ch)):=gM (.inl qV) (cL p.ch) 7 w' (Mod.refl _ _);exact⟨_,yS 66 (.tmp 37) (.tmp 28) rfl m.M 7 (cL p.ch).toArray rfl rfl (hS.there qVz) bE (all_oneCell_toArray (one6 p.ch)),trivial,⟨sG hI.1 hm HNM.o,QL (sG hI.1 hm HNM.o)⟩,hq⟩
  rintro vS -;simp only[Act.put];refine Go.RL.AtL.go 18 ?_
  iterate 4 refine zK ?_
  refine Go.RL.AtK.back ?_;refine Go.RL.AtL.done qQ (fun w' hI hS=>?_);replace HR:=Hd hS;obtain⟨c15,f15⟩:=hS.cellAt 15 (.bool s.pen.home) (fun _=>rfl);clear hI hS
  go_upto_region 4 with fail
  replace HR:=Hd (HR.o.put 15 (.bool p.home) (s':={s with pen:=fV s.pen p}) (fun _=>rfl) rfl rfl);generalize uQ _ _ _=W6 at HR ⊢;clear c15 f15;obtain⟨c_D,-⟩:=HR.o.cellAt 0 (.pointer (some ⟨m.q.D,0,none⟩)) (fun _=>rfl);have c_C:=HR.o.colsI HI.o;refine Go.RL.wp_region_l 25 (fun w'=>w'.cell? ⟨m.M,0,none⟩=some (.pointer (some ⟨m.q.D,0,none⟩))∧w'.cell? ⟨m.q.D,2,none⟩=some (.int .i64 cols)) (fun w'=>uN base w m {s with pen:=fV s.pen p} w') qQ qQ ⟨c_D,c_C⟩ (HR.o.post (jU _ _).drew) ?_;clear c_D c_C;refine Go.RL.AtL.go 0 ?_
  iterate 7 refine zK ?_
  refine Go.RL.AtK.back ?_;refine Go.RL.AtL.go 10 ?_
  iterate 9 refine zK ?_
  refine Go.RL.AtK.back ?_;refine Go.RL.AtL.one 7 (o:=⟨_,_,_,_,_,_⟩) (fun v=>v=.int .i64 rows) (fun _ w'=>uN base w m {s with pen:=fV s.pen p} w') qV qQ rfl
   (Go.RL.StabL.call 87 #[.pointer (some ⟨m.q.D,0,none⟩)] _ _ qK ?_ (fun w' hI hS=>?_)) ?_
  · intro w'
    go_simp
    first|done|exact HPP.o.2.1|exact HPP.o.2.2
  · refine(((HRW.o w' hS).here)).mono ?_;rintro e w3 ⟨rfl,hb⟩;exact qXn
  rintro v1 rfl;refine zP ?_;refine Go.RL.AtL.take 8 (o:=⟨_,_,_,_,_,_⟩) (v:=?_) qQ rfl qV qQ qQ ?_ ?_;rotate_left
  · (refine Go.RL.Pure.val qK ?_;intro w' hI;obtain⟨_,_⟩:=hI;go_simp;first|done|with_reducible rfl)
  refine zP ?_;refine Go.RL.AtL.one 9 (o:=⟨_,_,_,_,_,_⟩) (fun v=>v=.int .i64 (uZ y 0 ((rows:Int)-1))) (fun _ w'=>uN base w m {s with pen:=fV s.pen p} w') qV qQ rfl
   (Go.RL.StabL.call 86 #[.int .i64 y,.int .i64 0,.int .i64 ((rows:Int)-1)] _ _ qK ?_ (fun w' hI hS=>?_)) ?_
  · intro w'
    go_simp
    first|done|exact HPP.o.2.1|exact HPP.o.2.2
  · refine(((HN1.o w').here)).mono ?_;rintro e w3 ⟨rfl,hb⟩;exact qXn
  rintro v1 rfl;refine zP ?_;refine Go.RL.AtL.one 19 (o:=⟨_,_,_,_,_,_⟩) (fun v=>v=.int .i64 (uZ x 0 ((cols:Int)-1))) (fun _ w'=>uN base w m {s with pen:=fV s.pen p} w') qV qQ rfl
   (Go.RL.StabL.call 86 #[.int .i64 x,.int .i64 0,.int .i64 ((cols:Int)-1)] _ _ qK ?_ (fun w' hI hS=>?_)) ?_
  · intro w'
    go_simp
    first|done|exact HPP.o.2.1|exact HPP.o.2.2
  · refine(((HN2.o w').here)).mono ?_;rintro e w3 ⟨rfl,hb⟩;exact qXn
  rintro v1 rfl;refine zP ?_;refine Go.RL.AtL.go 20 ?_
  iterate 2 refine zK ?_
  refine Go.RL.AtK.back ?_;refine Go.RL.AtL.one 22 (o:=⟨none,.store 3 (.tmp 63) (.tmp 51),_,_,_,_⟩) (fun _=>True) (fun _ w'=>uN base w m {s with pen:=fV s.pen p,y:=uZ y 0 ((rows:Int)-1)} w') qV qQ rfl (Go.RL.StabL.unit _ _ qK (fun w' hI hS=>?_)) ?_
  · obtain⟨ca,cf⟩:=hS.cellAt 16 (.int .i64 s.y) (fun _=>rfl);have hq:uN base w m {s with pen:=fV s.pen p,y:=uZ y 0 ((rows:Int)-1)} (w'.setCell ⟨m.M,16,none⟩ (.int .i64 (uZ y 0 ((rows:Int)-1)))):=hS.put 16 _ (fun _=>rfl) rfl rfl;refine⟨_,?_,trivial,⟨(hq.cellAt 0 (.pointer (some ⟨m.q.D,0,none⟩)) (fun _=>rfl)).1,hq.colsI HI7.o⟩,hq⟩;clear hI
    go_simp
  rintro vS -;simp only[Act.put];refine Go.RL.AtL.go 23 ?_
  iterate 2 refine zK ?_
  refine Go.RL.AtK.back ?_;refine Go.RL.AtL.done qQ (fun w' hI hS=>?_);replace HR:=Hd hS;obtain⟨c17,f17⟩:=hS.cellAt 17 (.int .i64 s.x) (fun _=>rfl);clear hI hS
  go_wp2
  go_end0
  exact qZ2
def dG(s:Sc)(rows cols i:Nat):Sc:={s with top:=0,bot:=rows-1,y:=0,x:=0,pg:={s.pg with scr:=kJ i (sH cols)++s.pg.scr.drop i}}
theorem UC(hn:ScN rows cols room s)(i:Nat)(hi:i≤rows):ScN rows cols room (dG s rows cols i):=by
 have h1:=hn.pg.hrows;have h2:=hn.y1;have h3:=hn.y0;refine⟨⟨?_,hn.pg.hcols,hn.pg.hroom,hn.pg.hhist,fun r hr=>?_⟩,hn.st,Int.le_refl _,by show(0:Int)<rows;omega,Int.le_refl _,by show(0:Int)≤cols;omega,Int.le_refl _,by show(0:Int)≤(rows:Int)-1;omega,by show(rows:Int)-1<rows;omega,.inr ⟨rfl,rfl⟩⟩
 · show(kJ i (sH cols)++s.pg.scr.drop i).length=rows;simp;omega
 · rcases kL.1 hr with hr|hr
   · exact hn.pg.wide r (List.mem_append_left _ hr)
   · rcases kL.1 (show r∈kJ i (sH cols)++s.pg.scr.drop i from hr)with hr|hr
     · rw[(List.mem_replicate.1 hr).2];simp[sH]
     · exact hn.pg.wide r (List.mem_append_right _ (List.mem_of_mem_drop hr))
theorem YS(hn:ScN rows cols room s)(i:Nat)(hi:i<rows):{dG s rows cols i with pg:=vL (pW (dG s rows cols i).pg (i:Int) (fun l=>kJ l.length eCl)) (i:Int) false}=dG s rows cols (i+1):=by
 have h1:=hn.pg.hrows;obtain⟨r,hr⟩:∃r,s.pg.scr[i]? =some r:=⟨s.pg.scr[i]'qJ,jD _⟩;have hrl:r.cs.length=cols:=hn.pg.wide r (List.mem_append_right _ (uW hr));have hg:(dG s rows cols i).pg.scr[i]? =some r:=by
  show(kJ i (sH cols)++s.pg.scr.drop i)[i]? =_;rw[vU qV,kS,Nat.sub_self,gV,vO,hr]
 rw[aU _ hg];have hg2:(({(dG s rows cols i).pg with scr:=(dG s rows cols i).pg.scr.set i {r with cs:=kJ r.cs.length eCl}}:Pg)).scr[i]? =some {r with cs:=kJ r.cs.length eCl}:=by
  show((dG s rows cols i).pg.scr.set i _)[i]? =_;rw[vP,if_pos rfl,if_pos (jE.1 hg).1]
 rw[tC _ hg2];unfold dG;simp only[];have e:((kJ i (sH cols)++s.pg.scr.drop i).set i {r with cs:=kJ r.cs.length eCl}).set i {cs:=kJ r.cs.length eCl,cont:=false}=kJ (i+1) (sH cols)++s.pg.scr.drop (i+1):=by
  rw[List.set_set,hrl];rw[List.set_append_right _ _ qV,kS,Nat.sub_self,List.drop_eq_getElem_cons (by omega:i<s.pg.scr.length),jX,List.replicate_succ',uK];rfl
 rw[e]
theorem Wl(hn:ScN rows cols room s)(hc:2≤cols)(h0:0<rows):dG s rows cols rows=eE s:=by
 rw[qQ6 hn hc h0];unfold dG;rw[vR (by rw[hn.pg.hrows];exact jS _),List.append_nil]
theorem qQ8(h:uN base w m s W)(hi:DmI rows cols room s)(y:Int):Calls jG 141 #[.pointer (some ⟨m.q.D,0,none⟩),.int .i64 y] W (vB base w m {s with pg:=vL s.pg y false}):=by
 obtain⟨m1,e1,e2,hO,hm,hx⟩:=h;rw[←e2];refine(QW hO.doc qVo hi.len.2 y).mono fun e w2 hh=>⟨hh.1,?_⟩;have hp:=hh.2;rw[dP]at hp;exact qZ3
theorem fine_e(n:Nat):zN (kJ n eCl):=fun x hx=>by rw[(List.mem_replicate.1 hx).2];exact kT _
set_option maxHeartbeats 3200000 in
theorem Jl(h:uN base w m s W)(hi:DmI rows cols room s):Calls jG 72 #[.pointer (some ⟨m.M,0,none⟩)] W (vB base w m (eE s)):=by
 have hr:=hi.r;have hc:=hi.c;have hc2:=hi.c2;have hr0:0<rows:=by have :=hi.n.y0;have :=hi.n.y1;omega
 obtain⟨j0,hj,gz0,gz1,gz2⟩:=info_parts dY;have HR:=Hd h;have hwr:jP.wrap ((rows:Int)-1)=(rows:Int)-1:=jH _ qJ;have HRW:=Hd (zB h hi);rw[←Wl hi.n hc2 hr0];have HFI:Hid (∀i,i≤rows→DmI rows cols room (dG s rows cols i)):=Hd (fun i hh=>hi.to (UC hi.n i hh) hi.t);have HFS:Hid (∀i,i<rows→({dG s rows cols i with pg:=vL (pW (dG s rows cols i).pg (i:Int) (fun l=>kJ l.length eCl)) (i:Int) false}:Sc)=dG s rows cols (i+1)):=Hd (fun i hh=>YS hi.n i hh);have HRS:Hid (∀i,i≤rows→ScN rows cols room ({dG s rows cols i with pg:=pW (dG s rows cols i).pg (i:Int) (fun l=>kJ l.length eCl)}:Sc)):=Hd (fun i hh=>(UC hi.n i hh).row _ (fun l=>kS));obtain⟨c_D,-⟩:=h.cellAt 0 (.pointer (some ⟨m.q.D,0,none⟩)) (fun _=>rfl);have HT:=Hd hi.t;clear h hi
 go_enter Tryz.func72,Tryz.ntmps72
 go_upto_region 1 with(go_at_call 87;refine HRW.o.here.mono ?_;rintro e w1 ⟨rfl,hb⟩;replace HR:=Hd (HR.o.post hb);clear hb c_D;obtain⟨c18,f18⟩:=HR.o.cellAt 18 (.int .i64 s.top) (fun _=>rfl);obtain⟨c19,f19⟩:=HR.o.cellAt 19 (.int .i64 s.bot) (fun _=>rfl);obtain⟨c16,f16⟩:=HR.o.cellAt 16 (.int .i64 s.y) (fun _=>rfl);obtain⟨c17,f17⟩:=HR.o.cellAt 17 (.int .i64 s.x) (fun _=>rfl))
 replace HR:Hid (uN base w m (dG s rows cols 0) _):=Hd ((((HR.o.put 18 (.int .i64 0) (s':={s with top:=0}) (fun _=>rfl) rfl rfl).put 19 (.int .i64 ((rows:Int)-1)) (s':={s with top:=0,bot:=(rows:Int)-1}) (fun _=>rfl) rfl rfl).put 16 (.int .i64 0) (s':={s with top:=0,bot:=(rows:Int)-1,y:=0}) (fun _=>rfl) rfl rfl).put 17 (.int .i64 0) (s':=dG s rows cols 0) (fun _=>rfl) rfl rfl);generalize uQ _ _ _=W2 at HR ⊢;clear c18 f18 c19 f19 c16 f16 c17 f17 HRW
 go_wp2_with fail
 go_loopw [2] (fun s2 wr=>∃i:Nat,s2=.int .i64 i∧i≤rows∧uN base w m (dG s rows cols i) wr) (fun s2 _=>rows-(intOf s2).toNat)
 case atStart=>exact⟨0,rfl,kT _,HR.o⟩
 case round=>
  obtain⟨i,rfl,hi,hs⟩:=hrel;replace HR:=Hd hs;have HI:=Hd (HFI.o i hi);have HRW:=Hd (zB hs HI.o);have hwi:jP.wrap ((i:Int)+1)=(i:Int)+1:=jH _ qJ;obtain⟨c_D,-⟩:=hs.cellAt 0 (.pointer (some ⟨m.q.D,0,none⟩)) (fun _=>rfl);clear hs
  by_cases hlt:i<rows
  rotate_left
  · have hltI:¬(i:Int)<(rows:Int):=by omega
    obtain rfl:i=rows:=by omega
    go_wp2_with(go_at_call 87;refine HRW.o.here.mono ?_;rintro e w4 ⟨rfl,hb⟩;replace HR:=Hd (HR.o.post hb);clear hb c_D)
    go_end0
    exact⟨rfl,HR.o⟩
  · have hltI:(i:Int)<(rows:Int):=by omega
    have HSU:=Hd (HFS.o i hlt);have HI2:Hid (DmI rows cols room ({dG s rows cols i with pg:=pW (dG s rows cols i).pg (i:Int) (fun l=>kJ l.length eCl)}:Sc)):=Hd (HI.o.to (HRS.o i hi) (by show(pW _ _ _).told.length≤_;rw[(bB _ _ _).1];exact HT.o));obtain⟨t,ht⟩:∃t,dG s rows cols i=t:=⟨_,rfl⟩;rw[ht]at HR HI HSU HI2;clear ht
    go_upto_region 4 with(go_at_call 87;refine HRW.o.here.mono ?_;rintro e w4 ⟨rfl,hb⟩;replace HR:=Hd (HR.o.post hb);clear hb c_D)
    rename World=>W4
    clear HRW
    go_wp2_with fail
    go_loopw [3,4] (fun s3 s4 wr=>∃x:Nat,s4=.int .i64 x∧x≤cols∧ClO W4.heap.size wr s3 (kJ x eCl)∧Below W4.heap.size W4 wr) (fun _ s4 _=>cols-(intOf s4).toNat)
    case atStart=>exact⟨0,rfl,kT _,uE _ _ _ _,jU _ _⟩
    case round=>
     obtain⟨x,rfl,hx,hO,hB⟩:=hrel;obtain⟨bx,rfl⟩:∃bx:Value×Unit,u3=bx.1:=⟨(u3,()),rfl⟩;have HO:=Hd hO;have HB:=Hd hB;have HRX:=Hd (HR.o.post hB);obtain⟨c_D,-⟩:=HRX.o.cellAt 0 (.pointer (some ⟨m.q.D,0,none⟩)) (fun _=>rfl);have c_C:=HRX.o.colsI HI.o;have hwx:jP.wrap ((x:Int)+1)=(x:Int)+1:=jH _ qJ;clear hO hB
     by_cases hlx:x<cols
     · have hlxI:(x:Int)<(cols:Int):=by omega
       go_upto_region 8 with fail
       clear c_D c_C;refine wp_region_lit ?_;refine zG (bx.1) ?_;refine jM (.agg (kX eCl).toArray) qK qJ9 ?_;refine zP ?_;have HO3:=Hd (ClO.below HO.o (jW (jU wr.heap.size wr) (.cells (kX eCl).toArray 154)));have HBX:=Hd (jW HB.o (.cells (kX eCl).toArray 154));refine uM (.slice (some ⟨wr.heap.size,0,none⟩) 1 1) (wr.alloc (.cells (kX eCl).toArray 154)) qK qJ9 ?_;refine zP ?_;refine kO (o:=⟨some 46,_,_,_,_,_⟩) rfl (.tmp 43) (.tmp 45) 95 rfl W4.heap.size 154 j0 _ 8 72 uT hj gz0 gz1 gz2 rfl qZ bx.1 _ _ rfl HO3.o ⟨wr.heap.size,0,none⟩ 1 1 (kX eCl) rfl rfl (fun j u hj=>by rw[vZ,kB];exact(at_ (kZ rfl) j u jV).1) (gL _) (by simp only[maxLen,kS];omega) (by simp only[kS];omega) qC ?_;intro v' w7 ho hg hv';have HO7:Hid (ClO W4.heap.size w7 v' (kJ (x+1) eCl)):=Hd (by unfold ClO;rw[List.replicate_succ',uC,jI];exact ho);have HB7:=Hd (HBX.o.grown hg HBX.o.size (fun b hb=>(kK.lt (show kK _ _ _ _ _ _ _ from HO3.o) b hb).1));refine zP ?_;clear ho hg hv'
       go_wp2
       go_roundw
       case rel=>exact⟨x+1,by go_num,by omega,HO7.o,HB7.o⟩
       case measure=>exact zm
     · have hlxI:¬(x:Int)<(cols:Int):=by omega
       obtain rfl:x=cols:=by omega
       obtain⟨g,cap,hv,hcr⟩:=ClO.form HO.o qW;have HCR:=Hd hcr;rw[kS]at hv;obtain⟨bv,bu⟩:=bx;simp only at hv;subst hv;replace HR:=HRX;have hR:=HR.o;obtain⟨r0,hr0',hrc0,hrr,hof,hce⟩:=HR.o.rowOf HI.o (y:=(i:Int)) qJ hltI;have hce2:=hce (fun l=>kJ l.length eCl) (fun l=>kS) wr g cap (jU _ _) (by
        show pX wr ⟨some ⟨g,0,none⟩,kJ r0.cs.length eCl,cap,r0.cont⟩;rw[hrc0];exact .of_own HCR.o qW (fine_e _) _)
       rw[hrc0]at hce2;have HCE2:=Hd hce2;clear hcr hr0' hrc0 hrr hof hce hce2 hR HRX
       go_upto_region 10 with(go_at_call 131;refine HCE2.o.mono ?_;rintro e w9 ⟨rfl,hp⟩;replace HR:=Hd hp;clear hp c_D c_C)
       have HPT:=Hd (qQ8 HR.o HI2.o (i:Int));obtain⟨c_D,-⟩:=HR.o.cellAt 0 (.pointer (some ⟨m.q.D,0,none⟩)) (fun _=>rfl)
       go_wp2_with(go_at_call 141;refine HPT.o.mono ?_;rintro e w9 ⟨rfl,hp⟩;replace HR:=Hd hp;clear hp c_D)
       go_roundw
       case rel=>
        refine⟨i+1,by go_num,by omega,?_⟩;rw[←HSU.o];exact HR.o
       case measure=>exact zm
end
section
variable {base:Nat}{w:World}{v:Sv}{s:Sc}
theorem ScO.tabbed{st':List Bool}{w':World}(h:ScO base w v s)(ht:tS base w v.T v.vw st' w'):uR base w v {s with st:=st'} w':=by
 obtain⟨ws',hT,hM⟩:=ht;have hnc:yD w v.vw.ownBlock.toList:=fun b hb cs f he=>by
  obtain⟨cur,hc⟩:=uA h.tabs.own (jT.1 hb);exact uP hc he qZ rfl
 have hd:∀b∈pgX v.q,b∉v.vw.ownBlock.toList:=fun b hb hx=>h.ntp b (by simp[tbX,jT.1 hx]) hb;refine⟨{v with ws:=ws'},rfl,rfl,rfl,⟨?_,h.hb,h.page.mod hM hnc hd,hT⟩,hM.mono (fun b hb=>by simp[scX,tbX,jT.1 hb]),fun b hb=>.inl hb⟩;exact(hM.block v.S (kF.1 h.blk).1 (fun hx=>h.nt (by simp[tbX,jT.1 hx]))).trans h.blk
theorem DmO.stopped{m:Mv}{W2:World}{v':Value}{st':List Bool}(h:DmO base w m s)(hb:Below w.heap.size w W2)(ho:DbO w.heap.size W2 v' st'):uN base w m {s with st:=st'} (W2.setCell ⟨m.M,1,none⟩ v'):=by
 have h2:=h.below hb;have hM:Mod [m.M] W2 (W2.setCell ⟨m.M,1,none⟩ v'):=(Mod.refl _ _).setCell (a:=⟨m.M,1,none⟩) (.inl qV) _;have hbs:base≤w.heap.size:=by have :=(h.lt m.M qVi);omega
 have hlt:=(h.lt m.M qVi).2;refine⟨{m with vs:=v'},rfl,rfl,⟨?_,h.hb,?_,?_⟩,((Mod.of_below (X:=dmX m) hb).trans (hM.mono (fun b hb=>by rw[jR.1 hb];simp[dmX])) (fun b hb=>.inl hb)),fun b hb=>?_⟩
 · have :=bX (o:=1) (v:=v') h2.blk;rw[jZ]at this;exact this
 · exact h2.doc.mod hM (fun b hb cs f he=>by rw[jR.1 hb]at he;exact uP h2.blk he qZ rfl) (fun b hb hx=>h2.np qJw)
 · have :DbO base W2 v' st':=gJ ho hbs;exact this.mod hM (fun g hg hx=>by have h3:=(UU (show kK _ _ _ _ _ _ _ from ho) hg).1;rw[jR.1 hx]at h3;omega)
 · have hb2:b∈m.M::(v'.ownBlock.toList++dcX m.q):=hb;rcases kW.1 hb2 with rfl|hb2
   · exact .inl qVi
   rcases kL.1 hb2 with hb2|hb2
   · exact .inr (UU (show kK _ _ _ _ _ _ _ from ho) (jT.1 hb2)).1
   · exact .inl (by simp[dmX,hb2])
theorem uN.stopped{m:Mv}{W W2:World}{v':Value}{st':List Bool}(h:uN base w m s W)(hb:Below W.heap.size W W2)(ho:DbO W.heap.size W2 v' st'):uN base w m {s with st:=st'} (W2.setCell ⟨m.M,1,none⟩ v'):=by
 obtain⟨m1,e1,e2,hO,hm,hx⟩:=h;have :=hO.stopped hb ho;rw[e1]at this;exact uN.trans ⟨e1,e2,hm,hx⟩ this
end
set_option maxHeartbeats 3200000 in
theorem QN(w:World)(A:Option Addr)(st:List Bool)(ca:Nat)(x:Int)(on:Bool)(hA:pA fC 1 w A st)(h0:0<st.length)(hz:st.length≤1000):Calls jG 146 #[.slice A st.length ca,.int .i64 x,.bool on] w (JB (iA st x on) w):=by
 obtain⟨j0,hj,gz0,gz1,gz2⟩:=info_parts KW;obtain⟨ab,ao,rfl,hcs⟩:=hA h0;have hNEW:Hid (∀j u,(uS fC st)[j]? =some u→(w.alloc (.cells #[] 4)).cell? ((⟨ab,ao,none⟩:Addr).add j)=some u):=Hd (fun j u hju=>by
  have hjl:=(jE.1 hju).1;rw[yP mF,Nat.mul_one]at hjl;have hjb:st[j]? =some st[j]:=jD hjl;have :=qQ4 hjb;rw[this]at hju;obtain rfl:=Option.some.inj hju;have h2:=hcs j _ hjb 0 _ rfl;rw[Nat.mul_one,vO]at h2;rw[vZ];exact jA (jW (jU _ _) _) h2)
 have hfl:(uS fC st).length=st.length*1:=by rw[yP mF]
 have HFL:=Hd hfl;have HONE:Hid (∀u∈uS fC st,u.oneCell'=true):=Hd (mC Qn st);have HSET:Hid (∀(k:Nat),k<st.length→(uS fC st).set k (.bool on)=uS fC (st.set k on)):=Hd (fun k hk=>by
  have :=cT mF st k st[k] on 0 (.bool on) (jD hk) qZ rfl;rw[Nat.mul_one,vO]at this;exact this)
 have HGB:Hid (∀k:Nat,k<st.length→(uS fC st)[k]? =some (.bool (st.getD k false))):=Hd (fun k hk=>qQ4 (wB hk));obtain⟨st2,hst2⟩:∃st2,iA st x on=st2:=⟨_,rfl⟩;have HS2:Hid ((0≤x∧x<st.length→st2=st.set x.toNat on)∧(¬(0≤x∧x<st.length)→st2=st)):=Hd (by
  rw[←hst2];unfold iA;exact⟨fun h=>if_pos h,fun h=>if_neg h⟩)
 have HSL:Hid (∀k:Nat,(st.set k on).length=st.length):=Hd (fun k=>by simp);rw[hst2];obtain⟨n,hn⟩:∃n,st.length=n:=⟨_,rfl⟩;rw[hn]at HSET HGB HS2 HSL HFL h0 hz ⊢;have HN:=Hd (kM h0 hz);have hHn:=Hd hn;clear hcs hfl hst2 hn hA
 go_enter Tryz.func146,Tryz.ntmps146
 go_upto_region 1 with fail
 refine wp_region_lit ?_;have hb0:=jW (jU w.heap.size w) (.cells #[] 4);have hE0:(w.alloc (.cells #[] 4)).ownsRow w.heap.size 4 1 (.slice (some ⟨w.heap.size,0,none⟩) 0 0) 0 []:=⟨rfl,.inr ⟨w.heap.size,0,#[],rfl,jS _,kZ rfl,jS _,kT _,rfl,rfl⟩⟩;refine uM (.slice (some ⟨w.heap.size,0,none⟩) 0 0) (w.alloc (.cells #[] 4)) qK qY ?_;refine zP ?_;refine zG (.slice (some ⟨ab,ao,none⟩) n ca) ?_;refine kO (o:=⟨some 10,_,_,_,_,_⟩) rfl (.tmp 8) (.tmp 9) 64 rfl w.heap.size 4 j0 _ 1 1 Tryz.underlying64 hj gz0 gz1 gz2 rfl qZ (.slice (some ⟨w.heap.size,0,none⟩) 0 0) 0 [] rfl hE0 ⟨ab,ao,none⟩ n ca (uS fC st) rfl HFL.o hNEW.o HONE.o (by have :=HN.o;simp only[maxLen];omega) qKm hb0.size ?_;intro v' w7 ho hg hv';rw[kB,List.nil_append]at ho;have HB7:=Hd (hb0.grown hg hb0.size (fun b hb=>(kK.lt (show kK _ _ _ _ _ _ _ from hE0) b hb).1));obtain⟨g,c,hv⟩:=gE ho HN.o.1;subst hv;have HO7:=Hd ho;have hgb:=(kK.lt (show kK _ _ _ _ _ _ _ from ho) g rfl).1;refine zP ?_;clear ho hg hv' hb0 hE0 hNEW HONE h0 hz
 by_cases hx:0≤x∧x<n
 · have HST:=Hd (HS2.o.1 hx);obtain⟨k,rfl⟩:=Int.eq_ofNat_of_zero_le hx.1;rw[uJ]at HST;have hk:k<n:=by omega
   have hkI:(k:Int)<(n:Int):=by omega
   obtain⟨y,yf⟩:=pC HO7.o (HGB.o k hk);have hs1:=cR HO7.o k (.bool on);rw[HSET.o k hk]at hs1;have HS1:=Hd hs1;have HB8:=Hd (kH HB7.o hgb (o:=k) (.bool on));clear hx hs1
   go_wp2
   go_ret
   exact⟨_,rfl,by rw[HST.o];show kK _ _ _ _ _ (st.set k on).length _;rw[HSL.o];exact HS1.o,HB8.o⟩
 · have HST:=Hd (HS2.o.2 hx);have hxx:x<0∨(0≤x∧¬x<(n:Int)):=by omega
   clear hx;rcases hxx with hx|⟨hx0,hx⟩
   · have hx':¬0≤x:=by omega
     clear hx
     go_wp2
     go_ret
     exact qXl
   · go_wp2
     go_ret
     exact qXl
section
variable {base:Nat}{w W:World}{m:Mv}{s:Sc}
set_option maxHeartbeats 1600000 in
theorem Jh(h:uN base w m s W)(hf:zZ s.pen.at_.fl){A:Option Addr}{H:List Gh}(hG:eR W A H)(ca:Nat)(hz:H.length≤1000000)(hzg:∀h∈H,h.g.length≤1000000):
 Calls jG 40 #[.pointer (some ⟨m.M,0,none⟩),.slice A H.length ca] W (vB base w m (fX s (vK H))):=by
 have HR:=Hd h;have HC:Hid (∀w',Below W.heap.size W w'→Calls jG 115 #[.slice A H.length ca] w' (tE (bG (vK H)) w')):=Hd (fun w' hb=>Xr (hG.below hb) ca hz hzg);have HT:Hid (∀w' (A1:Option Addr) (H1:List Gh) (c1:Nat),eR w' A1 H1→vK H1=bG (vK H)→Calls jG 114 #[.agg (aL s.pen.at_).toArray,.slice A1 H1.length c1] w' (fO (dO s.pen.at_ (bG (vK H))) w')):=Hd (fun w' A1 H1 c1 h1 h2=>by
  have hl:H1.length=(vK H1).length:=by unfold vK;simp
  rw[←h2];exact Xe h1 c1 (by rw[h2];exact KA _) (by rw[hl,h2];have :=(JK (vK H)).2;omega) s.pen.at_ hf)
 unfold fX;obtain⟨C,hC⟩:∃C,bG (vK H)=C:=⟨_,rfl⟩;rw[hC]at HC HT ⊢;obtain⟨a2,ha2⟩:∃a2,dO s.pen.at_ C=a2:=⟨_,rfl⟩;rw[ha2]at HT ⊢;obtain⟨c0,-⟩:=h.cellAt 2 (.int .i64 s.pen.at_.fk) (fun _=>rfl);obtain⟨c1,-⟩:=h.cellAt 3 (.int .i64 s.pen.at_.fn) (fun _=>rfl);obtain⟨c2,-⟩:=h.cellAt 4 (.int .i64 s.pen.at_.bk) (fun _=>rfl);obtain⟨c3,-⟩:=h.cellAt 5 (.int .i64 s.pen.at_.bn) (fun _=>rfl);obtain⟨c4,-⟩:=h.cellAt 6 (.int .i64 s.pen.at_.fl) (fun _=>rfl);clear h hf hG hz hzg hC ha2
 go_enter Tryz.func40,Tryz.ntmps40
 refine Go.RL.wp_region_l 12 (fun w'=>w'.cell? ⟨m.M,2,none⟩=some (.int .i64 s.pen.at_.fk)∧w'.cell? ⟨m.M,3,none⟩=some (.int .i64 s.pen.at_.fn)∧w'.cell? ⟨m.M,4,none⟩=some (.int .i64 s.pen.at_.bk)∧w'.cell? ⟨m.M,5,none⟩=some (.int .i64 s.pen.at_.bn)∧w'.cell? ⟨m.M,6,none⟩=some (.int .i64 s.pen.at_.fl)) (fun w'=>Below W.heap.size W w') qQ qQ ⟨c0,c1,c2,c3,c4⟩ ((jU _ _).drew) ?_;refine Go.RL.AtL.go 0 ?_
 iterate 7 refine zK ?_
 refine Go.RL.AtK.back ?_;refine Go.RL.AtL.one 7 (o:=⟨_,_,_,_,_,_⟩) (fun _=>True) (fun u w'=>∃(A1:Option Addr) (H1:List Gh) (k1:Nat),u=.slice A1 H1.length k1∧eR w' A1 H1∧vK H1=C∧Below W.heap.size W w') qV qQ rfl
  (Go.RL.StabL.call 115 #[.slice A H.length ca] _ _ qK ?_ (fun w' hI hS=>?_)) ?_
 · intro w'
   go_simp
 · refine(HC.o w' hS).mono ?_;rintro e w3 ⟨A1,H1,k1,rfl,hg,hg2,hb⟩;obtain⟨h0,h1,h2,h3,h4⟩:=hI;exact qXc
 rintro v1 -;refine zP ?_;refine Go.RL.AtL.one 8 (o:=⟨_,_,_,_,_,_⟩) (fun u=>u=.agg (aL a2).toArray) (fun _ w'=>Below W.heap.size W w') qV qQ rfl
  (Go.RL.StabL.call 114 #[.agg (aL s.pen.at_).toArray,v1] _ _ qK ?_ (fun w' hI hS=>?_)) ?_
 · intro w'
   go_simp
   rfl
 · obtain⟨A1,H1,k1,rfl,hg,hg2,hb1⟩:=hS;refine(HT.o w' A1 H1 k1 hg hg2).mono ?_;rintro e w3 ⟨rfl,hb⟩;obtain⟨h0,h1,h2,h3,h4⟩:=hI;exact qXd
 rintro v2 rfl;refine zP ?_;refine Go.RL.AtL.go 9 ?_
 iterate 3 refine zK ?_
 refine Go.RL.AtK.back ?_;refine Go.RL.AtL.done qQ (fun w' hI hS=>?_);have hR:=HR.o.post hS;simp only[jB,jF];refine wpList_store_mid rfl 40 (.tmp 15) (.tmp 12) rfl (m.M) (2) ((aL a2).toArray) rfl rfl (hR.there qVy) pD (all_oneCell_toArray (JS _)) ?_;simp only[Act.put];have hp:=hR.puts 2 (aL a2) qVy (s':={s with pen:={s.pen with at_:=a2}}) (fun _=>rfl) rfl rfl;have HP:=Hd hp;clear hI hS hR hp c0 c1 c2 c3 c4
 go_wp2
 go_end0
 exact⟨rfl,HP.o⟩
end
section
variable {B:Nat}{w:World}{v:Sv}{m:Mv}{s d:Sc}{rows cols room:Nat}
def XZ(w:World)(b:Nat)(o:Sop):Prop:=w.cell? ⟨b,0,none⟩=some (.int .i64 o.kind)∧w.cell? ⟨b,1,none⟩=some (.int .i64 o.a)∧w.cell? ⟨b,2,none⟩=some (.int .i64 o.b)∧w.cell? ⟨b,3,none⟩=some (.int .i32 o.r)∧w.cell? ⟨b,4,none⟩=some (.slice o.A o.H.length o.cap)
theorem XZ.new(o:Sop):XZ (w.alloc (.cells (bY o).toArray 34)) w.heap.size o:=
 have h:=kZ (W:=w) (b:=w.heap.size) (o:=.cells (bY o).toArray 34) rfl
 ⟨(at_ h 0 _ rfl).1,(at_ h 1 _ rfl).1,(at_ h 2 _ rfl).1,(at_ h 3 _ rfl).1,(at_ h 4 _ rfl).1⟩
theorem QR{o:Sop}(h:o.kind<23∨27<o.kind):cP s o=s:=by
 unfold cP;rw[if_neg qJ,if_neg qJ,if_neg qJ,if_neg qJ]
theorem uN.stopsF{W:World}(h:uN B w m s W):(∃u,W.cell? ⟨m.M,1,none⟩=some u)∧W.frozen? ⟨m.M,1,none⟩=false:=by
 obtain⟨m1,e1,e2,hO,hm,hx⟩:=h;have :=kC hO.blk 1 m1.vs rfl;rw[e1]at this;exact⟨⟨_,this.1⟩,this.2⟩
theorem tmod2(a:Int): -1≤a.tmod 2∧a.tmod 2≤1:=by
 rcases Int.le_total 0 a with h|h
 · rw[Int.tmod_eq_emod_of_nonneg h];omega
 · have e:a.tmod 2= -((-a).tmod 2):=by rw[Int.neg_tmod,Int.neg_neg]
   rw[e,Int.tmod_eq_emod_of_nonneg qJ];omega
set_option maxHeartbeats 6400000 in
theorem qQl(h:SBx B w v m s d)(hi:DmI rows cols room d)(o:Sop):Calls jG 75 #[.pointer (some ⟨v.S,0,none⟩),.pointer (some ⟨m.M,0,none⟩),.agg (bY o).toArray] w (DoesX B w v m (cP s o) (cP d o)):=by
 obtain⟨W,hW⟩:∃W,w.alloc (.cells (bY o).toArray 34)=W:=⟨_,rfl⟩;have hb0:Below w.heap.size w W:=by rw[←hW];exact jW (jU _ _) _
 have HC0:Hid (XZ W w.heap.size o):=Hd (by rw[←hW];exact XZ.new o);have HS0:=Hd (h.below hb0);have HB0:=Hd hb0;have HW:=Hd hW;have HBX:Hid (w.heap.size∉scX v∧w.heap.size∉dmX m):=Hd ⟨fun hx=>by have :=(h.p.lt _ hx).2;omega,fun hx=>by have :=(h.d.lt _ hx).2;omega⟩;have HI:=Hd hi;have hBw:=h.base;clear hW hb0 h hi;obtain⟨k,a,b,r,A,H,cap⟩:=o
 go_enter Tryz.func75,Tryz.ntmps75
 go_upto_region 1 with fail
 rw[HW.o];clear HW;obtain⟨c0,c1,c2,c3,c4⟩:=HC0.o;simp only at c0 c1 c2 c3 c4
 by_cases hk:k=23∨k=24
 · have HQ:Hid (cP s ⟨k,a,b,r,A,H,cap⟩=Ky s (a.tmod 2 != 0) (b.tmod 2==0) (k==24)∧cP d ⟨k,a,b,r,A,H,cap⟩=Ky d (a.tmod 2 != 0) (b.tmod 2==0) (k==24)):=Hd (by unfold cP;rw[if_pos hk,if_pos hk];exact⟨rfl,rfl⟩);have hwa:jP.wrap (a.tmod 2)=a.tmod 2:=jH _ (by have :=tmod2 a;omega);have hwb:jP.wrap (b.tmod 2)=b.tmod 2:=jH _ (by have :=tmod2 b;omega);obtain⟨p1,hp1⟩:∃p,(a.tmod 2 != 0)=p:=⟨_,rfl⟩;obtain⟨p2,hp2⟩:∃p,(b.tmod 2==0)=p:=⟨_,rfl⟩;rw[hp1,hp2]at HQ;rcases hk with rfl|rfl
   · have HQ2:Hid (cP s ⟨23,a,b,r,A,H,cap⟩=Ky s p1 p2 false∧cP d ⟨23,a,b,r,A,H,cap⟩=Ky d p1 p2 false):=Hd HQ.o
     go_upto_region 5 with fail
     clear hp1 hp2 hwa hwb c0 c1 c2 c3 c4 HQ;have hb5:Below W.heap.size W (W.alloc (.cells #[.bool p1,.bool p2,.bool false] 45)):=jW (jU _ _) _;have HZ5:Hid ((W.alloc (.cells #[.bool p1,.bool p2,.bool false] 45)).heap[W.heap.size]? =some (.cells #[.bool p1,.bool p2,.bool false] 45 (0,0))):=Hd (kZ rfl);have HS5:=Hd (HS0.o.below hb5);have HB5:=Hd (jN HB0.o hb5);generalize W.alloc (.cells #[.bool p1,.bool p2,.bool false] 45)=W5 at HZ5 HS5 HB5 ⊢;obtain⟨g,hg⟩:∃g,W.heap.size=g:=⟨_,rfl⟩;have HG:Hid (g∉scX v):=Hd (fun hx=>by have :=(HS0.o.p.lt _ hx).2;omega);rw[hg]at HZ5 ⊢;clear hg hb5;obtain⟨z0,-⟩:=at_ HZ5.o 0 (.bool p1) rfl;obtain⟨z1,-⟩:=at_ HZ5.o 1 (.bool p2) rfl;obtain⟨z2,-⟩:=at_ HZ5.o 2 (.bool false) rfl;have HSET:=Hd (Vg HS5.o.p p1 p2 false)
     go_upto_region 6 with(go_at_call 90;(with_reducible refine HSET.o.mono ?_);rintro e w6 ⟨rfl,hr⟩;have HR6:=Hd hr;clear hr)
     have y0:=HR6.o.modr.cell HG.o z0;have y1:=HR6.o.modr.cell HG.o z1;have y2:=HR6.o.modr.cell HG.o z2;have HD6:=Hd (HS5.o.mid HR6.o);obtain⟨d0,d0f⟩:=HD6.o.cellAt 13 (.bool d.pen.put) (fun _=>rfl);obtain⟨d1,d1f⟩:=HD6.o.cellAt 14 (.bool d.pen.wrap) (fun _=>rfl);obtain⟨d2,d2f⟩:=HD6.o.cellAt 15 (.bool d.pen.home) (fun _=>rfl);clear z0 z1 z2
     go_wp2
     go_end0
     rw[HQ2.o.1,HQ2.o.2];exact⟨rfl,zC.pre HB5.o (HS5.o.step HR6.o (HD6.o.puts 13 [.bool p1,.bool p2,.bool false] (by show 13+3≤38;omega) (s':=Ky d p1 p2 false) (fun _=>rfl) rfl rfl))⟩
   · have HQ2:Hid (cP s ⟨24,a,b,r,A,H,cap⟩=Ky s p1 p2 true∧cP d ⟨24,a,b,r,A,H,cap⟩=Ky d p1 p2 true):=Hd HQ.o
     go_upto_region 5 with fail
     clear hp1 hp2 hwa hwb c0 c1 c2 c3 c4 HQ;have hb5:Below W.heap.size W (W.alloc (.cells #[.bool p1,.bool p2,.bool true] 45)):=jW (jU _ _) _;have HZ5:Hid ((W.alloc (.cells #[.bool p1,.bool p2,.bool true] 45)).heap[W.heap.size]? =some (.cells #[.bool p1,.bool p2,.bool true] 45 (0,0))):=Hd (kZ rfl);have HS5:=Hd (HS0.o.below hb5);have HB5:=Hd (jN HB0.o hb5);generalize W.alloc (.cells #[.bool p1,.bool p2,.bool true] 45)=W5 at HZ5 HS5 HB5 ⊢;obtain⟨g,hg⟩:∃g,W.heap.size=g:=⟨_,rfl⟩;have HG:Hid (g∉scX v):=Hd (fun hx=>by have :=(HS0.o.p.lt _ hx).2;omega);rw[hg]at HZ5 ⊢;clear hg hb5;obtain⟨z0,-⟩:=at_ HZ5.o 0 (.bool p1) rfl;obtain⟨z1,-⟩:=at_ HZ5.o 1 (.bool p2) rfl;obtain⟨z2,-⟩:=at_ HZ5.o 2 (.bool true) rfl;have HSET:=Hd (Vg HS5.o.p p1 p2 true)
     go_upto_region 6 with(go_at_call 90;(with_reducible refine HSET.o.mono ?_);rintro e w6 ⟨rfl,hr⟩;have HR6:=Hd hr;clear hr)
     have y0:=HR6.o.modr.cell HG.o z0;have y1:=HR6.o.modr.cell HG.o z1;have y2:=HR6.o.modr.cell HG.o z2;have HD6:=Hd (HS5.o.mid HR6.o);obtain⟨d0,d0f⟩:=HD6.o.cellAt 13 (.bool d.pen.put) (fun _=>rfl);obtain⟨d1,d1f⟩:=HD6.o.cellAt 14 (.bool d.pen.wrap) (fun _=>rfl);obtain⟨d2,d2f⟩:=HD6.o.cellAt 15 (.bool d.pen.home) (fun _=>rfl);clear z0 z1 z2
     go_wp2
     go_end0
     rw[HQ2.o.1,HQ2.o.2];exact⟨rfl,zC.pre HB5.o (HS5.o.step HR6.o (HD6.o.puts 13 [.bool p1,.bool p2,.bool true] (by show 13+3≤38;omega) (s':=Ky d p1 p2 true) (fun _=>rfl) rfl rfl))⟩
 by_cases h25:k=25
 · subst h25;have HQ:Hid (cP s ⟨25,a,b,r,A,H,cap⟩={s with pen:={s.pen with ch:=dD (u8B r)}}∧cP d ⟨25,a,b,r,A,H,cap⟩={d with pen:={d.pen with ch:=dD (u8B r)}}):=Hd (by unfold cP;rw[if_neg hk,if_pos rfl,if_neg hk,if_pos rfl];exact⟨rfl,rfl⟩);have hu:0≤u8B r∧u8B r<256:=by unfold u8B;omega
   have hwu:IntKind.u8.wrap r=u8B r:=by unfold u8B;rw[IntKind.wrap_u8]
   obtain⟨u,hue⟩:∃u,u8B r=u:=⟨_,rfl⟩;rw[hue]at HQ hu hwu;have HN1:=Hd (fun w=>JJ w);have HN2:=Hd (fun w=>Q5 u w hu.1 hu.2);have HN3:=Hd (fun w=>Vx w);have HN4:=Hd (fun w=>Ua u w hu.1 hu.2);clear hk hu hue c1 c2 c4
   go_upto_region 8 with fail
   clear c0;refine gG 6 (fun w'=>Below W.heap.size W w'∧w'.cell? ⟨w.heap.size,3,none⟩=some (.int .i32 r)) qQ qQ (fun w1 w2 hS hb=>⟨jN hS.1 hb,jA hb hS.2⟩) ⟨(jU _ _).drew,c3⟩ ?_;refine AtN.take 0 (o:=⟨_,_,_,_,_,_⟩) (v:=chV pF) qQ rfl qV qQ qQ (uY.call1 92 #[] (chV pF) qK qB (fun w' hS=>HN1.o w')) ?_;refine zP ?_;refine AtN.go 1 ?_
   iterate 3 refine zA ?_
   refine AtC.back ?_;refine AtN.take 4 (o:=⟨_,_,_,_,_,_⟩) (v:=chV (dD u)) qQ rfl qV qQ qQ (uY.call1 142 #[chV pF,.string ⟨#[40]⟩,.int .u8 u] (chV (dD u)) qK qB (fun w' hS=>HN2.o w')) ?_;refine zP ?_;refine AtN.one 5 (o:=⟨_,_,_,_,_,_⟩) _ _ qV qQ rfl (Yl.pers _ _) (uY.alloc W.heap.size 43 (vI ⟨0,0,0,0,0,0⟩).toArray [] qK ?_ (fun w' hS=>hS.1.size) (fun w' hS x hx=>by simp at hx)) ?_
   · intro w' hS
     go_simp
     rfl
   rintro v5 ⟨g,rfl,hge,-⟩;refine zP ?_;refine AtN.done qQ (fun w' hS=>?_);obtain⟨⟨hb8,c3'⟩,hz8⟩:=hS;have hz8:=hz8.at_;have HG:Hid (g∉scX v):=Hd (fun hx=>by have :=(HS0.o.p.lt _ hx).2;omega);obtain⟨c,hc⟩:∃c,dD u=c:=⟨_,rfl⟩;rw[hc]at HN2 HN4 HQ ⊢;have HSW:=Hd (HS0.o.below hb8);have HBW:=Hd (jN HB0.o hb8);simp only[jB,jF];obtain⟨g0,g1,g2,g3,gu,go⟩:=c;refine wpList_store_mid rfl 43 (.tmp 7) (.tmp 39) rfl (g) (0) ((vI ⟨g0,g1,g2,g3,gu,go⟩).toArray) rfl rfl ((show World.there _ g 0 6 from gH hz8)) iU (all_oneCell_toArray (dB _)) ?_;simp only[Act.put];change wpList _ _ _ _ _ (w'.setCells g 0 (vI ⟨g0,g1,g2,g3,gu,go⟩));have HZ9:=Hd (uB (vI ⟨g0,g1,g2,g3,gu,go⟩) 0 _ _ hz8 qVl);have hm9:Mod [g] w' (w'.setCells g 0 (vI ⟨g0,g1,g2,g3,gu,go⟩)):=gM (.inl qV) _ 0 w' (Mod.refl _ _);have hgs:W.heap.size≤g:=hge;have hnc:yD w' [g]:=fun b hb cs f he=>by rw[jR.1 hb]at he;exact uP hz8 he qZ rfl
   have HS9:Hid (SBx B (w'.setCells g 0 (vI ⟨g0,g1,g2,g3,gu,go⟩)) v m s d):=Hd ⟨HSW.o.p.mod hm9 hnc (fun b hb hx=>HG.o qJw),HSW.o.d.mod hm9 hnc (fun b hb hx=>by have :=(HS0.o.d.lt b hb).2;rw[jR.1 hx]at this;omega),HSW.o.ap⟩;have HB9:Hid (Below w.heap.size w (w'.setCells g 0 (vI ⟨g0,g1,g2,g3,gu,go⟩))):=Hd (gX HBW.o (vY HB0.o.size hgs) _ _);have hgw:w.heap.size≠g:=fun he=>by have h3:=gO c3;have :=HB0.o.size;omega
   have c3:=hm9.cell (b:=w.heap.size) (by simp;exact hgw) c3';generalize w'.setCells g 0 (vI ⟨g0,g1,g2,g3,gu,go⟩)=W9 at HZ9 HS9 HB9 c3 ⊢;clear hb8 c3' hz8 hm9 hge hgs hnc hgw hc;have HCH:Hid (Calls jG 91 #[.pointer (some ⟨v.S,0,none⟩),.agg (vI ⟨g0,g1,g2,g3,gu,go⟩).toArray] W9 (gQ B W9 v {s with pen:={s.pen with ch:=⟨g0,g1,g2,g3,gu,go⟩}})):=Hd (Xv HS9.o.p ⟨g0,g1,g2,g3,gu,go⟩);have HC3:=Hd c3;clear c3;refine wpList_nil ?_
   go_upto_region 9 with fail
   refine wp_region_lit ?_;refine zG (.pointer (some ⟨v.S,0,none⟩)) ?_;refine uF qK 43 (.tmp 7) rfl (g) (0) rfl (vI ⟨g0,g1,g2,g3,gu,go⟩) _ (kA HZ9.o) Tryz.underlying43 rfl iU ?_;refine zP ?_
   go_upto_region 10 with(go_at_call 91;(with_reducible refine HCH.o.mono ?_);rintro e w10 ⟨rfl,hr⟩;have HR10:=Hd hr;clear hr)
   have HD10:=Hd (HS9.o.mid HR10.o);have c3:=HR10.o.modr.cell HBX.o.1 HC3.o;refine gG 9 (fun w'=>Below w10.heap.size w10 w'∧w'.cell? ⟨w.heap.size,3,none⟩=some (.int .i32 r)) qQ qQ (fun w1 w2 hS hb=>⟨jN hS.1 hb,jA hb hS.2⟩) ⟨(jU _ _).drew,c3⟩ ?_;refine AtN.take 0 (o:=⟨_,_,_,_,_,_⟩) (v:=?_) qQ rfl qV qQ qQ ?_ ?_;rotate_left
   · first|exact uY.skip qK|(refine uY.val qK ?_;intro w' hS;obtain⟨_,_⟩:=hS;go_simp;first|done|with_reducible rfl)
   refine zP ?_;refine AtN.take 1 (o:=⟨_,_,_,_,_,_⟩) (v:=chV pF) qQ rfl qV qQ qQ (uY.call1 144 #[] (chV pF) qK qB (fun w' hS=>HN3.o w')) ?_;refine zP ?_;refine AtN.go 2 ?_
   iterate 3 refine zA ?_
   refine AtC.back ?_;refine AtN.take 5 (o:=⟨_,_,_,_,_,_⟩) (v:=chV ⟨g0,g1,g2,g3,gu,go⟩) qQ rfl qV qQ qQ (uY.call1 143 #[chV pF,.string ⟨#[40]⟩,.int .u8 u] (chV ⟨g0,g1,g2,g3,gu,go⟩) qK qB (fun w' hS=>HN4.o w')) ?_;refine zP ?_;refine AtN.go 6 ?_
   iterate 3 refine zA ?_
   refine AtC.back ?_;refine AtN.done qQ (fun w' hS=>?_);have HR:=Hd (HD10.o.post hS.1);clear hS c3;simp only[jB,jF];refine wpList_store_mid rfl 66 (.tmp 51) (.tmp 48) rfl (m.M) (7) ((vI ⟨g0,g1,g2,g3,gu,go⟩).toArray) rfl rfl (HR.o.there qVz) bE (all_oneCell_toArray (dB _)) ?_;simp only[Act.put];have HF:=Hd (HR.o.puts 7 (vI ⟨g0,g1,g2,g3,gu,go⟩) qVz (s':={d with pen:={d.pen with ch:=⟨g0,g1,g2,g3,gu,go⟩}}) (fun _=>rfl) rfl rfl)
   go_wp2
   go_end0
   rw[HQ.o.1,HQ.o.2];exact⟨rfl,zC.pre HB9.o (HS9.o.step HR10.o HF.o)⟩
 by_cases h26:k=26
 · subst h26;have HQ:Hid (cP s ⟨26,a,b,r,A,H,cap⟩={s with st:=iA s.st a true}∧cP d ⟨26,a,b,r,A,H,cap⟩={d with st:=iA d.st a true}):=Hd (by unfold cP;rw[if_neg hk,if_neg (by show ¬(26:Int)=25;decide),if_pos rfl,if_neg hk,if_neg (by show ¬(26:Int)=25;decide),if_pos rfl];exact⟨rfl,rfl⟩);obtain⟨st',hst'⟩:∃l,iA s.st a true=l:=⟨_,rfl⟩;obtain⟨dt',hdt'⟩:∃l,iA d.st a true=l:=⟨_,rfl⟩;rw[hst',hdt']at HQ;have HST:Hid (∀w',Below W.heap.size W w'→Calls jG 28 #[.pointer (some ⟨v.S,0,none⟩)] w' (fun e w''=>e=.returned (.pointer (some ⟨v.T,0,none⟩))∧Below w'.heap.size w' w'')):=Hd (fun w' hb=>(rO (HS0.o.p.below hb)).mono (fun e w2 hh=>⟨hh.1,by rw[←hh.2];exact jU _ _⟩));have HSE:Hid (∀w',Below W.heap.size W w'→Calls jG 145 #[.pointer (some ⟨v.T,0,none⟩),.int .i64 a] w' (eF B w' v.T v.vw st')):=Hd (fun w' hb=>by rw[←hst'];exact VT (HS0.o.p.below hb).tabs a);have hst:=HI.o.n.st;have hc2:=HI.o.c2;have hc3:=HI.o.c;have HWT:Hid (∀(w':World) (A:Option Addr) (ca:Nat),pA fC 1 w' A d.st→Calls jG 146 #[.slice A d.st.length ca,.int .i64 a,.bool true] w' (JB dt' w')):=Hd (fun w' A ca hg=>by rw[←hdt'];exact QN w' A d.st ca a true hg qJ qJ);clear hk hst' hdt' hst hc2 hc3 c2 c3 c4
   go_upto_region 12 with fail
   clear c0;refine zU1 4 c1 ?_
   repeat first|refine zS ?_|refine zC0 (zC1 HST.o) ?_|refine zV ?_
   refine kU (fun w' hS=>?_);have HSW:=Hd (HS0.o.below hS.1);have HBW:=Hd (jN HB0.o hS.1);have HSX:=Hd (HSE.o _ hS.1);have HC1:=Hd hS.2;clear hS c1
   go_upto_region 13 with(go_at_call 145;(with_reducible refine HSX.o.mono ?_);rintro e w5 ⟨rfl,hr⟩;have HT5:=Hd hr;clear hr)
   have HR5:=Hd (HSW.o.p.tabbed HT5.o);have HD5:=Hd (HSW.o.mid HR5.o);have c1:=HR5.o.modr.cell HBX.o.1 HC1.o;obtain⟨VA,vc,c_vs,hgr⟩:=HD5.o.stopsC;have HGR:=Hd hgr;clear hgr HT5 HSX;refine gG 10 (fun w'=>Below w5.heap.size w5 w'∧w'.cell? ⟨w.heap.size,1,none⟩=some (.int .i64 a)∧w'.cell? ⟨m.M,1,none⟩=some (.slice VA d.st.length vc)) qQ qQ (fun w1 w2 hS hb=>⟨jN hS.1 hb,jA hb hS.2.1,jA hb hS.2.2⟩) ⟨(jU _ _).drew,c1,c_vs⟩ ?_;refine AtN.go 0 ?_
   iterate 7 refine zA ?_
   refine AtC.back ?_;refine AtN.one 7 (o:=⟨_,_,_,_,_,_⟩) (fun _=>True) (fun u w'=>DbO w5.heap.size w' u dt') qV qQ rfl (fun u w1 w2 h hb=>h.below hb) (uY.call 146 #[.slice VA d.st.length vc,.int .i64 a,.bool true] _ _ qK qB (fun w' hS=>(HWT.o w' VA vc (HGR.o.below hS.1)).mono fun e w3 ⟨u,he,ho,hb⟩=>⟨u,he,⟨trivial,gJ ho hS.1.size⟩,hb⟩)) ?_;rintro u -;refine zP ?_;refine AtN.go 8 ?_
   iterate 2 (refine AtC.take (o:=⟨_,_,_,_,_,_⟩) (v:=?_) qQ rfl qV qQ qQ ?_ ?_;rotate_left;(focus(first|exact uY.skip qK|(refine uY.val qK ?_;intro w' hS;obtain⟨⟨_,_,_⟩,_⟩:=hS;go_simp;first|done|with_reducible rfl)));refine zP ?_)
   refine AtC.back ?_;refine AtN.done qQ (fun w' hS=>?_);obtain⟨⟨hb7,-,-⟩,hou⟩:=hS;have HF:=Hd (HD5.o.stopped hb7 hou);obtain⟨⟨u0,d1⟩,d1f⟩:=(HD5.o.post hb7).stopsF;obtain⟨UA,uc,rfl⟩:=gU (show kK _ _ _ _ _ _ _ from hou);clear hb7 hou c1 c_vs;simp only[jB,jF]
   go_wp2
   go_end0
   rw[HQ.o.1,HQ.o.2];exact⟨rfl,zC.pre HBW.o (HSW.o.step HR5.o HF.o)⟩
 by_cases h27:k=27
 · subst h27;have HQ:Hid (cP s ⟨27,a,b,r,A,H,cap⟩={s with st:=iA s.st a false}∧cP d ⟨27,a,b,r,A,H,cap⟩={d with st:=iA d.st a false}):=Hd (by unfold cP;rw[if_neg hk,if_neg (by show ¬(27:Int)=25;decide),if_neg (by show ¬(27:Int)=26;decide),if_pos rfl,if_neg hk,if_neg (by show ¬(27:Int)=25;decide),if_neg (by show ¬(27:Int)=26;decide),if_pos rfl];exact⟨rfl,rfl⟩);obtain⟨st',hst'⟩:∃l,iA s.st a false=l:=⟨_,rfl⟩;obtain⟨dt',hdt'⟩:∃l,iA d.st a false=l:=⟨_,rfl⟩;rw[hst',hdt']at HQ;have HST:Hid (∀w',Below W.heap.size W w'→Calls jG 28 #[.pointer (some ⟨v.S,0,none⟩)] w' (fun e w''=>e=.returned (.pointer (some ⟨v.T,0,none⟩))∧Below w'.heap.size w' w'')):=Hd (fun w' hb=>(rO (HS0.o.p.below hb)).mono (fun e w2 hh=>⟨hh.1,by rw[←hh.2];exact jU _ _⟩));have HSE:Hid (∀w',Below W.heap.size W w'→Calls jG 147 #[.pointer (some ⟨v.T,0,none⟩),.int .i64 a] w' (eF B w' v.T v.vw st')):=Hd (fun w' hb=>by rw[←hst'];exact aI (HS0.o.p.below hb).tabs a);have hst:=HI.o.n.st;have hc2:=HI.o.c2;have hc3:=HI.o.c
   have HWT:Hid (∀(w':World) (A:Option Addr) (ca:Nat),pA fC 1 w' A d.st→Calls jG 146 #[.slice A d.st.length ca,.int .i64 a,.bool false] w' (JB dt' w')):=Hd (fun w' A ca hg=>by rw[←hdt'];exact QN w' A d.st ca a false hg qJ qJ);clear hk hst' hdt' hst hc2 hc3 c2 c3 c4
   go_upto_region 15 with fail
   clear c0;refine zU1 4 c1 ?_
   repeat first|refine zS ?_|refine zC0 (zC1 HST.o) ?_|refine zV ?_
   refine kU (fun w' hS=>?_);have HSW:=Hd (HS0.o.below hS.1);have HBW:=Hd (jN HB0.o hS.1);have HSX:=Hd (HSE.o _ hS.1);have HC1:=Hd hS.2;clear hS c1
   go_upto_region 16 with(go_at_call 147;(with_reducible refine HSX.o.mono ?_);rintro e w5 ⟨rfl,hr⟩;have HT5:=Hd hr;clear hr)
   have HR5:=Hd (HSW.o.p.tabbed HT5.o);have HD5:=Hd (HSW.o.mid HR5.o);have c1:=HR5.o.modr.cell HBX.o.1 HC1.o;obtain⟨VA,vc,c_vs,hgr⟩:=HD5.o.stopsC;have HGR:=Hd hgr;clear hgr HT5 HSX;refine gG 10 (fun w'=>Below w5.heap.size w5 w'∧w'.cell? ⟨w.heap.size,1,none⟩=some (.int .i64 a)∧w'.cell? ⟨m.M,1,none⟩=some (.slice VA d.st.length vc)) qQ qQ (fun w1 w2 hS hb=>⟨jN hS.1 hb,jA hb hS.2.1,jA hb hS.2.2⟩) ⟨(jU _ _).drew,c1,c_vs⟩ ?_;refine AtN.go 0 ?_
   iterate 7 refine zA ?_
   refine AtC.back ?_;refine AtN.one 7 (o:=⟨_,_,_,_,_,_⟩) (fun _=>True) (fun u w'=>DbO w5.heap.size w' u dt') qV qQ rfl (fun u w1 w2 h hb=>h.below hb) (uY.call 146 #[.slice VA d.st.length vc,.int .i64 a,.bool false] _ _ qK qB (fun w' hS=>(HWT.o w' VA vc (HGR.o.below hS.1)).mono fun e w3 ⟨u,he,ho,hb⟩=>⟨u,he,⟨trivial,gJ ho hS.1.size⟩,hb⟩)) ?_;rintro u -;refine zP ?_;refine AtN.go 8 ?_
   iterate 2 (refine AtC.take (o:=⟨_,_,_,_,_,_⟩) (v:=?_) qQ rfl qV qQ qQ ?_ ?_;rotate_left;(focus(first|exact uY.skip qK|(refine uY.val qK ?_;intro w' hS;obtain⟨⟨_,_,_⟩,_⟩:=hS;go_simp;first|done|with_reducible rfl)));refine zP ?_)
   refine AtC.back ?_;refine AtN.done qQ (fun w' hS=>?_);obtain⟨⟨hb7,-,-⟩,hou⟩:=hS;have HF:=Hd (HD5.o.stopped hb7 hou);obtain⟨⟨u0,d1⟩,d1f⟩:=(HD5.o.post hb7).stopsF;obtain⟨UA,uc,rfl⟩:=gU (show kK _ _ _ _ _ _ _ from hou);clear hb7 hou c1 c_vs;simp only[jB,jF]
   go_wp2
   go_end0
   rw[HQ.o.1,HQ.o.2];exact⟨rfl,zC.pre HBW.o (HSW.o.step HR5.o HF.o)⟩
 · have HQ:=Hd (kM (QR (s:=s) (o:=⟨k,a,b,r,A,H,cap⟩) (by show k<23∨27<k;omega)) (QR (s:=d) (o:=⟨k,a,b,r,A,H,cap⟩) (by show k<23∨27<k;omega)));have e23:(k==23)=false:=zb (fun h=>hk (.inl h));have e24:(k==24)=false:=zb (fun h=>hk (.inr h));have e25:(k==25)=false:=zb h25;have e26:(k==26)=false:=zb h26;have e27:(k==27)=false:=zb h27;clear hk h25 h26 h27 c1 c2 c3 c4
   go_wp2
   go_end0
   rw[HQ.o.1,HQ.o.2];exact⟨rfl,zC.pre HB0.o HS0.o.res⟩
end
end Go.Proofs.YtjcpdcncfjkejaaGreatDoor
