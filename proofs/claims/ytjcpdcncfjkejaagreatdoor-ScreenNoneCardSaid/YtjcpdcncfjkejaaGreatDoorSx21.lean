/- Joined by a tool of this claim out of smaller texts. Conditions: as stated. -/
import Derived.Test.YtjcpdcncfjkejaaGreatDoorSx20
set_option linter.unusedVariables false
set_option linter.unusedSimpArgs false
set_option maxRecDepth 100000
open Go.Lib renaming hid → Hd
open Go.Proofs.Tryz renaming prog → jG, underlying40 → vN
open Go.RowKit.Below renaming refl → jU
open Go.IntWalk renaming i64_in → jH
open Go.IntKind renaming i64 → jP
open List renaming getElem?_eq_getElem → jD, getD_eq_getElem?_getD → kP
open Nat renaming le_refl → jS, zero_le → kT, le_trans → vY
open And renaming intro → kM
open Go.World renaming setCell → uQ
namespace Go.Proofs.YtjcpdcncfjkejaaGreatDoor
open Go.RowKit
theorem extG_le(l:List (List Int))(i:Nat):(eH l i).2≤i+5:=by
 unfold eH;simp only[]
 split
 · split
   · show i+1≤_;omega
   split
   · show i+1≤_;omega
   · show i+1≤_;omega
 split
 · show i+3≤_;omega
 split
 · show i+5≤_;omega
 · show i+2≤_;omega
theorem Z4(a:Atr)(l:List (List Int))(i:Nat):(eB a l i).2≤i+5:=by
 unfold eB
 split
 · exact extG_le l i
 · show i+1≤_;omega
section
variable {w:World}{A:Option Addr}{H:List Gh}
set_option maxHeartbeats 12800000 in
theorem Xe(hG:eR w A H)(ca:Nat)(hcl:JP (vK H))(hz:H.length≤1000)(a:Atr)(hf:zZ a.fl):Calls jG 114 #[.agg (aL a).toArray,.slice A H.length ca] w (fO (dO a (vK H)) w):=by
 obtain⟨W,hW⟩:∃W,(w.alloc (.cells (aL a).toArray 40)).alloc (.cells (aL zY).toArray 40)=W:=⟨_,rfl⟩;have hb:Below w.heap.size w W:=by rw[←hW];exact jW (jW (jU _ _) _) _
 have hcx:W.heap[w.heap.size]? =some (.cells (aL a).toArray 40 (0,0)):=by rw[←hW];exact uI (kZ rfl)
 have hcy:W.heap[w.heap.size+1]? =some (.cells (aL zY).toArray 40 (0,0)):=by rw[←hW];exact kZ qV
 have HB0:=Hd hb;have HX0:=Hd hcx;have HY0:=Hd hcy;have HW:=Hd hW;have hgl:(vK H).length=H.length:=by unfold vK;simp
 obtain⟨L,hL⟩:∃L,H.length=L:=⟨_,rfl⟩;have HGET:Hid (∀i,i<L→∃(x:Gh) (gb off:Nat),A=some ⟨gb,off,none⟩∧w.cell? ⟨gb,off+i,none⟩=some (.slice x.A x.g.length x.cap)∧(vK H).getD i []=x.g∧x.g.length≤8∧pA zQ 1 w x.A x.g):=Hd (fun i hi=>by
  obtain⟨x,gb,off,h1,h2,h3,⟨h4,h4b⟩,h5⟩:=hG.get (i:=i) qJ;have hm:(vK H).getD i []∈vK H:=by
   have hi':i<(vK H).length:=by omega
   rw[kP,jD hi'];exact List.getElem_mem hi'
  have h8:=(hcl _ hm).2.1;rw[h5]at h8;exact⟨x,gb,off,h2,h3,h5,h8,h4⟩)
 have HAT:Hid (∀W',Below w.heap.size w W'→∀i:Nat,Calls jG 186 #[.slice A L ca,.int .i64 i] W' fun e w'=>e=.returned (.tuple #[.int .i64 (yG (vK H) i),.bool (decide (i<L))])∧W'=w'):=Hd (fun W' hb' i=>by rw[←hL];exact UJ (hG.below hb') ca i hcl qJ);have HEX:Hid (∀W',Below w.heap.size w W'→∀i:Nat,i<L→Calls jG 187 #[.slice A L ca,.int .i64 i] W' (tA (eH (vK H) i) W')):=Hd (fun W' hb' i hi=>by rw[←hL]at hi ⊢;exact U4 (hG.below hb') ca i hcl hi hz);have HV:Hid (∀i:Nat,0≤yG (vK H) i∧yG (vK H) i≤65535):=Hd (fun i=>⟨mP _ i,YD hcl i⟩);have HWT:Hid (∀(f k:Int) (on:Bool) (w:World),zZ f→k∈([1,2,4,8,16,32,64,128,256,512]:List Int)→Calls jG 188 #[.int .i64 f,.int .i64 k,.bool on] w fun e w'=>e=.returned (.int .i64 (zI f k on))∧w=w'):=Hd (fun f k on w hf hk=>Us f k on w hf.1 hf.2 (by simp at hk;omega) (by simp at hk;omega));have HEND:Hid (∀(a':Atr) (i:Nat),L≤i→cE L a' (vK H) i=dO a (vK H)→a'=dO a (vK H)):=Hd (fun a' i hi h=>by rw[iM _ _ _ _ qJ]at h;exact h);have HST:Hid (∀(a':Atr) (i:Nat),i<L→cE L a' (vK H) i=dO a (vK H)→∃j:Nat,(eB a' (vK H) i).2=j∧i<j∧j≤L+5∧cE L (eB a' (vK H) i).1 (vK H) j=dO a (vK H)):=Hd (fun a' i hi h=>by
  have e:(vK H).length=L:=by omega
  have h2:=aT (vK H) a' i qJ;rw[e]at h2;exact⟨_,rfl,mO _ _ _,vY (Z4 _ _ _) qJ,h2.symm.trans h⟩)
 have HS0:Hid (cE L a (vK H) 0=dO a (vK H)):=Hd (by unfold dO;rw[hgl,hL]);have HFL:=Hd hf;rw[hL]at hz ⊢;obtain⟨T,hT⟩:∃T,dO a (vK H)=T:=⟨_,rfl⟩;rw[hT]at HEND HST HS0 ⊢;generalize vK H=G at HGET HAT HEX HV HEND HST HS0;clear hG hcl hb hcx hcy hW hgl hL hf hT
 go_enter Tryz.func114,Tryz.ntmps114
 go_upto_region 1 with fail
 have hW2:(w.alloc (.cells (aL a).toArray 40)).alloc (.cells #[.int .i64 0,.int .i64 0,.int .i64 0,.int .i64 0,.int .i64 0] 40)=W:=HW.o;rw[hW2];clear hW2
 go_wp2_with fail
 go_loopw [5] (fun s5 wr=>∃(i:Nat) (a':Atr),s5=.int .i64 i∧i≤L+5∧zZ a'.fl∧cE L a' G i=T∧wr.heap[w.heap.size]? =some (.cells (aL a').toArray 40 (0,0))∧wr.heap[w.heap.size+1]? =some (.cells (aL zY).toArray 40 (0,0))∧Below w.heap.size w wr) (fun s5 _=>L+5-(intOf s5).toNat)
 case atStart=>exact⟨0,a,rfl,kT _,HFL.o,HS0.o,HX0.o,HY0.o,HB0.o⟩
 case round=>
  obtain⟨i,a',rfl,hi,hok,htn,hx,hy,hbw⟩:=hrel;have HX:=Hd hx;have HY:=Hd hy;have HB:=Hd hbw;have HOK:=Hd hok;have HTN:=Hd htn;have hwi:jP.wrap ((i:Int)+1)=(i:Int)+1:=jH _ qJ;clear HX0 HY0 HB0 HFL HS0 HW hx hy hbw hok htn
  by_cases hlt:i<L
  rotate_left
  · have hltI:¬(i:Int)<(L:Int):=by omega
    obtain rfl:=HEND.o a' i qJ HTN.o;obtain⟨fk,fn,bk,bn,fl⟩:=a'
    go_upto_region 69 with fail
    refine wp_region_lit ?_;refine uF qK 40 (.tmp 2) rfl (w.heap.size) (0) rfl (aL ⟨fk,fn,bk,bn,fl⟩) _ (kA HX.o) vN rfl pD ?_;refine zP ?_;refine wpList_store_mid rfl 40 (.tmp 4) (.tmp 217) rfl (w.heap.size+1) (0) ((aL ⟨fk,fn,bk,bn,fl⟩).toArray) rfl rfl ((show World.there _ (w.heap.size+1) 0 5 from gH HY.o)) pD (all_oneCell_toArray (JS _)) ?_;simp only[Act.put]
    go_wp2
    have hw:=uB (aL ⟨fk,fn,bk,bn,fl⟩) 0 _ _ HY.o qZb;exact qZ9
  · have hltI:(i:Int)<(L:Int):=by omega
    obtain⟨j,hj1,hj2,hj3,hj4⟩:=HST.o a' i hlt HTN.o;obtain⟨x,gb,off,rfl,hcg,hge,hg8,hgr⟩:=HGET.o i hlt;have hcg2:=jA HB.o hcg;have HGR:=Hd (hgr.below HB.o);have HA1:=Hd (HAT.o wr HB.o i);have HVI:=Hd (HV.o i);have HEI:=Hd (fun W' hb'=>HEX.o W' hb' i hlt);have HOK2:=Hd (VO HOK.o G i);obtain⟨a2,ha2⟩:∃a2,(eB a' G i).1=a2:=⟨_,rfl⟩;rw[ha2]at hj4 HOK2;have HJ1:=Hd hj1;have HA2:=Hd ha2;have HJ4:=Hd hj4;have HJ:=Hd (kM hj2 hj3);unfold eB at HJ1 HA2;rw[hge]at HA2;obtain⟨v,hv⟩:∃v,yG G i=v:=⟨_,rfl⟩;rw[hv]at HA1 HVI HJ1 HA2;obtain⟨K,hK⟩:∃K,x.g.length=K:=⟨_,rfl⟩;rw[hK]at hcg2 hg8;have HNUM:Hid (∀j,j<K→∃b2 off2:Nat,x.A=some ⟨b2,off2,none⟩∧wr.cell? ⟨b2,off2+j,none⟩=some (.int .i64 (x.g.getD j 0))):=Hd (fun j hj=>dA HGR.o qJ);obtain⟨xA,hxA⟩:∃a,x.A=a:=⟨_,rfl⟩;rw[hxA]at HNUM hcg2;have HKQ:=Hd hK;have HLT:=Hd hlt;clear hcg hge hj1 ha2 hj4 hj2 hj3 hv HTN HEND HST HGET HAT HEX HV hK hgr HGR hxA hg8 hlt hi
    by_cases h38:v=38∨v=48
    · have hA2:tY a' v (eH G i).1=a2:=by have h:=HA2.o;rw[if_pos h38]at h;exact h
      have hJ1:(eH G i).2=j:=by have h:=HJ1.o;rw[if_pos h38]at h;exact h
      obtain⟨c,hc⟩:∃c,eH G i=c:=⟨_,rfl⟩;rw[hc]at HEI hA2 hJ1;obtain⟨oc,jj⟩:=c;obtain rfl:jj=j:=hJ1;have HA3:Hid (tY a' v oc=a2):=Hd hA2;have HC:=Hd (HEI.o wr HB.o);clear HA2 HJ1 HEI hc hA2 HVI HNUM HKQ;obtain⟨fk,fn,bk,bn,fl⟩:=a';rcases h38 with rfl|rfl
      · have HBZ:=Hd (Hd HB.o)
        go_upto_region 6 with(go_at_call 186;(with_reducible refine HA1.o.mono ?_);rintro e w2 ⟨rfl,rfl⟩)
        clear hcg2
        go_upto_region 7 with(go_at_call 187;(with_reducible refine HC.o.mono ?_);rintro e w13 ⟨ck,cn,rfl,hd,hb13⟩;have HD:=Hd hd;have HB13:=Hd hb13;clear hd hb13)
        generalize hW7:World.alloc _ _=W7;have hb7:Below w13.heap.size w13 W7:=by rw[←hW7];exact jW (jU _ _) _
        have HZ7:Hid (W7.heap[w13.heap.size]? =some (.cells #[.int .i64 ck,.int .i64 cn] 38 (0,0))):=Hd (by rw[←hW7];exact kZ rfl);have HX7:=Hd ((hb7.block _ (kQ ((HB13.o.block _ (kQ HX.o)).trans HX.o))).trans ((HB13.o.block _ (kQ HX.o)).trans HX.o));have HY7:=Hd ((hb7.block _ (kQ ((HB13.o.block _ (kQ HY.o)).trans HY.o))).trans ((HB13.o.block _ (kQ HY.o)).trans HY.o));have HB7:=Hd (jN (jN HB.o HB13.o) hb7);clear hW7 hb7;obtain⟨z0,z0f⟩:=at_ HZ7.o 0 (.int .i64 ck) rfl;obtain⟨z1,z1f⟩:=at_ HZ7.o 1 (.int .i64 cn) rfl;obtain⟨x0,x0f⟩:=at_ HX7.o 0 (.int .i64 fk) rfl;obtain⟨x1,x1f⟩:=at_ HX7.o 1 (.int .i64 fn) rfl;cases oc with
        |none=>
         clear z0 z0f z1 z1f x0 x0f x1 x1f;have HXE:Hid (W7.heap[w.heap.size]? =some (.cells (aL a2).toArray 40 (0,0))):=Hd (by rw[←HA3.o];exact HX7.o)
         go_wp2
         go_roundw
         case rel=>exact⟨jj,a2,rfl,HJ.o.2,HOK2.o,HJ4.o,HXE.o,HY7.o,HB7.o⟩
         case measure=>have h1:=HJ.o;simp[intOf];omega
        |some d=>
         have hdd:=HD.o d rfl;subst hdd;have HX9:=Hd (kY (kY HX7.o 0 (.int .i64 ck) rfl) 1 (.int .i64 cn) rfl);have HY9:=Hd (uV (i:=1) (v:=.int .i64 cn) (uV (i:=0) (v:=.int .i64 ck) HY7.o (show w.heap.size+1≠w.heap.size by omega)) (show w.heap.size+1≠w.heap.size by omega));have HB9:=Hd (kH (kH HB7.o (jS w.heap.size) (o:=0) (.int .i64 ck)) (jS w.heap.size) (o:=1) (.int .i64 cn));have HXE:Hid (((W7.setCell ⟨w.heap.size,0,none⟩ (.int .i64 ck)).setCell ⟨w.heap.size,1,none⟩ (.int .i64 cn)).heap[w.heap.size]? =some (.cells (aL a2).toArray 40 (0,0))):=Hd (by rw[←HA3.o];exact HX9.o)
         go_wp2
         go_roundw
         case rel=>exact⟨jj,a2,rfl,HJ.o.2,HOK2.o,HJ4.o,HXE.o,HY9.o,HB9.o⟩
         case measure=>have h1:=HJ.o;simp[intOf];omega
      · have HBZ:=Hd (Hd HB.o)
        go_upto_region 6 with(go_at_call 186;(with_reducible refine HA1.o.mono ?_);rintro e w2 ⟨rfl,rfl⟩)
        clear hcg2
        go_upto_region 7 with(go_at_call 187;(with_reducible refine HC.o.mono ?_);rintro e w13 ⟨ck,cn,rfl,hd,hb13⟩;have HD:=Hd hd;have HB13:=Hd hb13;clear hd hb13)
        generalize hW7:World.alloc _ _=W7;have hb7:Below w13.heap.size w13 W7:=by rw[←hW7];exact jW (jU _ _) _
        have HZ7:Hid (W7.heap[w13.heap.size]? =some (.cells #[.int .i64 ck,.int .i64 cn] 38 (0,0))):=Hd (by rw[←hW7];exact kZ rfl);have HX7:=Hd ((hb7.block _ (kQ ((HB13.o.block _ (kQ HX.o)).trans HX.o))).trans ((HB13.o.block _ (kQ HX.o)).trans HX.o));have HY7:=Hd ((hb7.block _ (kQ ((HB13.o.block _ (kQ HY.o)).trans HY.o))).trans ((HB13.o.block _ (kQ HY.o)).trans HY.o));have HB7:=Hd (jN (jN HB.o HB13.o) hb7);clear hW7 hb7;obtain⟨z0,z0f⟩:=at_ HZ7.o 0 (.int .i64 ck) rfl;obtain⟨z1,z1f⟩:=at_ HZ7.o 1 (.int .i64 cn) rfl;obtain⟨x0,x0f⟩:=at_ HX7.o 2 (.int .i64 bk) rfl;obtain⟨x1,x1f⟩:=at_ HX7.o 3 (.int .i64 bn) rfl;cases oc with
        |none=>
         clear z0 z0f z1 z1f x0 x0f x1 x1f;have HXE:Hid (W7.heap[w.heap.size]? =some (.cells (aL a2).toArray 40 (0,0))):=Hd (by rw[←HA3.o];exact HX7.o)
         go_wp2
         go_roundw
         case rel=>exact⟨jj,a2,rfl,HJ.o.2,HOK2.o,HJ4.o,HXE.o,HY7.o,HB7.o⟩
         case measure=>have h1:=HJ.o;simp[intOf];omega
        |some d=>
         have hdd:=HD.o d rfl;subst hdd;have HX9:=Hd (kY (kY HX7.o 2 (.int .i64 ck) rfl) 3 (.int .i64 cn) rfl);have HY9:=Hd (uV (i:=3) (v:=.int .i64 cn) (uV (i:=2) (v:=.int .i64 ck) HY7.o (show w.heap.size+1≠w.heap.size by omega)) (show w.heap.size+1≠w.heap.size by omega));have HB9:=Hd (kH (kH HB7.o (jS w.heap.size) (o:=2) (.int .i64 ck)) (jS w.heap.size) (o:=3) (.int .i64 cn));have HXE:Hid (((W7.setCell ⟨w.heap.size,2,none⟩ (.int .i64 ck)).setCell ⟨w.heap.size,3,none⟩ (.int .i64 cn)).heap[w.heap.size]? =some (.cells (aL a2).toArray 40 (0,0))):=Hd (by rw[←HA3.o];exact HX9.o)
         go_wp2
         go_roundw
         case rel=>exact⟨jj,a2,rfl,HJ.o.2,HOK2.o,HJ4.o,HXE.o,HY9.o,HB9.o⟩
         case measure=>have h1:=HJ.o;simp[intOf];omega
    · have h38a:(v==38)=false:=zb (fun h=>h38 (.inl h));have h48a:(v==48)=false:=zb (fun h=>h38 (.inr h));have hj:Hid ((i:Int)+1=(j:Int)):=Hd (by have h:=HJ1.o;rw[if_neg h38]at h;have h:i+1=j:=h;omega);have ha:Hid (nP a' v x.g=a2):=Hd (by have h:=HA2.o;rw[if_neg h38]at h;exact h);have HNV:=Hd h38;clear HJ1 HA2 HEI h38;obtain⟨fk,fn,bk,bn,fl⟩:=a';have c4:=at_ HX.o 4 (.int .i64 fl) rfl;obtain⟨c4,c4f⟩:=c4
      by_cases h0:v=0
      · subst h0;obtain⟨c0,c0f⟩:=at_ HX.o 0 (.int .i64 fk) rfl;obtain⟨c1,c1f⟩:=at_ HX.o 1 (.int .i64 fn) rfl;obtain⟨c2,c2f⟩:=at_ HX.o 2 (.int .i64 bk) rfl;obtain⟨c3,c3f⟩:=at_ HX.o 3 (.int .i64 bn) rfl
        go_upto_region 16 with(go_at_call 186;(with_reducible refine HA1.o.mono ?_);rintro e w2 ⟨rfl,rfl⟩)
        refine wp_region_lit ?_;refine jM (.agg (aL zY).toArray) qK qJ9 ?_;refine zP ?_;have HB9:=Hd (gX HB.o (jS w.heap.size) (aL zY) 0);have HX9:=Hd (uB (aL zY) 0 _ _ HX.o qZb);have HY9:=Hd ((oN (show w.heap.size+1≠w.heap.size by omega) (aL zY) 0 wr).trans HY.o);refine wpList_store_mid rfl 40 (.tmp 2) (.tmp 64) rfl (w.heap.size) (0) ((aL zY).toArray) rfl rfl ((show World.there _ w.heap.size 0 5 from gH HX.o)) pD (all_oneCell_toArray (JS _)) ?_;simp only[Act.put];have hz:zY=a2:=by rw[←ha.o];rfl
        have HZ:=Hd hz;clear c0 c0f c1 c1f c2 c2f c3 c3f c4 c4f hz
        go_wp2
        go_roundw
        case rel=>exact⟨j,a2,by rw[hj.o],HJ.o.2,HOK2.o,HJ4.o,by rw[←HZ.o];exact HX9.o,HY9.o,HB9.o⟩
        case measure=>have h1:=HJ.o;have h2:=hj.o;simp[intOf];omega
      have h0q:(v==0)=false:=zb h0;have HFL:=Hd (show zZ fl from HOK.o);have HN0:=Hd h0
      go_upto_block 2 with(go_at_call 186;(with_reducible refine HA1.o.mono ?_);rintro e w2 ⟨rfl,rfl⟩)
      clear c4 c4f
      go_cut [12] (fun s12 w'=>s12=.int .i64 (pO fl v x.g)∧w'.heap[w.heap.size]? =some (.cells (aL ⟨if v=39 then 0 else fk,if v=39 then 0 else fn,if v=49 then 0 else bk,if v=49 then 0 else bn,fl⟩).toArray 40 (0,0))∧w'.heap[w.heap.size+1]? =some (.cells (aL zY).toArray 40 (0,0))∧Below w.heap.size w w')
      case first =>
       as_aux_lemma=>
       have HNV0:=HNV
       go_upto_region 17 with fail
       clear h0 h0q h38a h48a
       by_cases h1:v=1
       · as_aux_lemma=>
         subst h1
         go_wp2_with(go_at_call 188;(with_reducible refine(HWT.o _ _ _ _ qH qZ).mono ?_);rintro e w2 ⟨rfl,rfl⟩)
         go_meet
         exact qXj
       have q1:(v==1)=false:=zb h1;have H1:=Hd h1;clear h1
       go_upto_region 19 with fail
       clear q1
       by_cases h2:v=2
       · as_aux_lemma=>
         subst h2
         go_wp2_with(go_at_call 188;(with_reducible refine(HWT.o _ _ _ _ qH qZ).mono ?_);rintro e w2 ⟨rfl,rfl⟩)
         go_meet
         exact qXj
       have q2:(v==2)=false:=zb h2;have H2:=Hd h2;clear h2
       go_upto_region 21 with fail
       clear q2
       by_cases h3:v=3
       · as_aux_lemma=>
         subst h3
         go_wp2_with(go_at_call 188;(with_reducible refine(HWT.o _ _ _ _ qH qZ).mono ?_);rintro e w2 ⟨rfl,rfl⟩)
         go_meet
         exact qXj
       have q3:(v==3)=false:=zb h3;have H3:=Hd h3;clear h3
       go_upto_region 23 with fail
       clear q3
       by_cases h4:v=4
       · as_aux_lemma=>
         subst h4;have HFD:Hid (pO fl 4 x.g=zI (zI fl 256 (decide (1<x.g.length)&&decide (x.g.getD 1 0=2))) 8 (!(decide (1<x.g.length)&&decide (x.g.getD 1 0=2))&& !(decide (1<x.g.length)&&decide (x.g.getD 1 0=0)))):=Hd (by simp[pO]);rw[HKQ.o]at HFD
         by_cases hK1:1<K
         · have hK1I:(1:Int)<(K:Int):=by omega
           obtain⟨b2,off2,rfl,hcel⟩:=HNUM.o 1 hK1;obtain⟨n,hn⟩:∃n,x.g.getD 1 0=n:=⟨_,rfl⟩;rw[hn]at hcel HFD;rw[decide_eq_true hK1]at HFD;clear hn
           by_cases hn2:n=2
           · subst hn2
             go_wp2_with(go_at_call 188;(with_reducible refine(HWT.o _ _ _ _ qH qZ).mono ?_);rintro e w2 ⟨rfl,rfl⟩)
             go_meet
             exact qXk
           have hn2q:(n==2)=false:=zb hn2
           by_cases hn0:n=0
           · subst hn0
             go_wp2_with(go_at_call 188;(with_reducible refine(HWT.o _ _ _ _ qH qZ).mono ?_);rintro e w2 ⟨rfl,rfl⟩)
             go_meet
             exact qXk
           have hn0q:(n==0)=false:=zb hn0;rw[decide_eq_false hn2,decide_eq_false hn0]at HFD
           go_wp2_with(go_at_call 188;(with_reducible refine(HWT.o _ _ _ _ qH qZ).mono ?_);rintro e w2 ⟨rfl,rfl⟩)
           go_meet
           exact qXk
         · have hK1I:¬(1:Int)<(K:Int):=by omega
           rw[decide_eq_false hK1]at HFD
           go_wp2_with(go_at_call 188;(with_reducible refine(HWT.o _ _ _ _ qH qZ).mono ?_);rintro e w2 ⟨rfl,rfl⟩)
           go_meet
           exact qXk
       have q4:(v==4)=false:=zb h4;have H4:=Hd h4;clear h4
       go_upto_region 27 with fail
       clear q4
       by_cases h5:v=5
       · as_aux_lemma=>
         subst h5
         go_wp2_with(go_at_call 188;(with_reducible refine(HWT.o _ _ _ _ qH qZ).mono ?_);rintro e w2 ⟨rfl,rfl⟩)
         go_meet
         exact qXj
       have q5:(v==5)=false:=zb h5;have H5:=Hd h5;clear h5
       go_upto_region 28 with fail
       clear q5
       by_cases h6:v=6
       · as_aux_lemma=>
         subst h6
         go_wp2_with(go_at_call 188;(with_reducible refine(HWT.o _ _ _ _ qH qZ).mono ?_);rintro e w2 ⟨rfl,rfl⟩)
         go_meet
         exact qXj
       have q6:(v==6)=false:=zb h6;have H6:=Hd h6;clear h6
       go_upto_region 30 with fail
       clear q6
       by_cases h7:v=7
       · as_aux_lemma=>
         subst h7
         go_wp2_with(go_at_call 188;(with_reducible refine(HWT.o _ _ _ _ qH qZ).mono ?_);rintro e w2 ⟨rfl,rfl⟩)
         go_meet
         exact qXj
       have q7:(v==7)=false:=zb h7;have H7:=Hd h7;clear h7
       go_upto_region 32 with fail
       clear q7
       by_cases h8:v=8
       · as_aux_lemma=>
         subst h8
         go_wp2_with(go_at_call 188;(with_reducible refine(HWT.o _ _ _ _ qH qZ).mono ?_);rintro e w2 ⟨rfl,rfl⟩)
         go_meet
         exact qXj
       have q8:(v==8)=false:=zb h8;have H8:=Hd h8;clear h8
       go_upto_region 34 with fail
       clear q8
       by_cases h9:v=9
       · as_aux_lemma=>
         subst h9
         go_wp2_with(go_at_call 188;(with_reducible refine(HWT.o _ _ _ _ qH qZ).mono ?_);rintro e w2 ⟨rfl,rfl⟩)
         go_meet
         exact qXj
       have q9:(v==9)=false:=zb h9;have H9:=Hd h9;clear h9
       go_upto_region 36 with fail
       clear q9
       by_cases h21:v=21
       · as_aux_lemma=>
         subst h21
         go_wp2_with(go_at_call 188;(with_reducible refine(HWT.o _ _ _ _ qH qZ).mono ?_);rintro e w2 ⟨rfl,rfl⟩)
         go_meet
         exact qXj
       have q21:(v==21)=false:=zb h21;have H21:=Hd h21;clear h21
       go_upto_region 38 with fail
       clear q21
       by_cases h22:v=22
       · as_aux_lemma=>
         subst h22
         go_wp2_with(go_at_call 188;(with_reducible refine(HWT.o _ _ _ _ qH qZ).mono ?_);rintro e w2 ⟨rfl,rfl⟩)
         go_meet
         exact qXj
       have q22:(v==22)=false:=zb h22;have H22:=Hd h22;clear h22
       go_upto_region 40 with fail
       clear q22
       by_cases h23:v=23
       · as_aux_lemma=>
         subst h23
         go_wp2_with(go_at_call 188;(with_reducible refine(HWT.o _ _ _ _ qH qZ).mono ?_);rintro e w2 ⟨rfl,rfl⟩)
         go_meet
         exact qXj
       have q23:(v==23)=false:=zb h23;have H23:=Hd h23;clear h23
       go_upto_region 42 with fail
       clear q23
       by_cases h24:v=24
       · as_aux_lemma=>
         subst h24
         go_wp2_with(go_at_call 188;(with_reducible refine(HWT.o _ _ _ _ qH qZ).mono ?_);rintro e w2 ⟨rfl,rfl⟩)
         go_meet
         exact qXj
       have q24:(v==24)=false:=zb h24;have H24:=Hd h24;clear h24
       go_upto_region 44 with fail
       clear q24
       by_cases h25:v=25
       · as_aux_lemma=>
         subst h25
         go_wp2_with(go_at_call 188;(with_reducible refine(HWT.o _ _ _ _ qH qZ).mono ?_);rintro e w2 ⟨rfl,rfl⟩)
         go_meet
         exact qXj
       have q25:(v==25)=false:=zb h25;have H25:=Hd h25;clear h25
       go_upto_region 46 with fail
       clear q25
       by_cases h27:v=27
       · as_aux_lemma=>
         subst h27
         go_wp2_with(go_at_call 188;(with_reducible refine(HWT.o _ _ _ _ qH qZ).mono ?_);rintro e w2 ⟨rfl,rfl⟩)
         go_meet
         exact qXj
       have q27:(v==27)=false:=zb h27;have H27:=Hd h27;clear h27
       go_upto_region 48 with fail
       clear q27
       by_cases h28:v=28
       · as_aux_lemma=>
         subst h28
         go_wp2_with(go_at_call 188;(with_reducible refine(HWT.o _ _ _ _ qH qZ).mono ?_);rintro e w2 ⟨rfl,rfl⟩)
         go_meet
         exact qXj
       have q28:(v==28)=false:=zb h28;have H28:=Hd h28;clear h28
       go_upto_region 50 with fail
       clear q28
       by_cases h29:v=29
       · as_aux_lemma=>
         subst h29
         go_wp2_with(go_at_call 188;(with_reducible refine(HWT.o _ _ _ _ qH qZ).mono ?_);rintro e w2 ⟨rfl,rfl⟩)
         go_meet
         exact qXj
       have q29:(v==29)=false:=zb h29;have H29:=Hd h29;clear h29
       go_upto_region 52 with fail
       clear q29
       by_cases h53:v=53
       · as_aux_lemma=>
         subst h53
         go_wp2_with(go_at_call 188;(with_reducible refine(HWT.o _ _ _ _ qH qZ).mono ?_);rintro e w2 ⟨rfl,rfl⟩)
         go_meet
         exact qXj
       have q53:(v==53)=false:=zb h53;have H53:=Hd h53;clear h53
       go_upto_region 54 with fail
       clear q53
       by_cases h55:v=55
       · as_aux_lemma=>
         subst h55
         go_wp2_with(go_at_call 188;(with_reducible refine(HWT.o _ _ _ _ qH qZ).mono ?_);rintro e w2 ⟨rfl,rfl⟩)
         go_meet
         exact qXj
       have q55:(v==55)=false:=zb h55;have H55:=Hd h55;clear h55
       go_upto_region 56 with fail
       clear q55
       by_cases h39:v=39
       · as_aux_lemma=>
         subst h39;obtain⟨x0,x0f⟩:=at_ HX.o 0 (.int .i64 fk) rfl;obtain⟨x1,x1f⟩:=at_ HX.o 1 (.int .i64 fn) rfl
         go_wp2
         go_meet
         exact⟨by simp[pO],kY (kY HX.o 0 (.int .i64 0) rfl) 1 (.int .i64 0) rfl,uV (uV HY.o qJ) qJ,kH (kH HB.o (jS w.heap.size) _) (jS w.heap.size) _⟩
       have q39:(v==39)=false:=zb h39;have H39:=Hd h39;clear h39
       go_upto_region 58 with fail
       clear q39
       by_cases h49:v=49
       · as_aux_lemma=>
         subst h49;obtain⟨x0,x0f⟩:=at_ HX.o 2 (.int .i64 bk) rfl;obtain⟨x1,x1f⟩:=at_ HX.o 3 (.int .i64 bn) rfl
         go_wp2
         go_meet
         exact⟨by simp[pO],kY (kY HX.o 2 (.int .i64 0) rfl) 3 (.int .i64 0) rfl,uV (uV HY.o qJ) qJ,kH (kH HB.o (jS w.heap.size) _) (jS w.heap.size) _⟩
       have q49:(v==49)=false:=zb h49;have H49:=Hd h49;clear h49;have HQ:Hid (pO fl v x.g=fl):=Hd (by simp[pO,H1.o,H2.o,H3.o,H4.o,H5.o,H6.o,H7.o,H8.o,H9.o,H21.o,H22.o,H23.o,H24.o,H25.o,H27.o,H28.o,H29.o,H53.o,H55.o]);have HXQ:Hid (wr.heap[w.heap.size]? =some (.cells (aL ⟨if v=39 then 0 else fk,if v=39 then 0 else fn,if v=49 then 0 else bk,if v=49 then 0 else bn,fl⟩).toArray 40 (0,0))):=Hd (by rw[if_neg H39.o,if_neg H39.o,if_neg H49.o,if_neg H49.o];exact HX.o)
       go_wp2
       go_meet
       exact⟨by rw[HQ.o],HXQ.o,HY.o,HB.o⟩
      as_aux_lemma=>
      obtain⟨rfl,hx,hy,hb⟩:=hcut;obtain⟨nf,hnf⟩:∃nf,pO fl v x.g=nf:=⟨_,rfl⟩;rw[hnf];have HNF:=Hd hnf;replace HX:=Hd hx;replace HY:=Hd hy;replace HB:=Hd hb;clear hx hy hb hnf HA1 HNUM HKQ HWT HFL hcg2;obtain⟨c4,c4f⟩:=at_ HX.o 4 (.int .i64 fl) rfl
      go_upto_region 61 with fail
      replace HX:=Hd (kY HX.o 4 (.int .i64 nf) rfl);replace HY:=Hd (uV (i:=4) (v:=.int .i64 nf) HY.o (show w.heap.size+1≠w.heap.size by omega));replace HB:=Hd (kH HB.o (jS w.heap.size) (o:=4) (.int .i64 nf));generalize uQ _ _ _=W4 at HX HY HB ⊢;clear c4 c4f;obtain⟨f2,hf2⟩:∃f,(if v=39 then 0 else fk:Int)=f:=⟨_,rfl⟩;obtain⟨f3,hf3⟩:∃f,(if v=39 then 0 else fn:Int)=f:=⟨_,rfl⟩;obtain⟨b2,hb2⟩:∃f,(if v=49 then 0 else bk:Int)=f:=⟨_,rfl⟩;obtain⟨b3,hb3⟩:∃f,(if v=49 then 0 else bn:Int)=f:=⟨_,rfl⟩;rw[hf2,hf3,hb2,hb3]at HX;have HFB:=Hd (kM hf2 (kM hf3 (kM hb2 hb3)));clear hf2 hf3 hb2 hb3;replace HX:Hid (W4.heap[w.heap.size]? =some (.cells (aL ⟨f2,f3,b2,b3,nf⟩).toArray 40 (0,0))):=Hd HX.o;have HRG:Hid (v<30∨(30≤v∧v≤37)∨v=39∨(40≤v∧v≤47)∨(49≤v∧v<90)∨(90≤v∧v≤97)∨(98≤v∧v<100)∨(100≤v∧v≤107)∨108≤v):=Hd (by have h:=HNV.o;omega);have HSM:Hid (a2=⟨(iV ⟨fk,fn⟩ v).k,(iV ⟨fk,fn⟩ v).n,(iX ⟨bk,bn⟩ v).k,(iX ⟨bk,bn⟩ v).n,nf⟩):=Hd (by rw[←ha.o,←HNF.o];unfold nP;rw[if_neg HN0.o]);obtain⟨x0,x0f⟩:=at_ HX.o 0 (.int .i64 f2) rfl;obtain⟨x1,x1f⟩:=at_ HX.o 1 (.int .i64 f3) rfl;obtain⟨x2,x2f⟩:=at_ HX.o 2 (.int .i64 b2) rfl;obtain⟨x3,x3f⟩:=at_ HX.o 3 (.int .i64 b3) rfl;clear h38a h48a h0q h0 hltI
      rcases HRG.o with hr|⟨hr,hr'⟩|hr|⟨hr,hr'⟩|⟨hr,hr'⟩|⟨hr,hr'⟩|⟨hr,hr'⟩|⟨hr,hr'⟩|hr
      · as_aux_lemma=>
        have qa0:¬30≤v:=by omega
        have qa1:¬90≤v:=by omega
        have qa2:¬40≤v:=by omega
        have qa3:¬100≤v:=by omega
        have HE:Hid ((⟨f2,f3,b2,b3,nf⟩:Atr)=a2):=Hd qU;have HX9:=HX;have HY9:=HY;have HB9:=HB;have HXE:=HX9.o;replace HXE:=Hd HXE;clear hr
        go_wp2
        go_roundw
        case rel=>exact⟨j,a2,by rw[hj.o],HJ.o.2,HOK2.o,HJ4.o,by rw[←HE.o];exact HXE.o,HY9.o,HB9.o⟩
        case measure=>have h1:=HJ.o;have h2:=hj.o;simp[intOf];omega
      · as_aux_lemma=>
        have qa0:30≤v:=by omega
        have qb0:v≤37:=by omega
        have qa1:¬90≤v:=by omega
        have qa2:¬40≤v:=by omega
        have qa3:¬100≤v:=by omega
        have hwn:jP.wrap (v-30)=v-30:=jH _ qJ;have HE:Hid ((⟨1,v-30,b2,b3,nf⟩:Atr)=a2):=Hd (by obtain⟨-,-,e3,e4⟩:=HFB.o;rw[HSM.o,←e3,←e4];unfold iV iX;simp only[if_neg (show ¬v=39 by omega),if_neg (show ¬v=49 by omega),if_pos (show 30≤v∧v≤37 by omega)];first|rfl|(rw[if_neg qJ,if_neg qJ]));have HX9:=Hd (kY (kY HX.o 0 (.int .i64 1) rfl) 1 (.int .i64 (v-30)) rfl);have HY9:=Hd (uV (i:=1) (v:=.int .i64 (v-30)) (uV (i:=0) (v:=.int .i64 1) HY.o (show w.heap.size+1≠w.heap.size by omega)) (show w.heap.size+1≠w.heap.size by omega));have HB9:=Hd (kH (kH HB.o (jS w.heap.size) (o:=0) (.int .i64 1)) (jS w.heap.size) (o:=1) (.int .i64 (v-30)));have HXE:=HX9.o;replace HXE:=Hd HXE;clear hr hr'
        go_wp2
        go_roundw
        case rel=>exact⟨j,a2,by rw[hj.o],HJ.o.2,HOK2.o,HJ4.o,by rw[←HE.o];exact HXE.o,HY9.o,HB9.o⟩
        case measure=>have h1:=HJ.o;have h2:=hj.o;simp[intOf];omega
      · as_aux_lemma=>
        subst hr;have HE:Hid ((⟨f2,f3,b2,b3,nf⟩:Atr)=a2):=Hd (by obtain⟨e1,e2,e3,e4⟩:=HFB.o;rw[HSM.o,←e1,←e2,←e3,←e4];rfl);have HX9:=HX;have HY9:=HY;have HB9:=HB;have HXE:=HX9.o;replace HXE:=Hd HXE
        go_wp2
        go_roundw
        case rel=>exact⟨j,a2,by rw[hj.o],HJ.o.2,HOK2.o,HJ4.o,by rw[←HE.o];exact HXE.o,HY9.o,HB9.o⟩
        case measure=>have h1:=HJ.o;have h2:=hj.o;simp[intOf];omega
      · as_aux_lemma=>
        have qa0:30≤v:=by omega
        have qb0:¬v≤37:=by omega
        have qa1:¬90≤v:=by omega
        have qa2:40≤v:=by omega
        have qb2:v≤47:=by omega
        have qa3:¬100≤v:=by omega
        have hwn:jP.wrap (v-40)=v-40:=jH _ qJ;have HE:Hid ((⟨f2,f3,1,v-40,nf⟩:Atr)=a2):=Hd (by obtain⟨e1,e2,-,-⟩:=HFB.o;rw[HSM.o,←e1,←e2];unfold iV iX;simp only[if_neg (show ¬v=39 by omega),if_neg (show ¬v=49 by omega),if_pos (show 40≤v∧v≤47 by omega)];first|rfl|(rw[if_neg qJ,if_neg qJ]));have HX9:=Hd (kY (kY HX.o 2 (.int .i64 1) rfl) 3 (.int .i64 (v-40)) rfl);have HY9:=Hd (uV (i:=3) (v:=.int .i64 (v-40)) (uV (i:=2) (v:=.int .i64 1) HY.o (show w.heap.size+1≠w.heap.size by omega)) (show w.heap.size+1≠w.heap.size by omega));have HB9:=Hd (kH (kH HB.o (jS w.heap.size) (o:=2) (.int .i64 1)) (jS w.heap.size) (o:=3) (.int .i64 (v-40)));have HXE:=HX9.o;replace HXE:=Hd HXE;clear hr hr'
        go_wp2
        go_roundw
        case rel=>exact⟨j,a2,by rw[hj.o],HJ.o.2,HOK2.o,HJ4.o,by rw[←HE.o];exact HXE.o,HY9.o,HB9.o⟩
        case measure=>have h1:=HJ.o;have h2:=hj.o;simp[intOf];omega
      · as_aux_lemma=>
        have qa0:30≤v:=by omega
        have qb0:¬v≤37:=by omega
        have qa1:¬90≤v:=by omega
        have qa2:40≤v:=by omega
        have qb2:¬v≤47:=by omega
        have qa3:¬100≤v:=by omega
        have HE:Hid ((⟨f2,f3,b2,b3,nf⟩:Atr)=a2):=Hd qU;have HX9:=HX;have HY9:=HY;have HB9:=HB;have HXE:=HX9.o;replace HXE:=Hd HXE;clear hr hr'
        go_wp2
        go_roundw
        case rel=>exact⟨j,a2,by rw[hj.o],HJ.o.2,HOK2.o,HJ4.o,by rw[←HE.o];exact HXE.o,HY9.o,HB9.o⟩
        case measure=>have h1:=HJ.o;have h2:=hj.o;simp[intOf];omega
      · as_aux_lemma=>
        have qa0:30≤v:=by omega
        have qb0:¬v≤37:=by omega
        have qa1:90≤v:=by omega
        have qb1:v≤97:=by omega
        have qa2:40≤v:=by omega
        have qb2:¬v≤47:=by omega
        have qa3:¬100≤v:=by omega
        have hwn:jP.wrap (v-82)=v-82:=jH _ qJ;have HE:Hid ((⟨1,v-82,b2,b3,nf⟩:Atr)=a2):=Hd (by obtain⟨-,-,e3,e4⟩:=HFB.o;rw[HSM.o,←e3,←e4];unfold iV iX;simp only[if_neg (show ¬v=39 by omega),if_neg (show ¬v=49 by omega),if_neg (show ¬(30≤v∧v≤37) by omega),if_pos (show 90≤v∧v≤97 by omega)];first|rfl|(rw[if_neg qJ,if_neg qJ]));have HX9:=Hd (kY (kY HX.o 0 (.int .i64 1) rfl) 1 (.int .i64 (v-82)) rfl);have HY9:=Hd (uV (i:=1) (v:=.int .i64 (v-82)) (uV (i:=0) (v:=.int .i64 1) HY.o (show w.heap.size+1≠w.heap.size by omega)) (show w.heap.size+1≠w.heap.size by omega));have HB9:=Hd (kH (kH HB.o (jS w.heap.size) (o:=0) (.int .i64 1)) (jS w.heap.size) (o:=1) (.int .i64 (v-82)));have HXE:=HX9.o;replace HXE:=Hd HXE;clear hr hr'
        go_wp2
        go_roundw
        case rel=>exact⟨j,a2,by rw[hj.o],HJ.o.2,HOK2.o,HJ4.o,by rw[←HE.o];exact HXE.o,HY9.o,HB9.o⟩
        case measure=>have h1:=HJ.o;have h2:=hj.o;simp[intOf];omega
      · as_aux_lemma=>
        have qa0:30≤v:=by omega
        have qb0:¬v≤37:=by omega
        have qa1:90≤v:=by omega
        have qb1:¬v≤97:=by omega
        have qa2:40≤v:=by omega
        have qb2:¬v≤47:=by omega
        have qa3:¬100≤v:=by omega
        have HE:Hid ((⟨f2,f3,b2,b3,nf⟩:Atr)=a2):=Hd qU;have HX9:=HX;have HY9:=HY;have HB9:=HB;have HXE:=HX9.o;replace HXE:=Hd HXE;clear hr hr'
        go_wp2
        go_roundw
        case rel=>exact⟨j,a2,by rw[hj.o],HJ.o.2,HOK2.o,HJ4.o,by rw[←HE.o];exact HXE.o,HY9.o,HB9.o⟩
        case measure=>have h1:=HJ.o;have h2:=hj.o;simp[intOf];omega
      · as_aux_lemma=>
        have qa0:30≤v:=by omega
        have qb0:¬v≤37:=by omega
        have qa1:90≤v:=by omega
        have qb1:¬v≤97:=by omega
        have qa2:40≤v:=by omega
        have qb2:¬v≤47:=by omega
        have qa3:100≤v:=by omega
        have qb3:v≤107:=by omega
        have hwn:jP.wrap (v-92)=v-92:=jH _ qJ;have HE:Hid ((⟨f2,f3,1,v-92,nf⟩:Atr)=a2):=Hd (by obtain⟨e1,e2,-,-⟩:=HFB.o;rw[HSM.o,←e1,←e2];unfold iV iX;simp only[if_neg (show ¬v=39 by omega),if_neg (show ¬v=49 by omega),if_neg (show ¬(40≤v∧v≤47) by omega),if_pos (show 100≤v∧v≤107 by omega)];first|rfl|(rw[if_neg qJ,if_neg qJ]));have HX9:=Hd (kY (kY HX.o 2 (.int .i64 1) rfl) 3 (.int .i64 (v-92)) rfl);have HY9:=Hd (uV (i:=3) (v:=.int .i64 (v-92)) (uV (i:=2) (v:=.int .i64 1) HY.o (show w.heap.size+1≠w.heap.size by omega)) (show w.heap.size+1≠w.heap.size by omega));have HB9:=Hd (kH (kH HB.o (jS w.heap.size) (o:=2) (.int .i64 1)) (jS w.heap.size) (o:=3) (.int .i64 (v-92)));have HXE:=HX9.o;replace HXE:=Hd HXE;clear hr hr'
        go_wp2
        go_roundw
        case rel=>exact⟨j,a2,by rw[hj.o],HJ.o.2,HOK2.o,HJ4.o,by rw[←HE.o];exact HXE.o,HY9.o,HB9.o⟩
        case measure=>have h1:=HJ.o;have h2:=hj.o;simp[intOf];omega
      · as_aux_lemma=>
        have qa0:30≤v:=by omega
        have qb0:¬v≤37:=by omega
        have qa1:90≤v:=by omega
        have qb1:¬v≤97:=by omega
        have qa2:40≤v:=by omega
        have qb2:¬v≤47:=by omega
        have qa3:100≤v:=by omega
        have qb3:¬v≤107:=by omega
        have HE:Hid ((⟨f2,f3,b2,b3,nf⟩:Atr)=a2):=Hd qU;have HX9:=HX;have HY9:=HY;have HB9:=HB;have HXE:=HX9.o;replace HXE:=Hd HXE;clear hr
        go_wp2
        go_roundw
        case rel=>exact⟨j,a2,by rw[hj.o],HJ.o.2,HOK2.o,HJ4.o,by rw[←HE.o];exact HXE.o,HY9.o,HB9.o⟩
        case measure=>have h1:=HJ.o;have h2:=hj.o;simp[intOf];omega
end
end Go.Proofs.YtjcpdcncfjkejaaGreatDoor
