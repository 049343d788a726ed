/- Joined by a tool of this claim out of smaller texts. Conditions: as stated. -/
import Derived.Test.YtaefcahblmopfaaGreatDoorDj07
set_option linter.unusedVariables false
set_option linter.unusedSimpArgs false
set_option maxRecDepth 100000
open Go.Lib renaming hid → Hd
open List renaming setIfInBounds_toArray → jZ, set_cons_zero → jX, set_cons_succ → jY, mem_singleton → jM, getElem?_eq_getElem → jN, length_append → jC, drop_succ_cons → jL, take_succ_cons → jS, drop_zero → jO, mem_cons → kJ, take_zero → kK, mem_append → kU, replicate → kN, length_set → uV, map_append → vX
open Go.Proofs.Tryz renaming prog → jG
open Go.RowKit.Below renaming refl → jU
open Nat renaming le_refl → jD, le_trans → jI, zero_add → kP
open Go.IntWalk renaming i64_in → jF
open Go.IntKind renaming i64 → jE
open Go.World renaming setCell → uN
namespace Go.Proofs.YtaefcahblmopfaaGreatDoor
open Go.RowKit
theorem sJ{fn:Func}{p u:Tmp}(hr:fn.results=#[.cell p 52,.tmp u])(tmps:Array Value)(w:World)(b:Nat)(x y z:Value)(hp:tmps.getD p undef=.pointer (some ⟨b,0,none⟩))(hu:tmps.getD u undef=z)(h0:w.cell? ⟨b,0,none⟩=some x)(h1:w.cell? ⟨b,1,none⟩=some y):
 (results fn tmps).run jG w=.ok (.tuple #[.agg #[x,y],z]) w:=by
 rw[results_cell_tmp hr,hp,hu];have :=run_loadVar_mid (P:=jG) w b 0 52 [x,y] _ (fun j v hj=>by
  rw[kP]
  match j,hj with
  |0,hj=>simp at hj;subst hj;exact h0
  |1,hj=>simp at hj;subst hj;exact h1) Tryz.underlying52 rfl sN
 simp only[asAddr,Sem.run_pure,Result.andThen_ok,this]
section
variable {base:Nat}{w:World}{R:Nat}{vl:Value}{SL:List Rh}{room first n:Nat}{gone:Int}
def qVz(base:Nat)(w:World)(R:Nat)(vl:Value)(room n:Nat)(gone:Int)(H:List Ro)(r:Ro)(e:Ending)(w':World):Prop:=
 ∃r6:Rh,e=.returned (.tuple #[.agg #[.slice r6.A r6.cs.length r6.cap,.bool r6.cont],.bool (decide (n=room))])∧iQ base w R vl room (if n=room then(gone+1)%18446744073709551616 else gone) (if room=0 then[]else if n=room then H.drop 1++[r]else H++[r]) w'
theorem RgO.pushed{w':World}{SL':List Rh}{first' n' g c:Nat}{gone':Int}(h:RgO base w' R (.slice (some ⟨g,0,none⟩) SL'.length c) SL' room first' n' gone')(hn:n'<SL'.length)(r1:Rh)(hr:zZ w' r1)(h0:0<r1.cs.length)(hgR:g≠R)(k:Nat)(hk:pZ SL'.length first' n'=k):
 RgO base (((w'.setCell ⟨g,k*2,none⟩ (.slice r1.A r1.cs.length r1.cap)).setCell ⟨g,k*2+1,none⟩ (.bool r1.cont)).setCell ⟨R,3,none⟩ (.int .i64 ((n'+1:Nat):Int))) R (.slice (some ⟨g,0,none⟩) SL'.length c) (SL'.set k r1) room first' (n'+1) gone'∧
 Mod (gK R (.slice (some ⟨g,0,none⟩) SL'.length c)) w' (((w'.setCell ⟨g,k*2,none⟩ (.slice r1.A r1.cs.length r1.cap)).setCell ⟨g,k*2+1,none⟩ (.bool r1.cont)).setCell ⟨R,3,none⟩ (.int .i64 ((n'+1:Nat):Int))):=by
 have hf:first'<SL'.length:=by
  rcases h.hf with hf|⟨-,hf⟩
  · exact hf
  · omega
 have hkl:k<SL'.length:=by rw[←hk];exact bF hf hn
 have hM:Mod (gK R (.slice (some ⟨g,0,none⟩) SL'.length c)) w' (((w'.setCell ⟨g,k*2,none⟩ (.slice r1.A r1.cs.length r1.cap)).setCell ⟨g,k*2+1,none⟩ (.bool r1.cont)).setCell ⟨R,3,none⟩ (.int .i64 ((n'+1:Nat):Int))):=
  (yK (Mod.refl _ _) (.inl (by simp[gK,Value.ownBlock]))).setCell (a:=⟨R,3,none⟩) (.inl qO) _
 refine⟨h.reblk ?_ ?_ ?_ ?_ ?_ ?_,hM⟩
 · have h1:=(vT (i:=k*2+1) (v:=.bool r1.cont) (Ne.symm hgR)).trans ((vT (i:=k*2) (v:=.slice r1.A r1.cs.length r1.cap) (Ne.symm hgR)).trans h.blk);exact kA (cs:=[.slice (some ⟨g,0,none⟩) SL'.length c,.int .i64 room,.int .i64 first',.int .i64 n',.int .u64 gone']) h1 3 _ rfl
 · have h1:=fU h.own hkl r1;have h2:=kD h1 ((Mod.refl [R] _).setCell (a:=⟨R,3,none⟩) (.inl qV) (.int .i64 ((n'+1:Nat):Int))) (fun x hx=>by simp[Value.ownBlock]at hx;simp;omega)
   rwa[uV]
 · rw[uV];omega
 · rw[uV];exact h.hm
 · rw[uV];exact .inl hf
 · intro x hx;rw[←hk,lZ hf hn]at hx;rcases kU.1 hx with hx|hx
   · exact⟨(h.rows x hx).1.mod hM h.nocel,(h.rows x hx).2⟩
   · rw[jM.1 hx];exact⟨hr.mod hM h.nocel,h0⟩
set_option maxHeartbeats 3200000 in
theorem Wr(h:RgO base w R vl SL room first n gone)(hg0:0≤gone)(hbw:base≤w.heap.size)(r:Rh)(hr:zZ w r)(h0:0<r.cs.length):
 Calls jG 243 #[.pointer (some ⟨R,0,none⟩),.agg #[.slice r.A r.cs.length r.cap,.bool r.cont]] w (qVz base w R vl room n gone ((pS SL first n).map zU) (zU r)):=by
 have H:=Hd h;have HOWN:=Hd (fun w' (hr:zZ w' r)=>Vf r w' hr h0);have HR:=Hd hr;have H0:=Hd h0;have hRl:=(h.lt R qO).2;clear h hr h0;obtain⟨A,cs,cap0,cont⟩:=r;simp only at HOWN HR H0;have HA3:=Hd (vJ (o:=.cells #[.slice none 0 0,.bool false] 52) (jT (W:=w) (o:=.cells #[.slice A cs.length cap0,.bool cont] 52) rfl));have HA4:=Hd (jT (W:=w.alloc (.cells #[.slice A cs.length cap0,.bool cont] 52)) (b:=w.heap.size+1) (o:=.cells #[.slice none 0 0,.bool false] 52) qV);have HAB:=Hd (jH (jH (jU w.heap.size w) (.cells #[.slice A cs.length cap0,.bool cont] 52)) (.cells #[.slice none 0 0,.bool false] 52))
 go_enter Tryz.func243,Tryz.ntmps243
 go_upto_region 4 with(first
  |(go_at_call 250;refine(HOWN.o _ (HR.o.below HAB.o)).mono ?_;rintro e w1 ⟨g1,cap1,rfl,hrc,hb1,hg1⟩;have HRC:=Hd hrc;have HB1:=Hd (jW HAB.o hb1)
    have HC3:=Hd ((hb1.block _ (jR HA3.o)).trans HA3.o);have HC4:=Hd ((hb1.block _ (jR HA4.o)).trans HA4.o);obtain⟨n0,n0f⟩:=at_ HC3.o 0 _ rfl;obtain⟨n1,n1f⟩:=at_ HC3.o 1 _ rfl;clear hrc hb1)
  |fail)
 clear HA3 HA4 HAB hg1 n0 n0f n1 n1f;have HB2:=Hd (uK (uK HB1.o (jD _) (o:=0) (.slice (some ⟨g1,0,none⟩) cs.length cap1)) (jD _) (o:=1) (.bool cont));have HN3:=Hd (kA (kA (cs:=[.slice A cs.length cap0,.bool cont]) HC3.o 0 (.slice (some ⟨g1,0,none⟩) cs.length cap1) (cs':=[.slice (some ⟨g1,0,none⟩) cs.length cap1,.bool cont]) rfl) 1 (.bool cont) (cs':=[.slice (some ⟨g1,0,none⟩) cs.length cap1,.bool cont]) rfl);have HN4:=Hd ((vT (i:=1) (v:=.bool cont) (show w.heap.size+1≠w.heap.size by omega)).trans ((vT (i:=0) (v:=.slice (some ⟨g1,0,none⟩) cs.length cap1) (show w.heap.size+1≠w.heap.size by omega)).trans HC4.o));have HRC2:=Hd (HRC.o.mod (yK (X:=[w.heap.size]) (b:=w.heap.size) (o:=0) (u:=.slice (some ⟨g1,0,none⟩) cs.length cap1) (v:=.bool cont) (Mod.refl _ _) (.inl qV)) (fun b hb cs' f he=>by
  rw[jM.1 hb,HC3.o]at he;injection he with he
  injection he with _ ht
  exact absurd ht qZ))
 generalize uN _ _ _=W2 at HB2 HN3 HN4 HRC2 ⊢;clear HB1 HC3 HC4 HRC HOWN HR;have HO2:=Hd (H.o.below HB2.o);have x1:=(at_ HO2.o.blk 1 _ rfl).1;have hNR:w.heap.size≠R:=by omega
 have hNR4:w.heap.size+1≠R:=by omega
 have hwg:IntKind.u64.wrap (gone+1)=(gone+1)%18446744073709551616:=IntKind.wrap_u64 _;have hnr:n≤100000:=by have :=H.o.hn;have :=H.o.hm;have :=H.o.hroom;omega
 have hmr:SL.length≤100000:=by have :=H.o.hm;have :=H.o.hroom;omega
 by_cases hr0:room=0
 · subst hr0;have hn0:n=0:=by have :=H.o.hn;have :=H.o.hm;omega
   subst hn0;obtain⟨z4,z4f⟩:=at_ HO2.o.blk 4 _ rfl
   go_upto_region 6 with fail
   have HK:=Hd (kA (cs:=[vl,.int .i64 (0:Nat),.int .i64 first,.int .i64 (0:Nat),.int .u64 gone]) HO2.o.blk 4 (.int .u64 ((gone+1)%18446744073709551616)) (cs':=[vl,.int .i64 (0:Nat),.int .i64 first,.int .i64 (0:Nat),.int .u64 ((gone+1)%18446744073709551616)]) rfl);have HM:=Hd (((Mod.of_below (X:=gK R vl) HB2.o).setCell (a:=⟨R,4,none⟩) (.inl qO) (.int .u64 ((gone+1)%18446744073709551616))));have HO3:=Hd (kD HO2.o.own ((Mod.refl [R] W2).setCell (a:=⟨R,4,none⟩) (.inl qV) (.int .u64 ((gone+1)%18446744073709551616))) (fun x hx=>by have :=H.o.ne hx;simpa using this));have HP3:=Hd ((vT (i:=4) (v:=.int .u64 ((gone+1)%18446744073709551616)) hNR).trans HN3.o);have HP4:=Hd ((vT (i:=4) (v:=.int .u64 ((gone+1)%18446744073709551616)) hNR4).trans HN4.o);clear z4 z4f x1;generalize uN _ _ _=W3 at HK HM HO3 HP3 HP4 ⊢;obtain⟨a0,-⟩:=uS HP3.o 0 _ rfl;obtain⟨a1,-⟩:=uS HP3.o 1 _ rfl;obtain⟨b0,b0f⟩:=at_ HP4.o 0 _ rfl;obtain⟨b1,b1f⟩:=at_ HP4.o 1 _ rfl
   go_wp2
   have hset:=fY (u':=.slice (some ⟨g1,0,none⟩) cs.length cap1) (v':=.bool cont) ⟨b0,b0f⟩ ⟨b1,b1f⟩;have hM2:Mod [w.heap.size+1] W3 ((W3.setCell ⟨w.heap.size+1,0,none⟩ (.slice (some ⟨g1,0,none⟩) cs.length cap1)).setCell ⟨w.heap.size+1,1,none⟩ (.bool cont)):=yK (Mod.refl _ _) (.inl qV);refine bodyPost_ret (sJ rfl _ _ (w.heap.size+1) _ _ _ rfl rfl hset.1.1 hset.2.1) rfl ⟨⟨some ⟨g1,0,none⟩,cs,cap1,cont⟩,rfl,vl,SL,first,0,H.o.reblk ((hM2.block R (by have :=HM.o.size;omega) qY).trans HK.o) (kD HO3.o hM2 (fun x hx=>by have :=(H.o.own.lt x hx).2;simp;omega)) H.o.hn H.o.hm H.o.hf (fun r hr=>by cases hr),rfl,HM.o.trans hM2 (fun x hx=>by rw[jM.1 hx];exact .inr qJ),fun g hg=>.inl hg⟩
 have hr0I:((room:Int)==0)=false:=by simp;omega
 have x3:W2.cell? ⟨R,3,none⟩=some (.int .i64 n):=(at_ HO2.o.blk 3 _ rfl).1;have x1':W2.cell? ⟨R,1,none⟩=some (.int .i64 room):=x1;clear x1;obtain⟨W3,hW3⟩:∃W3,W2.alloc (.cells #[.slice none 0 0,.bool false] 52)=W3:=⟨_,rfl⟩;have hb3:Below W2.heap.size W2 W3:=by rw[←hW3];exact jH (jU _ _) _
 have HN6:=Hd (show W3.heap[W2.heap.size]? =some (.cells #[.slice none 0 0,.bool false] 52 (0,0))from by rw[←hW3];exact jT rfl);have HBW3:=Hd (jW HB2.o hb3);have HO3:=Hd (HO2.o.below hb3);have HP3:=Hd ((hb3.block _ (jR HN3.o)).trans HN3.o);have HP4:=Hd ((hb3.block _ (jR HN4.o)).trans HN4.o);have HRC3:=Hd (HRC2.o.below hb3);have x31:=kZ hb3 x1';have x33:=kZ hb3 x3;have hN4lt:w.heap.size+1<W3.heap.size:=jR HP4.o;have hN6lt:W2.heap.size<W3.heap.size:=jR HN6.o;have hN64:w.heap.size+1<W2.heap.size:=jR HN4.o;clear hb3 HN3 HN4 HRC2 HO2;generalize hN6e:W2.heap.size=N6 at HN6 hN6lt hN64
 by_cases hfull:n=room
 · have hfullI:((n:Int)==(room:Int))=true:=by simp;omega
   have hmfull:SL.length=room:=by have :=H.o.hn;have :=H.o.hm;omega
   have hn0:0<n:=by omega
   have HF:=Hd hfull;have hN6V:N6∉gK R vl:=fun hx=>by have :=H.o.lt N6 hx;omega
   clear hfull
   go_upto_region 8 with fail
   clear hW3 x3 x1';refine kW 9 (fun w2=>Below W3.heap.size W3 w2∧w2.cell? ⟨R,3,none⟩=some (.int .i64 n)∧w2.cell? ⟨R,1,none⟩=some (.int .i64 room)) qQ qQ ?_ ?_
   · exact⟨(jU _ _).drew,x33,x31⟩
   simp only[jS,kK,jL,jO]
   repeat(
    (first
     |refine kF qK ?_
     |(refine kT ?_ qK ?_ ?_;rotate_left;(focus(intro w' hS;obtain⟨_,_,_⟩:=hS;go_simp;first|done|with_reducible rfl))))
    simp only[Act.put,jZ,jX,jY])
   refine kE (fun w' hS=>?_);have HBW:=Hd (jW HBW3.o hS.1);have HBS:=Hd hS.1.size;have HO4:=Hd (HO3.o.below hS.1);have HQ3:=Hd ((hS.1.block _ (jR HP3.o)).trans HP3.o);have HQ4:=Hd ((hS.1.block _ (jR HP4.o)).trans HP4.o);have HQ6:=Hd ((hS.1.block _ (jR HN6.o)).trans HN6.o);have HRC4:=Hd (HRC3.o.below hS.1);clear hS x33 x31;have HDR:=Hd (Wx HO4.o hn0 hg0)
   go_upto_region 11 with(go_at_call 324;refine HDR.o.mono ?_;rintro e w5 ⟨⟨r6,rfl⟩,ho5,hm5⟩;have HO5':=Hd ho5;have HM5':=Hd hm5
                          have HT6:=Hd ((hm5.block _ (jR HQ6.o) hN6V).trans HQ6.o);obtain⟨t60,t60f⟩:=at_ HT6.o 0 _ rfl;obtain⟨t61,t61f⟩:=at_ HT6.o 1 _ rfl;clear ho5 hm5)
   clear t60 t60f t61 t61f;have HT6':=Hd (kA (kA (cs:=[.slice none 0 0,.bool false]) HT6.o 0 (.slice r6.A r6.cs.length r6.cap) (cs':=[.slice r6.A r6.cs.length r6.cap,.bool false]) rfl) 1 (.bool r6.cont) (cs':=[.slice r6.A r6.cs.length r6.cap,.bool r6.cont]) rfl);have HS6:=Hd (yK (X:=[N6]) (b:=N6) (o:=0) (u:=.slice r6.A r6.cs.length r6.cap) (v:=.bool r6.cont) (Mod.refl _ w5) (.inl qV));have HV5:w.heap.size+1∉gK R vl:=fun hx=>by have :=H.o.lt _ hx;omega
   have HV3:w.heap.size∉gK R vl:=fun hx=>by have :=H.o.lt _ hx;omega
   have HU3:=Hd ((HM5'.o.block _ (jR HQ3.o) HV3).trans HQ3.o);have HU4:=Hd ((HM5'.o.block _ (jR HQ4.o) HV5).trans HQ4.o);have HU3':=Hd ((HS6.o.block _ (jR HU3.o) qY).trans HU3.o);have HU4':=Hd ((HS6.o.block _ (jR HU4.o) qY).trans HU4.o);have hNC6:yI w5 [N6]:=fun b hb cs' f he=>by
    rw[jM.1 hb,HT6.o]at he;injection he with he
    injection he with _ ht
    exact absurd ht qZ
   have HO6':=Hd (HO5'.o.mod HS6.o hNC6 (fun x hx hX=>by rw[jM.1 hX]at hx;exact hN6V hx));have HRC6:=Hd ((HRC4.o.mod HM5'.o HO4.o.nocel).mod HS6.o hNC6);have HM6:=Hd (((Mod.of_below (X:=gK R vl) HBW.o).trans HM5'.o (fun x hx=>.inl hx)).trans HS6.o (fun x hx=>by rw[jM.1 hx];exact .inr qJ));have hs6:W3.heap.size≤((w5.setCell ⟨N6,0,none⟩ (.slice r6.A r6.cs.length r6.cap)).setCell ⟨N6,1,none⟩ (.bool r6.cont)).heap.size:=jI HBS.o (jI HM5'.o.size HS6.o.size);clear HT6 HU3 HU4 HRC4 HQ3 HQ4 HQ6 HM5' HO5' hNC6;generalize uN _ _ _=Wc at HT6' HS6 HU3' HU4' HO6' HRC6 HM6 hs6 ⊢;have hnS:=H.o.hn;have hfS:first < SL.length:=by
    rcases H.o.hf with h|⟨-,h⟩
    · exact h
    · omega
   obtain⟨gv,cv,hgv⟩:=gH HO6'.o.own (by rw[uV];omega);obtain⟨SL5,first5,n5,g5,c5,r6,HO5,HIST,HP6,hn5,hg5p,hlt5⟩:∃(SL5:List Rh) (first5 n5 g5 c5:Nat) (r6:Rh),Hid (RgO base Wc R (.slice (some ⟨g5,0,none⟩) SL5.length c5) SL5 room first5 n5 ((gone+1)%18446744073709551616))∧Hid ((pS SL5 first5 n5).map zU=((pS SL first n).map zU).drop 1)∧Hid (Wc.heap[N6]? =some (.cells [.slice r6.A r6.cs.length r6.cap,.bool r6.cont].toArray 52 (0,0)))∧n5<SL5.length∧(vl.ownBlock=some g5∨W3.heap.size≤g5)∧W3.heap.size≤Wc.heap.size:=
    ⟨_,_,_,gv,cv,r6,Hd (by have :=HO6'.o;rw[hgv]at this;exact this),Hd (by rw[QM qJ qJ hn0,List.map_drop]),HT6',by have :=HF.o;rw[uV];omega,.inl (by rw[hgv];rfl),hs6⟩
   have HP3:=HU3';have HP4:=HU4';have HRC5:=HRC6;have HM5:=HM6;clear hgv HU3' HU4' HRC6 HM6 HO6' HT6' HS6 HDR;have hg5:vl.ownBlock=some g5∨w.heap.size≤g5:=hg5p.imp id (fun h=>by omega);have hN4X:w.heap.size+1∉gK R (.slice (some ⟨g5,0,none⟩) SL5.length c5):=fun hx=>by
    rcases kJ.1 hx with h|h
    · exact hNR4 h
    · have e:w.heap.size+1=g5:=by simpa[Value.ownBlock]using h
      rcases hg5p with h|h
      · have :=(H.o.own.lt g5 h).2;omega
      · omega
   have hN6X:N6∉gK R (.slice (some ⟨g5,0,none⟩) SL5.length c5):=fun hx=>by
    rcases kJ.1 hx with h|h
    · omega
    · have e:N6=g5:=by simpa[Value.ownBlock]using h
      rcases hg5p with h|h
      · have :=(H.o.own.lt g5 h).2;omega
      · omega
   have hl5':SL5.length≤100000:=by have :=HO5.o.hm;have :=HO5.o.hroom;omega
   have yy0:Wc.cell? ⟨R,0,none⟩=some (.slice (some ⟨g5,0,none⟩) SL5.length c5):=(at_ HO5.o.blk 0 _ rfl).1;have yy3:Wc.cell? ⟨R,3,none⟩=some (.int .i64 n5):=(at_ HO5.o.blk 3 _ rfl).1;have hne5:((n5:Int)==(SL5.length:Int))=false:=by simp;omega
   refine kW 9 (fun w2=>Below Wc.heap.size Wc w2∧w2.cell? ⟨R,3,none⟩=some (.int .i64 n5)∧w2.cell? ⟨R,0,none⟩=some (.slice (some ⟨g5,0,none⟩) SL5.length c5)) qQ qQ ?_ ?_
   · exact⟨(jU _ _).drew,yy3,yy0⟩
   simp only[jS,kK,jL,jO]
   repeat(
    (first
     |refine kF qK ?_
     |(refine kT ?_ qK ?_ ?_;rotate_left;(focus(intro w' hS;obtain⟨_,_,_⟩:=hS;go_simp;first|done|with_reducible rfl))))
    simp only[Act.put,jZ,jX,jY])
   refine kE (fun w' hS=>?_);have HO5:=Hd (HO5.o.below hS.1);have HP3:=Hd ((hS.1.block _ (jR HP3.o)).trans HP3.o);have HP4:=Hd ((hS.1.block _ (jR HP4.o)).trans HP4.o);have HP6:=Hd ((hS.1.block _ (jR HP6.o)).trans HP6.o);have HRC5:=Hd (HRC5.o.below hS.1);have HM5:=Hd (HM5.o.then_below hS.1);clear hS yy0 yy3
   rename_i Wc9
   go_upto_region 13 with fail
   have hfull:=HF.o;obtain⟨k,hk⟩:∃k,pZ SL5.length first5 n5=k:=⟨_,rfl⟩;have hf5:first5<SL5.length:=by
    rcases HO5.o.hf with hf|⟨-,hf⟩
    · exact hf
    · omega
   have hkl:k<SL5.length:=by rw[←hk];exact bF hf5 hn5
   have hgR5:g5≠R:=HO5.o.ne rfl;have hl5:SL5.length≤100000:=by have :=HO5.o.hm;have :=HO5.o.hroom;omega
   obtain⟨zr,hzr⟩:∃zr,SL5[k]? =some zr:=⟨_,jN hkl⟩;have y0:w'.cell? ⟨R,0,none⟩=some (.slice (some ⟨g5,0,none⟩) SL5.length c5):=(at_ HO5.o.blk 0 _ rfl).1;have y2:w'.cell? ⟨R,2,none⟩=some (.int .i64 first5):=(at_ HO5.o.blk 2 _ rfl).1;have y3:w'.cell? ⟨R,3,none⟩=some (.int .i64 n5):=(at_ HO5.o.blk 3 _ rfl).1;obtain⟨p0,-⟩:=uS HP3.o 0 _ rfl;obtain⟨p1,-⟩:=uS HP3.o 1 _ rfl;have hkI:(k:Int)<(SL5.length:Int):=by omega
   obtain⟨n6,hn6⟩:∃n6:Nat,n6=n5+1:=⟨_,rfl⟩;have hcn5:(n5:Int)+1=(n6:Int):=by omega
   have hwn6:jE.wrap (n6:Int)=(n6:Int):=jF _ qJ;have HN6':=Hd hn6;clear hn6;refine kW 12 (fun w2=>Below w'.heap.size w' w2∧w2.cell? ⟨R,0,none⟩=some (.slice (some ⟨g5,0,none⟩) SL5.length c5)∧w2.cell? ⟨R,3,none⟩=some (.int .i64 n5)∧w2.cell? ⟨w.heap.size,0,none⟩=some (.slice (some ⟨g1,0,none⟩) cs.length cap1)∧w2.cell? ⟨w.heap.size,1,none⟩=some (.bool cont)) qQ qQ ?_ ?_
   · exact⟨(jU _ _).drew,y0,y3,p0,p1⟩
   simp only[jS,kK,jL,jO]
   repeat(
    (first
     |refine kF qK ?_
     |(refine uO 251 #[.pointer (some ⟨R,0,none⟩),.int .i64 n5] (.int .i64 k) qK ?_ (fun w2 hS=>(iV hS.2.1 ((Mod.of_below (X:=[]) hS.1).cell qV y2) hl5 qJ n5 qJ).mono (fun e w3 h=>⟨by rw[←hk];exact h.1,h.2▸hS⟩)) ?_;(focus(intro w2;go_simp;done)))
     |(refine kT ?_ qK ?_ ?_;rotate_left;(focus(intro w' hS;obtain⟨_,_,_,_,_⟩:=hS;go_simp;first|done|with_reducible rfl))))
    simp only[Act.put,jZ,jX,jY])
   refine kE (fun w' hS=>?_);have HB6:=Hd hS.1;have hO6:=HO5.o.below hS.1;obtain⟨⟨q0,q0f⟩,q1,q1f⟩:=zK hO6.own hzr;have PU:=hO6.pushed hn5 ⟨some ⟨g1,0,none⟩,cs,cap1,cont⟩ (HRC5.o.below hS.1) H0.o hgR5 k hk;rw[←HN6'.o]at PU;have PU1:=Hd PU.1;have PU2:=Hd PU.2;have HQ3:=Hd ((hS.1.block _ (jR HP3.o)).trans HP3.o);have HQ4:=Hd ((hS.1.block _ (jR HP4.o)).trans HP4.o);have HQ6:=Hd ((hS.1.block _ (jR HP6.o)).trans HP6.o);obtain⟨z3,z3f⟩:=at_ hO6.blk 3 _ rfl;clear hS y0 y2 y3 p0 p1 PU hO6
   go_upto_region 15 with fail
   simp only at PU1 PU2;have HH:=Hd (lZ hf5 hn5 ⟨some ⟨g1,0,none⟩,cs,cap1,cont⟩);rw[hk,←HN6'.o]at HH;have hX5:∀x∈gK R (.slice (some ⟨g5,0,none⟩) SL5.length c5),x∈gK R vl∨w.heap.size≤x:=fun x hx=>by
    rcases kJ.1 hx with rfl|hx
    · exact .inl qO
    · have e:x=g5:=by simpa[Value.ownBlock]using hx
      subst e;rcases hg5 with h|h
      · exact .inl (by simp[gK,h])
      · exact .inr h
   have HM7:=Hd ((HM5.o.then_below HB6.o).trans PU2.o hX5);have HQQ4:=Hd ((PU2.o.block _ (jR HQ4.o) hN4X).trans HQ4.o);have HQQ6:=Hd ((PU2.o.block _ (jR HQ6.o) hN6X).trans HQ6.o);have HRl7:=(PU1.o.lt R qO).2;clear q0 q0f q1 q1f z3 z3f PU2;generalize uN _ _ _=W7 at PU1 HM7 HQQ4 HQQ6 HRl7 ⊢;obtain⟨a0,-⟩:=uS HQQ6.o 0 _ rfl;obtain⟨a1,-⟩:=uS HQQ6.o 1 _ rfl;obtain⟨b0,b0f⟩:=at_ HQQ4.o 0 _ rfl;obtain⟨b1,b1f⟩:=at_ HQQ4.o 1 _ rfl
   go_wp2
   have hset:=fY (u':=.slice r6.A r6.cs.length r6.cap) (v':=.bool r6.cont) ⟨b0,b0f⟩ ⟨b1,b1f⟩;have hM2:Mod [w.heap.size+1] W7 ((W7.setCell ⟨w.heap.size+1,0,none⟩ (.slice r6.A r6.cs.length r6.cap)).setCell ⟨w.heap.size+1,1,none⟩ (.bool r6.cont)):=yK (Mod.refl _ _) (.inl qV);refine bodyPost_ret (sJ rfl _ _ (w.heap.size+1) _ _ _ rfl rfl hset.1.1 hset.2.1) rfl ⟨r6,by rw[decide_eq_true hfull];rfl,.slice (some ⟨g5,0,none⟩) SL5.length c5,SL5.set k ⟨some ⟨g1,0,none⟩,cs,cap1,cont⟩,first5,n6,?_,?_,HM7.o.trans hM2 (fun x hx=>by rw[jM.1 hx];exact .inr qJ),fun x hx=>by simp[Value.ownBlock]at hx;subst hx;exact hg5⟩
   · have h1:=PU1.o.mod hM2 (fun b hb cs' f he=>by
      rw[jM.1 hb,HQQ4.o]at he;injection he with he
      injection he with _ ht
      exact absurd ht qZ) (fun x hx hX=>by rw[jM.1 hX]at hx;exact hN4X hx)
     rw[if_pos hfull];exact h1
   · rw[HH.o,vX,HIST.o,if_neg hr0];rw[if_pos hfull];rfl
 have hfullI:((n:Int)==(room:Int))=false:=by simp;omega
 have HF:=Hd hfull;clear hfull
 go_upto_region 8 with fail
 clear hW3 x3 x1';refine kW 9 (fun w2=>Below W3.heap.size W3 w2∧w2.cell? ⟨R,3,none⟩=some (.int .i64 n)∧w2.cell? ⟨R,1,none⟩=some (.int .i64 room)) qQ qQ ?_ ?_
 · exact⟨(jU _ _).drew,x33,x31⟩
 simp only[jS,kK,jL,jO]
 repeat(
  (first
   |refine kF qK ?_
   |(refine kT ?_ qK ?_ ?_;rotate_left;(focus(intro w' hS;obtain⟨_,_,_⟩:=hS;go_simp;first|done|with_reducible rfl))))
  simp only[Act.put,jZ,jX,jY])
 refine kE (fun w' hS=>?_);have HBW:=Hd (jW HBW3.o hS.1);have HBS:=Hd hS.1.size;have HO4:=Hd (HO3.o.below hS.1);have HQ3:=Hd ((hS.1.block _ (jR HP3.o)).trans HP3.o);have HQ4:=Hd ((hS.1.block _ (jR HP4.o)).trans HP4.o);have HQ6:=Hd ((hS.1.block _ (jR HN6.o)).trans HN6.o);have HRC4:=Hd (HRC3.o.below hS.1);clear hS x33 x31;obtain⟨vA,vc,hvA⟩:=uT H.o.own;have y0:w'.cell? ⟨R,0,none⟩=some (.slice vA SL.length vc):=by rw[←hvA];exact(at_ HO4.o.blk 0 _ rfl).1
 have y3:w'.cell? ⟨R,3,none⟩=some (.int .i64 n):=(at_ HO4.o.blk 3 _ rfl).1;clear hvA
 by_cases hgr:n=SL.length
 · have hgrI:((n:Int)==(SL.length:Int))=true:=by simp;omega
   have HGR:=Hd hgr;clear hgr
   go_upto_region 11 with fail
   refine kW 9 (fun w2=>Below w'.heap.size w' w2∧w2.cell? ⟨R,3,none⟩=some (.int .i64 n)∧w2.cell? ⟨R,0,none⟩=some (.slice vA SL.length vc)) qQ qQ ?_ ?_
   · exact⟨(jU _ _).drew,y3,y0⟩
   simp only[jS,kK,jL,jO]
   repeat(
    (first
     |refine kF qK ?_
     |(refine kT ?_ qK ?_ ?_;rotate_left;(focus(intro w' hS;obtain⟨_,_,_⟩:=hS;go_simp;first|done|with_reducible rfl))))
    simp only[Act.put,jZ,jX,jY])
   refine kE (fun w' hS=>?_);have HBW2:=Hd (jW HBW.o hS.1);have HBS2:=Hd (jI HBS.o hS.1.size);have HO5':=Hd (HO4.o.below hS.1);have HP3':=Hd ((hS.1.block _ (jR HQ3.o)).trans HQ3.o);have HP4':=Hd ((hS.1.block _ (jR HQ4.o)).trans HQ4.o);have HP6':=Hd ((hS.1.block _ (jR HQ6.o)).trans HQ6.o);have HRC5':=Hd (HRC4.o.below hS.1);clear hS y0 y3;have HGW:=Hd (Ww HO5'.o HGR.o (by have :=H.o.hn;have :=H.o.hm;have :=HGR.o;have :=HF.o;omega) (jI hbw HBW2.o.size))
   go_upto_region 13 with(go_at_call 325;refine HGW.o.mono ?_;rintro e w5 ⟨rfl,vl5,m5,hm5,ho5,hmod5,hown5⟩;have HO6':=Hd ho5;have HMD:=Hd hmod5;have HOW:=Hd hown5;clear ho5 hmod5 hown5)
   have hRn:w.heap.size∉[R]:=by simp;omega
   have hRn1:w.heap.size+1∉[R]:=by simp;omega
   have hRn6:N6∉[R]:=by simp;omega
   have HP3:=Hd ((HMD.o.block _ (jR HP3'.o) hRn).trans HP3'.o);have HP4:=Hd ((HMD.o.block _ (jR HP4'.o) hRn1).trans HP4'.o);have HP6z:=Hd ((HMD.o.block _ (jR HP6'.o) hRn6).trans HP6'.o);have HRC5:=Hd (HRC5'.o.mod HMD.o (fun b hb cs' f he=>HO5'.o.nocel b (by rw[jM.1 hb];simp[gK]) cs' f he));have HM5:=Hd ((Mod.of_below (X:=gK R vl) HBW2.o).trans HMD.o (fun x hx=>.inl (by rw[jM.1 hx];simp[gK])));have hs5:W3.heap.size≤w5.heap.size:=jI HBS2.o HMD.o.size;obtain⟨gv,cv,hgv⟩:=gH HO6'.o.own (by rw[jC,yC];simp;omega);obtain⟨SL5,first5,n5,g5,c5,r6,HO5,HIST,HP6,hn5,hg5p,hlt5⟩:∃(SL5:List Rh) (first5 n5 g5 c5:Nat) (r6:Rh),Hid (RgO base w5 R (.slice (some ⟨g5,0,none⟩) SL5.length c5) SL5 room first5 n5 (gone))∧Hid ((pS SL5 first5 n5).map zU=(pS SL first n).map zU)∧Hid (w5.heap[N6]? =some (.cells [.slice r6.A r6.cs.length r6.cap,.bool r6.cont].toArray 52 (0,0)))∧n5<SL5.length∧(vl.ownBlock=some g5∨W3.heap.size≤g5)∧W3.heap.size≤w5.heap.size:=
    ⟨_,0,n,gv,cv,cK,Hd (by have :=HO6'.o;rw[hgv]at this;exact this),Hd (by
     have :=wC (H:=pS SL first n) (Z:=kN (m5-n) cK);rw[yC]at this;rw[this]),HP6z,by rw[jC,yC];simp;omega,.inr (jI HBS2.o (HOW.o gv (by rw[hgv];rfl))),hs5⟩
   clear hgv HO6' HP6z HGW HMD HOW HO5' HRC5' HP3' HP4' HP6' HQ3 HQ4 HQ6 HRC4;have hfull:=HF.o;have hg5:vl.ownBlock=some g5∨w.heap.size≤g5:=hg5p.imp id (fun h=>by omega);have hN4X:w.heap.size+1∉gK R (.slice (some ⟨g5,0,none⟩) SL5.length c5):=fun hx=>by
    rcases kJ.1 hx with h|h
    · exact hNR4 h
    · have e:w.heap.size+1=g5:=by simpa[Value.ownBlock]using h
      rcases hg5p with h|h
      · have :=(H.o.own.lt g5 h).2;omega
      · omega
   have hN6X:N6∉gK R (.slice (some ⟨g5,0,none⟩) SL5.length c5):=fun hx=>by
    rcases kJ.1 hx with h|h
    · omega
    · have e:N6=g5:=by simpa[Value.ownBlock]using h
      rcases hg5p with h|h
      · have :=(H.o.own.lt g5 h).2;omega
      · omega
   obtain⟨k,hk⟩:∃k,pZ SL5.length first5 n5=k:=⟨_,rfl⟩;have hf5:first5<SL5.length:=by
    rcases HO5.o.hf with hf|⟨-,hf⟩
    · exact hf
    · omega
   have hkl:k<SL5.length:=by rw[←hk];exact bF hf5 hn5
   have hgR5:g5≠R:=HO5.o.ne rfl;have hl5:SL5.length≤100000:=by have :=HO5.o.hm;have :=HO5.o.hroom;omega
   obtain⟨zr,hzr⟩:∃zr,SL5[k]? =some zr:=⟨_,jN hkl⟩;have y0:w5.cell? ⟨R,0,none⟩=some (.slice (some ⟨g5,0,none⟩) SL5.length c5):=(at_ HO5.o.blk 0 _ rfl).1;have y2:w5.cell? ⟨R,2,none⟩=some (.int .i64 first5):=(at_ HO5.o.blk 2 _ rfl).1;have y3:w5.cell? ⟨R,3,none⟩=some (.int .i64 n5):=(at_ HO5.o.blk 3 _ rfl).1;obtain⟨p0,-⟩:=uS HP3.o 0 _ rfl;obtain⟨p1,-⟩:=uS HP3.o 1 _ rfl;have hkI:(k:Int)<(SL5.length:Int):=by omega
   obtain⟨n6,hn6⟩:∃n6:Nat,n6=n5+1:=⟨_,rfl⟩;have hcn5:(n5:Int)+1=(n6:Int):=by omega
   have hwn6:jE.wrap (n6:Int)=(n6:Int):=jF _ qJ;have HN6':=Hd hn6;clear hn6;refine kW 12 (fun w2=>Below w5.heap.size w5 w2∧w2.cell? ⟨R,0,none⟩=some (.slice (some ⟨g5,0,none⟩) SL5.length c5)∧w2.cell? ⟨R,3,none⟩=some (.int .i64 n5)∧w2.cell? ⟨w.heap.size,0,none⟩=some (.slice (some ⟨g1,0,none⟩) cs.length cap1)∧w2.cell? ⟨w.heap.size,1,none⟩=some (.bool cont)) qQ qQ ?_ ?_
   · exact⟨(jU _ _).drew,y0,y3,p0,p1⟩
   simp only[jS,kK,jL,jO]
   repeat(
    (first
     |refine kF qK ?_
     |(refine uO 251 #[.pointer (some ⟨R,0,none⟩),.int .i64 n5] (.int .i64 k) qK ?_ (fun w2 hS=>(iV hS.2.1 ((Mod.of_below (X:=[]) hS.1).cell qV y2) hl5 qJ n5 qJ).mono (fun e w3 h=>⟨by rw[←hk];exact h.1,h.2▸hS⟩)) ?_;(focus(intro w2;go_simp;done)))
     |(refine kT ?_ qK ?_ ?_;rotate_left;(focus(intro w' hS;obtain⟨_,_,_,_,_⟩:=hS;go_simp;first|done|with_reducible rfl))))
    simp only[Act.put,jZ,jX,jY])
   refine kE (fun w' hS=>?_);have HB6:=Hd hS.1;have hO6:=HO5.o.below hS.1;obtain⟨⟨q0,q0f⟩,q1,q1f⟩:=zK hO6.own hzr;have PU:=hO6.pushed hn5 ⟨some ⟨g1,0,none⟩,cs,cap1,cont⟩ (HRC5.o.below hS.1) H0.o hgR5 k hk;rw[←HN6'.o]at PU;have PU1:=Hd PU.1;have PU2:=Hd PU.2;have HQ3:=Hd ((hS.1.block _ (jR HP3.o)).trans HP3.o);have HQ4:=Hd ((hS.1.block _ (jR HP4.o)).trans HP4.o);have HQ6:=Hd ((hS.1.block _ (jR HP6.o)).trans HP6.o);obtain⟨z3,z3f⟩:=at_ hO6.blk 3 _ rfl;clear hS y0 y2 y3 p0 p1 PU hO6
   go_upto_region 15 with fail
   simp only at PU1 PU2;have HH:=Hd (lZ hf5 hn5 ⟨some ⟨g1,0,none⟩,cs,cap1,cont⟩);rw[hk,←HN6'.o]at HH;have hX5:∀x∈gK R (.slice (some ⟨g5,0,none⟩) SL5.length c5),x∈gK R vl∨w.heap.size≤x:=fun x hx=>by
    rcases kJ.1 hx with rfl|hx
    · exact .inl qO
    · have e:x=g5:=by simpa[Value.ownBlock]using hx
      subst e;rcases hg5 with h|h
      · exact .inl (by simp[gK,h])
      · exact .inr h
   have HM7:=Hd ((HM5.o.then_below HB6.o).trans PU2.o hX5);have HQQ4:=Hd ((PU2.o.block _ (jR HQ4.o) hN4X).trans HQ4.o);have HQQ6:=Hd ((PU2.o.block _ (jR HQ6.o) hN6X).trans HQ6.o);have HRl7:=(PU1.o.lt R qO).2;clear q0 q0f q1 q1f z3 z3f PU2;generalize uN _ _ _=W7 at PU1 HM7 HQQ4 HQQ6 HRl7 ⊢;obtain⟨a0,-⟩:=uS HQQ6.o 0 _ rfl;obtain⟨a1,-⟩:=uS HQQ6.o 1 _ rfl;obtain⟨b0,b0f⟩:=at_ HQQ4.o 0 _ rfl;obtain⟨b1,b1f⟩:=at_ HQQ4.o 1 _ rfl
   go_wp2
   have hset:=fY (u':=.slice r6.A r6.cs.length r6.cap) (v':=.bool r6.cont) ⟨b0,b0f⟩ ⟨b1,b1f⟩;have hM2:Mod [w.heap.size+1] W7 ((W7.setCell ⟨w.heap.size+1,0,none⟩ (.slice r6.A r6.cs.length r6.cap)).setCell ⟨w.heap.size+1,1,none⟩ (.bool r6.cont)):=yK (Mod.refl _ _) (.inl qV);refine bodyPost_ret (sJ rfl _ _ (w.heap.size+1) _ _ _ rfl rfl hset.1.1 hset.2.1) rfl ⟨r6,by rw[decide_eq_false hfull];rfl,.slice (some ⟨g5,0,none⟩) SL5.length c5,SL5.set k ⟨some ⟨g1,0,none⟩,cs,cap1,cont⟩,first5,n6,?_,?_,HM7.o.trans hM2 (fun x hx=>by rw[jM.1 hx];exact .inr qJ),fun x hx=>by simp[Value.ownBlock]at hx;subst hx;exact hg5⟩
   · have h1:=PU1.o.mod hM2 (fun b hb cs' f he=>by
      rw[jM.1 hb,HQQ4.o]at he;injection he with he
      injection he with _ ht
      exact absurd ht qZ) (fun x hx hX=>by rw[jM.1 hX]at hx;exact hN4X hx)
     rw[if_neg hfull];exact h1
   · rw[HH.o,vX,HIST.o,if_neg hr0];rw[if_neg hfull];rfl
 · have hgrI:((n:Int)==(SL.length:Int))=false:=by simp;omega
   have HGR:=Hd hgr;clear hgr
   go_upto_region 11 with fail
   refine kW 9 (fun w2=>Below w'.heap.size w' w2∧w2.cell? ⟨R,3,none⟩=some (.int .i64 n)∧w2.cell? ⟨R,0,none⟩=some (.slice vA SL.length vc)) qQ qQ ?_ ?_
   · exact⟨(jU _ _).drew,y3,y0⟩
   simp only[jS,kK,jL,jO]
   repeat(
    (first
     |refine kF qK ?_
     |(refine kT ?_ qK ?_ ?_;rotate_left;(focus(intro w' hS;obtain⟨_,_,_⟩:=hS;go_simp;first|done|with_reducible rfl))))
    simp only[Act.put,jZ,jX,jY])
   refine kE (fun w' hS=>?_);have HBW2:=Hd (jW HBW.o hS.1);have hs5:=jI HBS.o hS.1.size;have HO5':=Hd (HO4.o.below hS.1);have HP3:=Hd ((hS.1.block _ (jR HQ3.o)).trans HQ3.o);have HP4:=Hd ((hS.1.block _ (jR HQ4.o)).trans HQ4.o);have HP6':=Hd ((hS.1.block _ (jR HQ6.o)).trans HQ6.o);have HRC5:=Hd (HRC4.o.below hS.1);have HM5:=Hd (Mod.of_below (X:=gK R vl) HBW2.o);clear hS y0 y3
   go_upto_region 13 with fail
   have hnlt:n<SL.length:=by have :=H.o.hn;have :=HGR.o;omega
   obtain⟨gv,cv,hgv⟩:=gH HO5'.o.own qJ;obtain⟨SL5,first5,n5,g5,c5,r6,HO5,HIST,HP6,hn5,hg5p,hlt5⟩:∃(SL5:List Rh) (first5 n5 g5 c5:Nat) (r6:Rh),Hid (RgO base w' R (.slice (some ⟨g5,0,none⟩) SL5.length c5) SL5 room first5 n5 (gone))∧Hid ((pS SL5 first5 n5).map zU=(pS SL first n).map zU)∧Hid (w'.heap[N6]? =some (.cells [.slice r6.A r6.cs.length r6.cap,.bool r6.cont].toArray 52 (0,0)))∧n5<SL5.length∧(vl.ownBlock=some g5∨W3.heap.size≤g5)∧W3.heap.size≤w'.heap.size:=
    ⟨SL,first,n,gv,cv,cK,Hd (by have :=HO5'.o;rw[hgv]at this;exact this),Hd rfl,HP6',hnlt,.inl (by rw[hgv];rfl),hs5⟩
   clear hgv HO5' HP6' HQ3 HQ4 HQ6 HRC4 HO4;have hfull:=HF.o;have hg5:vl.ownBlock=some g5∨w.heap.size≤g5:=hg5p.imp id (fun h=>by omega);have hN4X:w.heap.size+1∉gK R (.slice (some ⟨g5,0,none⟩) SL5.length c5):=fun hx=>by
    rcases kJ.1 hx with h|h
    · exact hNR4 h
    · have e:w.heap.size+1=g5:=by simpa[Value.ownBlock]using h
      rcases hg5p with h|h
      · have :=(H.o.own.lt g5 h).2;omega
      · omega
   have hN6X:N6∉gK R (.slice (some ⟨g5,0,none⟩) SL5.length c5):=fun hx=>by
    rcases kJ.1 hx with h|h
    · omega
    · have e:N6=g5:=by simpa[Value.ownBlock]using h
      rcases hg5p with h|h
      · have :=(H.o.own.lt g5 h).2;omega
      · omega
   obtain⟨k,hk⟩:∃k,pZ SL5.length first5 n5=k:=⟨_,rfl⟩;have hf5:first5<SL5.length:=by
    rcases HO5.o.hf with hf|⟨-,hf⟩
    · exact hf
    · omega
   have hkl:k<SL5.length:=by rw[←hk];exact bF hf5 hn5
   have hgR5:g5≠R:=HO5.o.ne rfl;have hl5:SL5.length≤100000:=by have :=HO5.o.hm;have :=HO5.o.hroom;omega
   obtain⟨zr,hzr⟩:∃zr,SL5[k]? =some zr:=⟨_,jN hkl⟩;have y0:w'.cell? ⟨R,0,none⟩=some (.slice (some ⟨g5,0,none⟩) SL5.length c5):=(at_ HO5.o.blk 0 _ rfl).1;have y2:w'.cell? ⟨R,2,none⟩=some (.int .i64 first5):=(at_ HO5.o.blk 2 _ rfl).1;have y3:w'.cell? ⟨R,3,none⟩=some (.int .i64 n5):=(at_ HO5.o.blk 3 _ rfl).1;obtain⟨p0,-⟩:=uS HP3.o 0 _ rfl;obtain⟨p1,-⟩:=uS HP3.o 1 _ rfl;have hkI:(k:Int)<(SL5.length:Int):=by omega
   obtain⟨n6,hn6⟩:∃n6:Nat,n6=n5+1:=⟨_,rfl⟩;have hcn5:(n5:Int)+1=(n6:Int):=by omega
   have hwn6:jE.wrap (n6:Int)=(n6:Int):=jF _ qJ;have HN6':=Hd hn6;clear hn6;refine kW 12 (fun w2=>Below w'.heap.size w' w2∧w2.cell? ⟨R,0,none⟩=some (.slice (some ⟨g5,0,none⟩) SL5.length c5)∧w2.cell? ⟨R,3,none⟩=some (.int .i64 n5)∧w2.cell? ⟨w.heap.size,0,none⟩=some (.slice (some ⟨g1,0,none⟩) cs.length cap1)∧w2.cell? ⟨w.heap.size,1,none⟩=some (.bool cont)) qQ qQ ?_ ?_
   · exact⟨(jU _ _).drew,y0,y3,p0,p1⟩
   simp only[jS,kK,jL,jO]
   repeat(
    (first
     |refine kF qK ?_
     |(refine uO 251 #[.pointer (some ⟨R,0,none⟩),.int .i64 n5] (.int .i64 k) qK ?_ (fun w2 hS=>(iV hS.2.1 ((Mod.of_below (X:=[]) hS.1).cell qV y2) hl5 qJ n5 qJ).mono (fun e w3 h=>⟨by rw[←hk];exact h.1,h.2▸hS⟩)) ?_;(focus(intro w2;go_simp;done)))
     |(refine kT ?_ qK ?_ ?_;rotate_left;(focus(intro w' hS;obtain⟨_,_,_,_,_⟩:=hS;go_simp;first|done|with_reducible rfl))))
    simp only[Act.put,jZ,jX,jY])
   refine kE (fun w' hS=>?_);have HB6:=Hd hS.1;have hO6:=HO5.o.below hS.1;obtain⟨⟨q0,q0f⟩,q1,q1f⟩:=zK hO6.own hzr;have PU:=hO6.pushed hn5 ⟨some ⟨g1,0,none⟩,cs,cap1,cont⟩ (HRC5.o.below hS.1) H0.o hgR5 k hk;rw[←HN6'.o]at PU;have PU1:=Hd PU.1;have PU2:=Hd PU.2;have HQ3:=Hd ((hS.1.block _ (jR HP3.o)).trans HP3.o);have HQ4:=Hd ((hS.1.block _ (jR HP4.o)).trans HP4.o);have HQ6:=Hd ((hS.1.block _ (jR HP6.o)).trans HP6.o);obtain⟨z3,z3f⟩:=at_ hO6.blk 3 _ rfl;clear hS y0 y2 y3 p0 p1 PU hO6
   go_upto_region 15 with fail
   simp only at PU1 PU2;have HH:=Hd (lZ hf5 hn5 ⟨some ⟨g1,0,none⟩,cs,cap1,cont⟩);rw[hk,←HN6'.o]at HH;have hX5:∀x∈gK R (.slice (some ⟨g5,0,none⟩) SL5.length c5),x∈gK R vl∨w.heap.size≤x:=fun x hx=>by
    rcases kJ.1 hx with rfl|hx
    · exact .inl qO
    · have e:x=g5:=by simpa[Value.ownBlock]using hx
      subst e;rcases hg5 with h|h
      · exact .inl (by simp[gK,h])
      · exact .inr h
   have HM7:=Hd ((HM5.o.then_below HB6.o).trans PU2.o hX5);have HQQ4:=Hd ((PU2.o.block _ (jR HQ4.o) hN4X).trans HQ4.o);have HQQ6:=Hd ((PU2.o.block _ (jR HQ6.o) hN6X).trans HQ6.o);have HRl7:=(PU1.o.lt R qO).2;clear q0 q0f q1 q1f z3 z3f PU2;generalize uN _ _ _=W7 at PU1 HM7 HQQ4 HQQ6 HRl7 ⊢;obtain⟨a0,-⟩:=uS HQQ6.o 0 _ rfl;obtain⟨a1,-⟩:=uS HQQ6.o 1 _ rfl;obtain⟨b0,b0f⟩:=at_ HQQ4.o 0 _ rfl;obtain⟨b1,b1f⟩:=at_ HQQ4.o 1 _ rfl
   go_wp2
   have hset:=fY (u':=.slice r6.A r6.cs.length r6.cap) (v':=.bool r6.cont) ⟨b0,b0f⟩ ⟨b1,b1f⟩;have hM2:Mod [w.heap.size+1] W7 ((W7.setCell ⟨w.heap.size+1,0,none⟩ (.slice r6.A r6.cs.length r6.cap)).setCell ⟨w.heap.size+1,1,none⟩ (.bool r6.cont)):=yK (Mod.refl _ _) (.inl qV);refine bodyPost_ret (sJ rfl _ _ (w.heap.size+1) _ _ _ rfl rfl hset.1.1 hset.2.1) rfl ⟨r6,by rw[decide_eq_false hfull];rfl,.slice (some ⟨g5,0,none⟩) SL5.length c5,SL5.set k ⟨some ⟨g1,0,none⟩,cs,cap1,cont⟩,first5,n6,?_,?_,HM7.o.trans hM2 (fun x hx=>by rw[jM.1 hx];exact .inr qJ),fun x hx=>by simp[Value.ownBlock]at hx;subst hx;exact hg5⟩
   · have h1:=PU1.o.mod hM2 (fun b hb cs' f he=>by
      rw[jM.1 hb,HQQ4.o]at he;injection he with he
      injection he with _ ht
      exact absurd ht qZ) (fun x hx hX=>by rw[jM.1 hX]at hx;exact hN4X hx)
     rw[if_neg hfull];exact h1
   · rw[HH.o,vX,HIST.o,if_neg hr0];rw[if_neg hfull];rfl
end
end Go.Proofs.YtaefcahblmopfaaGreatDoor
