/- Joined by a tool of this claim out of smaller texts. Conditions: as stated. -/
import Derived.Test.YtaefcahblmopfaaGreatDoorDj33
import Derived.Test.YtaefcahblmopfaaGreatDoorDj34
set_option linter.unusedVariables false
set_option linter.unusedSimpArgs false
set_option maxRecDepth 100000
open Go.Lib renaming hid → Hd
open List renaming setIfInBounds_toArray → jZ, set_cons_zero → jX, set_cons_succ → jY, drop_succ_cons → jL, drop_zero → jO, mem_cons → kJ
open Go.Proofs.Tryz renaming prog → jG
open Go.RowKit.Below renaming refl → jU
open Go.IntWalk renaming i64_in → jF
open Go.IntKind renaming i64 → jE
open And renaming intro → kY
namespace Go.Proofs.YtaefcahblmopfaaGreatDoor
open Go.RowKit
@[go_sem]
theorem Up(d:Nat)(w:World)(a1 a2 a3 a4 e1 e2 e3 e4:Int):(Op.equalIn (d+1+1) 97 (.agg #[.int .i64 a1,.int .i64 a2,.int .i64 a3,.int .i64 a4]) (.agg #[.int .i64 e1,.int .i64 e2,.int .i64 e3,.int .i64 e4])).run jG w=.ok (a1==e1&&a2==e2&&a3==e3&&a4==e4) w:=by
 have u3:=Tryz.underlying3;have a3':∀w,(isAgg 3).run jG w=.ok false w:=Tryz.isAgg3;have z3:=Tryz.sizeOf3;rw[Op.equalIn];simp only[Sem.run_bind,run_underlying Tryz.underlying97,Result.andThen_ok];simp only[Std.Legacy.Range.forIn_eq_forIn_range',Std.Legacy.Range.size,Nat.sub_zero,Nat.add_sub_cancel,Nat.div_one,List.range'_succ,List.range'_zero,List.forIn_cons,List.forIn_nil]
 go_simp
 by_cases h1:a1=e1<;>by_cases h2:a2=e2<;>by_cases h3:a3=e3<;>by_cases h4:a4=e4<;>simp[h1,h2,h3,h4]
def drS(n ay ax:Nat):List Value:=[.int .i64 ay,.int .i64 ax,.int .i64 0,.int .i64 0,.int .i64 0,.int .i64 0,.int .i64 0,.int .i64 gE.g0,.int .i64 gE.g1,.int .i64 gE.g2,.int .i64 gE.g3,.int .i64 gE.use,.int .i64 gE.once,.bool false,.bool true,.bool false,.int .i64 0,.int .i64 ((n:Int)-1),.bool false]
theorem drS_one(n ay ax:Nat):∀v∈drS n ay ax,v.oneCell'=true:=fun v hv=>by
 simp only[drS,kJ,List.not_mem_nil,or_false]at hv;rcases hv with rfl|rfl|rfl|rfl|rfl|rfl|rfl|rfl|rfl|rfl|rfl|rfl|rfl|rfl|rfl|rfl|rfl|rfl|rfl<;>rfl
theorem wB:(jG.info? 103).map (·.size)=some 19:=by kernel_rfl
section
variable {base:Nat}{w:World}{v:Tv}{t:Tm}{st:List Bool}{cols:Nat}{ls:List (List Cl)}{ay ax:Nat}{la:Int}
set_option maxHeartbeats 3200000 in
theorem Z9(h:TmO base w v t)(hz:PzOk t.pz)(hs:t.s0=dS st cols ls vI ay ax la)(hu:t.use=false)(hm:t.modes=Kn)(hti:t.title=⟨#[]⟩)(hr:t.rep=[])(hc:t.ch=[])(hre:Vs t=true)(hn:ls.length≤1000):
 Calls jG 90 #[.pointer (some ⟨v.M,0,none⟩),.agg #[.int .i64 ay,.int .i64 ax]] w fun e w'=>e=.returned (.bool true)∧zW base w v t w':=by
 obtain⟨W,hW⟩:∃W,w.alloc (.cells #[.int .i64 ay,.int .i64 ax] 34)=W:=⟨_,rfl⟩;have hb0:Below w.heap.size w W:=by rw[←hW];exact jH (jU _ _) _
 have hn0:W.heap[w.heap.size]? =some (.cells #[.int .i64 ay,.int .i64 ax] 34 (0,0)):=by rw[←hW];exact jT rfl
 have HB0:=Hd hb0;have HO:=Hd (h.below hb0);have HF:=Hd (oD (h.below hb0));have HP:=Hd (iX (h.below hb0).a);have HS:=Hd hs;have HC:=Hd (kY hz (kY hu (kY hm (kY hti (kY hr (kY hc hre))))));obtain⟨⟨x0,-⟩,⟨x1,-⟩⟩:=kY (at_ hn0 0 (.int .i64 ay) rfl) (at_ hn0 1 (.int .i64 ax) rfl);have HMN:=Hd (fun w=>ZL w);generalize Kn=mm at HC HMN;have HCN:Hid (∀w,Calls jG 114 #[] w fun e w'=>e=.returned (.agg #[.int .i64 gE.g0,.int .i64 gE.g1,.int .i64 gE.g2,.int .i64 gE.g3,.int .i64 gE.use,.int .i64 gE.once])∧Below w.heap.size w w'):=Hd (fun w=>Zw w);have HRW:Hid (∀w',Below W.heap.size W w'→Calls jG 145 #[.pointer (some ⟨v.a.q.P,0,none⟩)] w' fun e w2=>e=.returned (.int .i64 ls.length)∧Below w'.heap.size w' w2):=Hd (fun w' hb=>by
  refine(tD (HO.o.below hb).a.page).mono ?_;rintro e w2 ⟨rfl,rfl⟩;refine⟨?_,jU _ _⟩;rw[HS.o];show Ending.returned (.int .i64 ((ls.map mkR).length:Nat))=_;rw[List.length_map])
 have hwn:jE.wrap ((ls.length:Int)-1)=(ls.length:Int)-1:=jF _ qJ;clear h hz hs hu hm hti hr hc hre hb0 hn0
 go_enter Tryz.func90,Tryz.ntmps90
 go_upto_region 2 with(first
  |(go_at_call 12;(with_reducible refine HF.o.mono ?_);rintro e w1 ⟨rfl,rfl⟩)
  |(go_at_call 78;(with_reducible refine HP.o.mono ?_);rintro e w1 ⟨rfl,rfl⟩))
 clear hW HF HP;refine gI 8 (fun w'=>Below W.heap.size W w'∧w'.cell? ⟨w.heap.size,0,none⟩=some (.int .i64 ay)∧w'.cell? ⟨w.heap.size,1,none⟩=some (.int .i64 ax)) qQ qQ ?_ ?_ ?_
 · intro w1 w2 hS hb;exact⟨jW hS.1 hb,kZ hb hS.2.1,kZ hb hS.2.2⟩
 · exact⟨(jU _ _).drew,x0,x1⟩
 refine AtN.take 0 (o:=⟨_,_,_,_,_,_⟩) (v:=?_) qQ rfl qV qQ qQ ?_ ?_;rotate_left
 · first|exact uQ.skip qK|(refine uQ.val qK ?_;intro w' hS;obtain⟨_,_,_⟩:=hS;go_simp;first|done|with_reducible rfl)
 simp only[Act.put,jZ,jX,jY];refine AtN.take 1 (o:=⟨_,_,_,_,_,_⟩) (v:=.agg #[.int .i64 gE.g0,.int .i64 gE.g1,.int .i64 gE.g2,.int .i64 gE.g3,.int .i64 gE.use,.int .i64 gE.once]) qQ rfl qV qQ qQ (uQ.call1 114 #[] (.agg #[.int .i64 gE.g0,.int .i64 gE.g1,.int .i64 gE.g2,.int .i64 gE.g3,.int .i64 gE.use,.int .i64 gE.once]) qK qH (fun w' hS=>HCN.o w')) ?_;simp only[Act.put,jZ,jX,jY];refine AtN.take 2 (o:=⟨_,_,_,_,_,_⟩) (v:=?_) qQ rfl qV qQ qQ ?_ ?_;rotate_left
 · first|exact uQ.skip qK|(refine uQ.val qK ?_;intro w' hS;obtain⟨_,_,_⟩:=hS;go_simp;first|done|with_reducible rfl)
 simp only[Act.put,jZ,jX,jY];refine AtN.take 3 (o:=⟨_,_,_,_,_,_⟩) (v:=?_) qQ rfl qV qQ qQ ?_ ?_;rotate_left
 · first|exact uQ.skip qK|(refine uQ.val qK ?_;intro w' hS;obtain⟨_,_,_⟩:=hS;go_simp;first|done|with_reducible rfl)
 simp only[Act.put,jZ,jX,jY];refine AtN.take 4 (o:=⟨_,_,_,_,_,_⟩) (v:=.int .i64 ls.length) qQ rfl qV qQ qQ (uQ.call1 145 #[.pointer (some ⟨v.a.q.P,0,none⟩)] (.int .i64 ls.length) qK qH (fun w' hS=>HRW.o w' hS.1)) ?_;simp only[Act.put,jZ,jX,jY];refine AtN.take 5 (o:=⟨_,_,_,_,_,_⟩) (v:=?_) qQ rfl qV qQ qQ ?_ ?_;rotate_left
 · first|exact uQ.skip qK|(refine uQ.val qK ?_;intro w' hS;obtain⟨_,_,_⟩:=hS;go_simp;first|done|with_reducible rfl)
 simp only[Act.put,jZ,jX,jY];refine AtN.take 6 (o:=⟨_,_,_,_,_,_⟩) (v:=?_) qQ rfl qV qQ qQ ?_ ?_;rotate_left
 · first|exact uQ.skip qK|(refine uQ.val qK ?_;intro w' hS;obtain⟨_,_,_⟩:=hS;go_simp;first|done|with_reducible rfl)
 simp only[Act.put,jZ,jX,jY];refine AtN.one 7 _ _ qV qQ rfl (UT.pers _ _) (uQ.alloc W.heap.size 103 #[.int .i64 0,.int .i64 0,.int .i64 0,.int .i64 0,.int .i64 0,.int .i64 0,.int .i64 0,.int .i64 0,.int .i64 0,.int .i64 0,.int .i64 0,.int .i64 0,.int .i64 0,.bool false,.bool false,.bool false,.int .i64 0,.int .i64 0,.bool false] [] qK ?_ (fun w' hS=>hS.1.size) (fun w' hS x hx=>by simp at hx)) ?_
 · intro w' hS;go_simp;first|done|with_reducible rfl
 rintro v1 ⟨g,rfl,hg,-⟩;simp only[Act.put,jZ,jX,jY];refine AtN.done qQ ?_;rintro w2 ⟨⟨hb2,-,-⟩,hN⟩;have hx:=hN.at_;have HX2:=Hd (uF (drS ls.length ay ax) 0 _ _ hx (by simp[drS]));have HB2:=Hd (yF hb2 hg (drS ls.length ay ax) 0);have HTH:Hid (World.there w2 g 0 19):=Hd (pW hx);clear hx hN hb2 x0 x1 HCN HRW;simp only[jL,jO];refine wpList_store_mid rfl 103 (.tmp 6) (.tmp 16) rfl (g) (0) ((drS ls.length ay ax).toArray) rfl rfl (HTH.o) wB (all_oneCell_toArray (drS_one _ _ _)) ?_;change wpList _ _ _ _ _ (w2.setCells g 0 (drS ls.length ay ax));clear HTH;generalize w2.setCells g 0 (drS ls.length ay ax)=W2 at HX2 HB2 ⊢;have HX2:Hid (W2.heap[g]? =some (.cells (drS ls.length ay ax).toArray 103 (0,0))):=Hd HX2.o
 go_upto_region 3 with fail
 have hO2:=HO.o.below HB2.o;have hgX:g∉tmX v:=fun hx=>by have :=(HO.o.lt _ hx).2;omega
 have HINV:Hid (∀w',zW base W2 v t w'→w'.heap[g]? =some (.cells (drS ls.length ay ax).toArray 103 (0,0))):=Hd (fun w' ⟨_,_,_,_,hm⟩=>(hm.block g (jR HX2.o) hgX).trans HX2.o);have HEQ:Hid (∀(x y:Operand) (ρ:Operand→Value) (dst:Option Tmp) (ty:TypeId) (pos:String) (af:Array Edge) (gd:Option (Nat×Bool)) (w:World),ρ x=.agg (drS ls.length ay ax).toArray→ρ y=.agg (drS ls.length ay ax).toArray→(execOp ρ ⟨dst,.binOp .eql 103 x y 103,ty,pos,af,gd⟩).run jG w=.ok (.value (.bool true)) w):=Hd (fun x y ρ dst ty pos af gd w h1 h2=>by
  simp only[drS]at h1 h2
  go_simp)
 refine Go.RL.wp_region_l 36 (fun w'=>w'.heap[g]? =some (.cells (drS ls.length ay ax).toArray 103 (0,0))) (fun w'=>zW base W2 v t w') qQ qQ HX2.o ((hO2.resq).post (jU _ _).drew) ?_;have HHO:=Hd hO2;clear hO2 hgX;refine Go.RL.AtL.take 0 (o:=⟨_,_,_,_,_,_⟩) (v:=?_) qQ rfl qV qQ qQ ?_ ?_;rotate_left
 · (refine Go.RL.Pure.val qQ ?_;intro w' hI;obtain hI2:=hI;go_simp;first|done|with_reducible rfl)
 simp only[Act.put,jZ,jX,jY];refine Go.RL.AtL.take 3 (o:=⟨_,_,_,_,_,_⟩) (v:=.agg (drS ls.length ay ax).toArray) qQ rfl qV qQ qQ (Go.RL.Pure.val qK (fun w' hI=>iC 103 (.tmp 6) rfl g 0 rfl (drS ls.length ay ax) _ (uH hI) Tryz.underlying103 rfl wB)) ?_;simp only[Act.put,jZ,jX,jY];refine Go.RL.AtL.one 1 (o:=⟨_,_,_,_,_,_⟩) (fun u=>u=.pointer (some ⟨v.a.S,0,none⟩)) (fun _ w'=>zW base W2 v t w') qV qQ rfl (Go.RL.StabL.call 12 #[.pointer (some ⟨v.M,0,none⟩)] _ _ qQ qH (fun w' hI hS=>?_)) ?_
 · obtain⟨v',hq,hV,hO',hM'⟩:=hS;have hM0:=hV.M;have hA0:=hV.a;have HR:zW base W2 v t w':=⟨v',hq,hV,hO',hM'⟩;have :=oD hO';rw[hM0,hA0]at this;refine this.mono ?_;rintro e w3 ⟨rfl,rfl⟩;exact⟨_,rfl,rfl,HINV.o _ HR,HR⟩
 rintro _ rfl;simp only[Act.put,jZ,jX,jY];refine Go.RL.AtL.one 2 (o:=⟨_,_,_,_,_,_⟩) (fun u=>u=.agg (drS ls.length ay ax).toArray) (fun _ w'=>zW base W2 v t w') qV qQ rfl (Go.RL.StabL.call 47 #[.pointer (some ⟨v.a.S,0,none⟩)] _ _ qQ qH (fun w' hI hS=>?_)) ?_
 · obtain⟨v',hq,hV,hO',hM'⟩:=hS;have hM0:=hV.M;have hA0:=hV.a;have HR:zW base W2 v t w':=⟨v',hq,hV,hO',hM'⟩;have :=Xo hO'.a;rw[hA0]at this;refine this.mono ?_;rintro e w3 ⟨rfl,hb⟩;exact⟨_,rfl,by rw[HS.o];rfl,HINV.o _ (HR.post hb),HR.post hb⟩
 rintro _ rfl;simp only[Act.put,jZ,jX,jY];refine Go.RL.AtL.take 4 (o:=⟨_,_,_,_,_,_⟩) (v:=.bool true) qQ rfl qV qQ qQ (Go.RL.Pure.val qQ (fun w' hI=>HEQ.o _ _ _ _ _ _ _ _ w' rfl rfl)) ?_;simp only[Act.put,jZ,jX,jY];refine Go.RL.AtL.go 5 ?_
 iterate 2 (refine Go.RL.AtK.take (o:=⟨_,_,_,_,_,_⟩) (v:=?_) qQ rfl qV qQ qQ ?_ ?_;rotate_left;(focus(refine Go.RL.Pure.val qQ ?_;intro w' hI;obtain hI2:=hI;go_simp;first|done|with_reducible rfl));simp only[Act.put,jZ,jX,jY])
 refine Go.RL.AtK.back ?_;refine Go.RL.AtL.one 7 (o:=⟨_,_,_,_,_,_⟩) (fun u=>u=.agg #[.int .u32 mm]) (fun _ w'=>zW base W2 v t w') qV qQ rfl (Go.RL.StabL.call 14 #[.pointer (some ⟨v.M,0,none⟩)] _ _ qQ qH (fun w' hI hS=>?_)) ?_
 · obtain⟨v',hq,hV,hO',hM'⟩:=hS;have hM0:=hV.M;have hA0:=hV.a;have HR:zW base W2 v t w':=⟨v',hq,hV,hO',hM'⟩;have :=Xd hO';rw[hM0,HC.o.2.2.1]at this;refine this.mono ?_;rintro e w3 ⟨rfl,hb⟩;exact qX9
 rintro _ rfl;simp only[Act.put,jZ,jX,jY];refine Go.RL.AtL.one 8 (o:=⟨_,_,_,_,_,_⟩) (fun u=>u=.agg #[.int .u32 mm]) (fun _ w'=>zW base W2 v t w') qV qQ rfl (Go.RL.StabL.call 15 #[] _ _ qQ qH (fun w' hI hS=>?_)) ?_
 · obtain⟨v',hq,hV,hO',hM'⟩:=hS;have hM0:=hV.M;have hA0:=hV.a;have HR:zW base W2 v t w':=⟨v',hq,hV,hO',hM'⟩;refine(HMN.o w').mono ?_;rintro e w3 ⟨rfl,hb⟩;exact qX9
 rintro _ rfl;simp only[Act.put,jZ,jX,jY];refine Go.RL.AtL.go 9 ?_
 iterate 4 (refine Go.RL.AtK.take (o:=⟨_,_,_,_,_,_⟩) (v:=?_) qQ rfl qV qQ qQ ?_ ?_;rotate_left;(focus(refine Go.RL.Pure.val qQ ?_;intro w' hI;obtain hI2:=hI;go_simp;first|done|with_reducible rfl));simp only[Act.put,jZ,jX,jY])
 refine Go.RL.AtK.back ?_;refine Go.RL.AtL.one 13 (o:=⟨_,_,_,_,_,_⟩) (fun u=>u=.string ⟨#[]⟩) (fun _ w'=>zW base W2 v t w') qV qQ rfl (Go.RL.StabL.call 17 #[.pointer (some ⟨v.M,0,none⟩)] _ _ qQ qH (fun w' hI hS=>?_)) ?_
 · obtain⟨v',hq,hV,hO',hM'⟩:=hS;have hM0:=hV.M;have hA0:=hV.a;have HR:zW base W2 v t w':=⟨v',hq,hV,hO',hM'⟩;have :=Vu hO' HC.o.2.2.2.2.1;rw[hM0]at this;refine this.mono ?_;rintro e w3 ⟨rfl,hr⟩;have HR2:=zW.trans hq hV hM' hr;exact⟨_,rfl,rfl,HINV.o _ HR2,HR2⟩
 rintro _ rfl;simp only[Act.put,jZ,jX,jY];refine Go.RL.AtL.go 14 ?_
 iterate 4 (refine Go.RL.AtK.take (o:=⟨_,_,_,_,_,_⟩) (v:=?_) qQ rfl qV qQ qQ ?_ ?_;rotate_left;(focus(refine Go.RL.Pure.val qQ ?_;intro w' hI;obtain hI2:=hI;go_simp;first|done|with_reducible rfl));simp only[Act.put,jZ,jX,jY])
 refine Go.RL.AtK.back ?_;refine Go.RL.AtL.one 18 (o:=⟨_,_,_,_,_,_⟩) (fun u=>u=.string ⟨#[]⟩) (fun _ w'=>zW base W2 v t w') qV qQ rfl (Go.RL.StabL.call 16 #[.pointer (some ⟨v.M,0,none⟩)] _ _ qQ qH (fun w' hI hS=>?_)) ?_
 · obtain⟨v',hq,hV,hO',hM'⟩:=hS;have hM0:=hV.M;have hA0:=hV.a;have HR:zW base W2 v t w':=⟨v',hq,hV,hO',hM'⟩;have :=Xb hO';rw[hM0,HC.o.2.2.2.1]at this;refine this.mono ?_;rintro e w3 ⟨rfl,rfl⟩;exact⟨_,rfl,rfl,HINV.o _ HR,HR⟩
 rintro _ rfl;simp only[Act.put,jZ,jX,jY];refine Go.RL.AtL.go 19 ?_
 iterate 4 (refine Go.RL.AtK.take (o:=⟨_,_,_,_,_,_⟩) (v:=?_) qQ rfl qV qQ qQ ?_ ?_;rotate_left;(focus(refine Go.RL.Pure.val qQ ?_;intro w' hI;obtain hI2:=hI;go_simp;first|done|with_reducible rfl));simp only[Act.put,jZ,jX,jY])
 refine Go.RL.AtK.back ?_;refine Go.RL.AtL.one 23 (o:=⟨_,_,_,_,_,_⟩) (fun u=>u=.bool false) (fun _ w'=>zW base W2 v t w') qV qQ rfl (Go.RL.StabL.call 13 #[.pointer (some ⟨v.M,0,none⟩)] _ _ qQ qH (fun w' hI hS=>?_)) ?_
 · obtain⟨v',hq,hV,hO',hM'⟩:=hS;have hM0:=hV.M;have hA0:=hV.a;have HR:zW base W2 v t w':=⟨v',hq,hV,hO',hM'⟩;have :=Xc hO';rw[hM0,HC.o.2.1]at this;refine this.mono ?_;rintro e w3 ⟨rfl,rfl⟩;exact⟨_,rfl,rfl,HINV.o _ HR,HR⟩
 rintro _ rfl;simp only[Act.put,jZ,jX,jY];refine Go.RL.AtL.go 24 ?_
 iterate 4 (refine Go.RL.AtK.take (o:=⟨_,_,_,_,_,_⟩) (v:=?_) qQ rfl qV qQ qQ ?_ ?_;rotate_left;(focus(refine Go.RL.Pure.val qQ ?_;intro w' hI;obtain hI2:=hI;go_simp;first|done|with_reducible rfl));simp only[Act.put,jZ,jX,jY])
 refine Go.RL.AtK.back ?_;refine Go.RL.AtL.one 28 (o:=⟨_,_,_,_,_,_⟩) (fun u=>u=.bool true) (fun _ w'=>zW base W2 v t w') qV qQ rfl (Go.RL.StabL.call 19 #[.pointer (some ⟨v.M,0,none⟩)] _ _ qQ qH (fun w' hI hS=>?_)) ?_
 · obtain⟨v',hq,hV,hO',hM'⟩:=hS;have hM0:=hV.M;have hA0:=hV.a;have HR:zW base W2 v t w':=⟨v',hq,hV,hO',hM'⟩;have :=Wp hO' HC.o.1;rw[hM0,HC.o.2.2.2.2.2.2]at this;refine this.mono ?_;rintro e w3 ⟨rfl,hb⟩;exact qX9
 rintro _ rfl;simp only[Act.put,jZ,jX,jY];refine Go.RL.AtL.go 29 ?_
 iterate 3 (refine Go.RL.AtK.take (o:=⟨_,_,_,_,_,_⟩) (v:=?_) qQ rfl qV qQ qQ ?_ ?_;rotate_left;(focus(refine Go.RL.Pure.val qQ ?_;intro w' hI;obtain hI2:=hI;go_simp;first|done|with_reducible rfl));simp only[Act.put,jZ,jX,jY])
 refine Go.RL.AtK.back ?_;refine Go.RL.AtL.one 32 (o:=⟨_,_,_,_,_,_⟩) (fun u=>∃A c,u=.slice A 0 c) (fun _ w'=>zW base W2 v t w') qV qQ rfl (Go.RL.StabL.call 18 #[.pointer (some ⟨v.M,0,none⟩)] _ _ qQ qH (fun w' hI hS=>?_)) ?_
 · obtain⟨v',hq,hV,hO',hM'⟩:=hS;have hM0:=hV.M;have hA0:=hV.a;have HR:zW base W2 v t w':=⟨v',hq,hV,hO',hM'⟩;have :=Qx hO' (by rw[HS.o];rfl);rw[hM0]at this;refine this.mono ?_;rintro e w3 ⟨A,c,rfl,-,hr⟩;have et:{t with ch:=[]}=t:=by rw[←HC.o.2.2.2.2.2.1]
   rw[et]at hr;have HR2:=zW.trans hq hV hM' hr;exact⟨_,rfl,⟨A,c,by rw[HC.o.2.2.2.2.2.1];rfl⟩,HINV.o _ HR2,HR2⟩
 rintro _ ⟨A,c,rfl⟩;simp only[Act.put,jZ,jX,jY];refine Go.RL.AtL.go 33 ?_
 iterate 3 (refine Go.RL.AtK.take (o:=⟨_,_,_,_,_,_⟩) (v:=?_) qQ rfl qV qQ qQ ?_ ?_;rotate_left;(focus(refine Go.RL.Pure.val qQ ?_;intro w' hI;obtain hI2:=hI;go_simp;first|done|with_reducible rfl));simp only[Act.put,jZ,jX,jY])
 refine Go.RL.AtK.back ?_;refine Go.RL.AtL.done qQ (fun w' hI hS=>?_);have HR:=Hd hS;clear hI hS;simp only[jL,jO]
 go_wp2
 go_ret
 exact⟨rfl,zW.pre (HB0.o.trans ((HB2.o).mono HB0.o.size)) HR.o⟩
end
end Go.Proofs.YtaefcahblmopfaaGreatDoor
