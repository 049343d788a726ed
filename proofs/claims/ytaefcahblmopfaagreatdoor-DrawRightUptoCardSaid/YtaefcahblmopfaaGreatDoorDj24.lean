/- Joined by a tool of this claim out of smaller texts. Conditions: as stated. -/
import Derived.Test.YtaefcahblmopfaaGreatDoorDj23
import Derived.Lib.Bytealg
import Derived.Shelf.RegionOpenPlain
import Derived.Laws.RangeString
set_option linter.unusedVariables false
set_option linter.unusedSimpArgs false
set_option maxRecDepth 100000
open Go.Lib renaming hid → Hd
open List renaming setIfInBounds_toArray → jZ, set_cons_zero → jX, set_cons_succ → jY, mem_singleton → jM, length_append → jC, drop_succ_cons → jL, take_succ_cons → jS, drop_zero → jO, take_succ_eq_append_getElem → kQ, mem_cons → kJ, mem_append → kU, take_of_length_le → vY
open Go.Proofs.Tryz renaming prog → jG
open Go.RowKit.Below renaming refl → jU
open Nat renaming le_refl → jD, le_trans → jI, zero_le → kM, zero_add → kP
open Go.IntWalk renaming i64_in → jF
open Option renaming mem_toList → jA
open Go.IntKind renaming i64 → jE
open And renaming intro → kY
open Go.World renaming ownsRow → kL
namespace Go.Proofs.YtaefcahblmopfaaGreatDoor
open Go.RowKit
theorem ExsO.apart{base lo:Nat}{w:World}{u:Value}{L:List Ex}{evs:List Ev}{v:Zv}{p:Pz}(h:ExsO w lo u L evs)(hO:PzO base w v p):∀b,u.ownBlock=some b→b∉zvX v:=fun b hb hx=>by
 obtain⟨cur,hc⟩:=uR h.own hb;obtain⟨cur2,ty,h1,h2⟩:=hO.types b hx;rw[hc,Option.some.injEq,Obj.cells.injEq]at h1;obtain⟨-,e,-⟩:=h1;rcases h2 with h2|h2<;>exact absurd (e.trans h2) qZ
section
variable {base:Nat}{w:World}{v:Zv}{p:Pz}
theorem yJ.app{w4 w5 w6:World}{v2:Zv}{q:Pz}{u u':Value}{L L':List Ex}{evs evs':List Ev}(hP:v2.P=v.P)(hO:PzO base w4 v2 q)(hM:Mod (zvX v) w w4)(hX:∀b∈zvX v2,b∈zvX v∨w.heap.size≤b)(hx:ExsO w4 w.heap.size u L evs)(hb:Below w4.heap.size w4 w5)(hg:w5.grownBy w6 u.ownBlock)(hx6:ExsO w6 w.heap.size u' L' evs'):yJ base w v (q,evs') (.returned u') w6:=by
 have hm:Mod u.ownBlock.toList w4 w6:=(Mod.of_below hb).trans (Mod.of_grown (X:=u.ownBlock.toList) hg (fun g hg=>by simp[hg])) (fun g hg=>.inl hg);exact⟨u',L',rfl,hx6,v2,hP,hO.mod hm (fun b hb hx2=>hx.apart hO b (jA.1 hx2) hb),hM.trans hm (fun g hg=>.inr (hx.own.lt g (jA.1 hg)).1),hX⟩
set_option maxHeartbeats 3200000 in
theorem WM(HW:eH)(h:PzO base w v p)(hok:PzOk p)(c:Int)(hc:0≤c∧c≤255):Calls jG 37 #[.pointer (some ⟨v.P,0,none⟩),.int .u8 c] w (yJ base w v (vP p c)):=by
 have HS:=Hd (xL h.blk hok.dec c hc);have HPr:Hid (∀(W':World) (u:Value),Qn W' w.heap.size u (gG p.dec c).1→zX W' v {p with dec:=(gG p.dec c).2}→w.grownBy W' (some v.P)→Calls jG 65 #[.pointer (some ⟨v.P,0,none⟩),u] W' (yJ base w v (U6 p c))):=Hd (fun W' u h1 h2 h3=>lS h (JS hok.dec hc) h1 h2 h3);have HEd:=Hd (WB h.blk);have HPe:Hid (∀(W':World) (u:Value),Qn W' w.heap.size u (dU p.dec).1→zX W' v {p with dec:=(dU p.dec).2}→w.grownBy W' (some v.P)→Calls jG 65 #[.pointer (some ⟨v.P,0,none⟩),u] W' (yJ base w v (fB p))):=Hd (fun W' u h1 h2 h3=>lS h (Ur p.dec) h1 h2 h3);have HE:Hid (∀W v' (q:Pz),PzO base W v' q→v'.P=v.P→∀s:Int,Calls jG 67 #[.pointer (some ⟨v.P,0,none⟩),.int .i64 s] W (yQ base W v' (gV q s))):=Hd (fun W v' q ho e s=>by rw[←e];exact eN ho s);have HEn:Hid (∀W v' (q:Pz),PzO base W v' q→v'.P=v.P→PzOk q→Calls jG 68 #[.pointer (some ⟨v.P,0,none⟩)] W (qV2 W (mF q))):=Hd (fun W v' q ho e hq=>by rw[←e];exact JB HW ho hq);have HSt:=Hd (VP HW h hok c);have HHd:=Hd (WN HW h hok c hc);obtain⟨-,-,-,-,⟨c4,-⟩,-,-,-,⟨c8,-⟩⟩:=h.blk.facts;have HO:=Hd h;have hP:=h.blk.lt;have HDn:=Hd hok.done;have hdn:(∀e∈(fB p).2,e.nums=[])∧(fB p).2.length≤1000:=⟨(zR _ _).1,jI (zR _ _).2 (Ur _).1⟩
 have HN:=Hd hdn;clear h hok hdn;unfold vP
 by_cases h1:c=24∨c=26
 · rw[if_pos h1];clear HS HPr HEn HSt HHd;have h1I:c=24∨¬c=24∧c=26:=by omega
   rcases h1I with rfl|⟨h2,rfl⟩
   · clear h1
     go_enter Tryz.func37,Tryz.ntmps37
     go_upto_region 8 with(first
      |(go_at_call 66;(with_reducible refine HEd.o.mono ?_);rintro e w2 ⟨u,rfl,h1,h2,h3⟩;have H1:=Hd h1;have H2:=Hd h2;have H3:=Hd h3;clear h1 h2 h3)
      |(go_at_call 65;(with_reducible refine(HPe.o _ _ H1.o H2.o H3.o).mono ?_);rintro e w3 ⟨u3,L,rfl,h2,h3⟩;obtain⟨v1,hO1,e1,hm1,hx1⟩:=h3.at_;have HX:=Hd h2;have HO1:=Hd hO1;have HE1:=Hd e1;have HM1:=Hd hm1;have HX1:=Hd hx1;clear h2 h3 hO1 e1 hm1 hx1)
      |(go_at_call 67;(with_reducible refine(HE.o _ _ _ HO1.o HE1.o _).mono ?_);rintro e w4 ⟨rfl,hr⟩;obtain⟨v2,hO2,e2,hm2,hx2⟩:=hr.at_;have HR:=Hd hr;have HO2:=Hd hO2;have HE2:=Hd e2;have HM2:=Hd hm2;have HX2:=Hd hx2;clear hr hO2 e2 hm2 hx2))
     refine wp_region_lit ?_;refine jB (u3) qK qK ?_;simp only[Act.put,jZ,jX,jY];refine jB (.int .u8 24) qK qK ?_;simp only[Act.put,jZ,jX,jY];refine jB (.agg #[.int .i64 1,.int .i32 0,.int .u8 24,.int .u8 0,.slice none 0 0,.string ⟨#[]⟩,.string ⟨#[]⟩,.bool false]) qK qX ?_;simp only[Act.put,jZ,jX,jY];have hX4:=HX.o.keepB HN.o.1 HM2.o (HX.o.apart HO1.o);have hB5:=jH (jU w4.heap.size w4) (.cells (zA (ex0 (sL 24))).toArray 83);have hs4:w.heap.size≤w4.heap.size:=jI HM1.o.size HM2.o.size;have hL:=ExsO.lit (w:=w4) (lo:=w.heap.size) hs4 (mD w4 w.heap.size (e:=sL 24) rfl);refine uC (.slice (some ⟨w4.heap.size,0,none⟩) 1 1) (w4.alloc (.cells #[.int .i64 1,.int .i32 0,.int .u8 24,.int .u8 0,.slice none 0 0,.string ⟨#[]⟩,.string ⟨#[]⟩,.bool false] 83)) qK qX ?_;simp only[Act.put,jZ,jX,jY];refine cR rfl (.tmp 21) (.tmp 24) rfl (hX4.below hB5) hL (jD _) HN.o.1 (.inl (fun e he=>by rw[jM.1 he];rfl)) (by have :=HN.o.2;have :=hX4.len;simp;omega) (jI hs4 hB5.size) rfl rfl ?_;intro u' w6 hx hg hu _;have HF:=Hd (yJ.app (HE2.o.trans HE1.o) HO2.o (HM1.o.trans HM2.o HX1.o) (fun b hb=>(HX2.o b hb).elim (HX1.o b) (fun h=>.inr (jI HM1.o.size h))) hX4 hB5 hg hx);clear hX4 hB5 hs4 hL hx hg hu
     simp only[Act.put,jZ,jX,jY]
     go_wp2
     go_ret
     exact HF.o
   · clear h1
     go_enter Tryz.func37,Tryz.ntmps37
     go_upto_region 8 with(first
      |(go_at_call 66;(with_reducible refine HEd.o.mono ?_);rintro e w2 ⟨u,rfl,h1,h2,h3⟩;have H1:=Hd h1;have H2:=Hd h2;have H3:=Hd h3;clear h1 h2 h3)
      |(go_at_call 65;(with_reducible refine(HPe.o _ _ H1.o H2.o H3.o).mono ?_);rintro e w3 ⟨u3,L,rfl,h2,h3⟩;obtain⟨v1,hO1,e1,hm1,hx1⟩:=h3.at_;have HX:=Hd h2;have HO1:=Hd hO1;have HE1:=Hd e1;have HM1:=Hd hm1;have HX1:=Hd hx1;clear h2 h3 hO1 e1 hm1 hx1)
      |(go_at_call 67;(with_reducible refine(HE.o _ _ _ HO1.o HE1.o _).mono ?_);rintro e w4 ⟨rfl,hr⟩;obtain⟨v2,hO2,e2,hm2,hx2⟩:=hr.at_;have HR:=Hd hr;have HO2:=Hd hO2;have HE2:=Hd e2;have HM2:=Hd hm2;have HX2:=Hd hx2;clear hr hO2 e2 hm2 hx2))
     refine wp_region_lit ?_;refine jB (u3) qK qK ?_;simp only[Act.put,jZ,jX,jY];refine jB (.int .u8 26) qK qK ?_;simp only[Act.put,jZ,jX,jY];refine jB (.agg #[.int .i64 1,.int .i32 0,.int .u8 26,.int .u8 0,.slice none 0 0,.string ⟨#[]⟩,.string ⟨#[]⟩,.bool false]) qK qX ?_;simp only[Act.put,jZ,jX,jY];have hX4:=HX.o.keepB HN.o.1 HM2.o (HX.o.apart HO1.o);have hB5:=jH (jU w4.heap.size w4) (.cells (zA (ex0 (sL 26))).toArray 83);have hs4:w.heap.size≤w4.heap.size:=jI HM1.o.size HM2.o.size;have hL:=ExsO.lit (w:=w4) (lo:=w.heap.size) hs4 (mD w4 w.heap.size (e:=sL 26) rfl);refine uC (.slice (some ⟨w4.heap.size,0,none⟩) 1 1) (w4.alloc (.cells #[.int .i64 1,.int .i32 0,.int .u8 26,.int .u8 0,.slice none 0 0,.string ⟨#[]⟩,.string ⟨#[]⟩,.bool false] 83)) qK qX ?_;simp only[Act.put,jZ,jX,jY];refine cR rfl (.tmp 21) (.tmp 24) rfl (hX4.below hB5) hL (jD _) HN.o.1 (.inl (fun e he=>by rw[jM.1 he];rfl)) (by have :=HN.o.2;have :=hX4.len;simp;omega) (jI hs4 hB5.size) rfl rfl ?_;intro u' w6 hx hg hu _;have HF:=Hd (yJ.app (HE2.o.trans HE1.o) HO2.o (HM1.o.trans HM2.o HX1.o) (fun b hb=>(HX2.o b hb).elim (HX1.o b) (fun h=>.inr (jI HM1.o.size h))) hX4 hB5 hg hx);clear hX4 hB5 hs4 hL hx hg hu
     simp only[Act.put,jZ,jX,jY]
     go_wp2
     go_ret
     exact HF.o
 rw[if_neg h1];have n1:¬c=24:=fun e=>h1 (.inl e);have n2:¬c=26:=fun e=>h1 (.inr e);clear h1
 by_cases h2:c=27
 · subst h2;rw[if_pos rfl];clear HS HPr HSt HHd n1 n2
   go_enter Tryz.func37,Tryz.ntmps37
   go_upto_region 10 with fail
   refine wp_region_lit ?_;refine jB (.pointer (some ⟨v.P,0,none⟩)) qK qK ?_;simp only[Act.put,jZ,jX,jY];refine jB (.pointer (some ⟨v.P,0,none⟩)) qK qK ?_;simp only[Act.put,jZ,jX,jY];refine jB (.pointer (some ⟨v.P,0,none⟩)) qK qX ?_;simp only[Act.put,jZ,jX,jY];refine jB (.pointer (some ⟨v.P,9,none⟩)) qK qX ?_;simp only[Act.put,jZ,jX,jY];refine pD rfl 66 #[.pointer (some ⟨v.P,9,none⟩)] qX HEd.o ?_;rintro u w2 ⟨h1,h2,h3⟩;simp only[Act.put,jZ,jX,jY];refine pD rfl 65 #[.pointer (some ⟨v.P,0,none⟩),u] qX (R:=fun u w'=>∃L,ExsO w' w.heap.size u L (fB p).2∧yS base w v (fB p).1 w') ((HPe.o w2 u h1 h2 h3).mono (fun e w' ⟨u,L,he,h1,h2⟩=>⟨u,he,L,h1,h2⟩)) ?_;rintro u3 w3 ⟨L,hX,hR⟩;obtain⟨v1,hO1,e1,hm1,hx1⟩:=hR.at_;have HX:=Hd hX;have HO1:=Hd hO1;have HE1:=Hd e1;have HM1:=Hd hm1;have HX1:=Hd hx1;clear h1 h2 h3 hX hR hO1 e1 hm1 hx1;simp only[Act.put,jZ,jX,jY];refine jB (.pointer (some ⟨v.P,0,none⟩)) qK qK ?_;simp only[Act.put,jZ,jX,jY];refine pD rfl 68 #[.pointer (some ⟨v.P,0,none⟩)] qX (R:=fun u w'=>∃L,ExsO w' w3.heap.size u L (mF (fB p).1)∧Below w3.heap.size w3 w') ((HEn.o w3 v1 _ HO1.o HE1.o HDn.o).mono (fun e w' ⟨u,L,he,h1,h2⟩=>⟨u,he,L,h1,h2⟩)) ?_;rintro u4 w4 ⟨L4,hX4,hb4⟩
   simp only[Act.put,jZ,jX,jY];have hlen:L4.length≤1:=by
    rw[hX4.len];unfold mF
    split
    · simp
    split<;>simp
   refine cR rfl (.tmp 33) (.tmp 35) rfl (HX.o.below hb4) hX4 HM1.o.size HN.o.1 (.inr (fun g hg=>(HX.o.own.lt g hg).2)) (by have :=HN.o.2;have :=HX.o.len;omega) (jI HM1.o.size hb4.size) rfl rfl ?_;intro u' w5 hx hg hu h6;have hm5:Mod u3.ownBlock.toList w3 w5:=(Mod.of_below hb4).trans (Mod.of_grown (X:=u3.ownBlock.toList) hg (fun g hg=>by simp[hg])) (fun g hg=>.inl hg);have HO5:=Hd (HO1.o.mod hm5 (fun b hb hx2=>HX.o.apart HO1.o b (jA.1 hx2) hb));have HM5:=Hd (HM1.o.trans hm5 (fun g hg=>.inr (HX.o.own.lt g (jA.1 hg)).1));have HX5:=Hd hx;have H65:=Hd h6;have HX3:=Hd (HX.o.bare HN.o.1);have HLt:=Hd (show ∀b∈zvX v1,b<w3.heap.size from fun b hb=>(HO1.o.lt b hb).2);have HOk:=Hd HX.o.ok;clear hX4 hb4 hlen hx hg hu h6 hm5 HX;simp only[Act.put,jZ,jX,jY]
   go_wp2_with(go_at_call 67;(with_reducible refine(HE.o _ _ _ HO5.o HE1.o _).mono ?_);rintro e w6 ⟨rfl,hr⟩;have HR:=Hd hr;clear hr)
   go_ret
   obtain⟨v2,e2,hO2,hm2,hx2⟩:=HR.o;refine⟨u',_,rfl,⟨kD HX5.o.own hm2 (HX5.o.apart HO5.o),HX5.o.es,fun x hx=>?_⟩,yS.trans ⟨HE1.o,HM5.o,HX1.o⟩ HR.o⟩;rcases kU.1 hx with hx|hx
   · exact(HOk.o x hx).bare (HX3.o x hx)
   · exact((H65.o x hx).mod hm2 (fun b hb=>.inl (HLt.o b hb))).weaken HM1.o.size
 rw[if_neg h2];clear HEd HPe HE HEn
 by_cases h3:p.state=0
 · rw[if_pos h3];rw[h3]at c8;clear HSt HHd h3
   go_enter Tryz.func37,Tryz.ntmps37
   go_wp2_with(first
    |(go_at_call 69;(with_reducible refine HS.o.mono ?_);rintro e w2 ⟨u,rfl,h1,h2,h3⟩;have H1:=Hd h1;have H2:=Hd h2;have H3:=Hd h3;clear h1 h2 h3)
    |(go_at_call 65;(with_reducible refine(HPr.o _ _ H1.o H2.o H3.o).mono ?_);rintro e w3 ⟨u3,L,rfl,h2,h3⟩;have HX:=Hd h2;have HR:=Hd h3;clear h2 h3))
   go_ret
   exact⟨u3,L,rfl,HX.o,HR.o⟩
 rw[if_neg h3];clear HS HPr
 by_cases h4:p.state=4∨p.state=5∨(p.state=3∧p.last≠0)
 · rw[if_pos h4];clear HHd;have h4I:p.state=4∨p.state=5∨p.state=3∧(p.last==0)=false:=by
    rcases h4 with h|h|⟨h,h'⟩
    · exact .inl h
    · exact .inr (.inl h)
    · exact .inr (.inr ⟨h,by simpa using h'⟩)
   clear h4 h3;rcases h4I with h4|h4|⟨h4,h5⟩
   all_goals
    rw[h4]at c8;clear h4
    go_enter Tryz.func37,Tryz.ntmps37
    go_wp2_with(go_at_call 70;(with_reducible refine HSt.o.mono ?_);rintro e w3 ⟨u3,L,rfl,h2,h3⟩;have HX:=Hd h2;have HR:=Hd h3;clear h2 h3)
    all_goals(go_ret;exact⟨u3,L,rfl,HX.o,HR.o⟩)
 · rw[if_neg h4];clear HSt;have h4I:p.state=3∧p.last=0∨¬p.state=3∧¬p.state=4∧¬p.state=5:=by omega
   clear h4;rcases h4I with⟨h4,h5⟩|⟨h4,h5,h6⟩
   · rw[h4]at c8;rw[h5]at c4;clear h4 h5 h3
     go_enter Tryz.func37,Tryz.ntmps37
     go_wp2_with(go_at_call 71;(with_reducible refine HHd.o.mono ?_);rintro e w3 ⟨u3,L,rfl,h2,h3⟩;have HX:=Hd h2;have HR:=Hd h3;clear h2 h3)
     all_goals(go_ret;exact⟨u3,L,rfl,HX.o,HR.o⟩)
   · have g3:(p.state==3)=false:=by simpa using h4
     have g4:(p.state==4)=false:=by simpa using h5
     have g5:(p.state==5)=false:=by simpa using h6
     go_enter Tryz.func37,Tryz.ntmps37
     go_wp2_with(go_at_call 71;(with_reducible refine HHd.o.mono ?_);rintro e w3 ⟨u3,L,rfl,h2,h3⟩;have HX:=Hd h2;have HR:=Hd h3;clear h2 h3)
     all_goals(go_ret;exact⟨u3,L,rfl,HX.o,HR.o⟩)
end
def VB(xs:List Int):Prop:=∀x∈xs,0≤x∧x<256
def lY(c:Int)(xs:List Int):List Int×List Int×Bool:=if c∈xs then(xs.takeWhile (· ≠c),(xs.dropWhile (· ≠c)).drop 1,true)else(xs,[],false)
def qKp(c:Int)(xs:List Int):Int:=if c∈xs then(xs.takeWhile (· ≠c)).length else -1
theorem Vv(xs:List Int):(strOfNums xs).data.toList=xs.map fun n=>UInt8.ofNat n.toNat:=rfl
theorem rE(xs:List Int):(strOfNums xs).size=xs.length:=by show(List.map _ xs).toArray.size=_;simp
theorem u8_eq{x:Int}(h:0≤x∧x<256)(c:UInt8):(UInt8.ofNat x.toNat==c)=decide (x=(c.toNat:Int)):=by
 by_cases e:x=(c.toNat:Int)
 · rw[decide_eq_true e,e];simp
 · rw[decide_eq_false e,beq_eq_false_iff_ne];intro h2;apply e;rw[←h2,UInt8.toNat_ofNat'];omega
theorem wP(c:UInt8):∀(xs:List Int),VB xs→Lib.indexByte (strOfNums xs).data.toList c=qKp c.toNat xs
 |[],_=>rfl
 |x::xs,h=>by
  have hx:=h x (List.mem_cons_self ..);have ih:=wP c xs (fun y hy=>h y (List.mem_cons_of_mem _ hy));rw[Vv]at ih ⊢;rw[List.map_cons];unfold Lib.indexByte
  by_cases e:x=(c.toNat:Int)
  · rw[u8_eq hx,decide_eq_true e,if_pos rfl];unfold qKp;subst e;rw[if_pos (List.mem_cons_self ..),List.takeWhile_cons_of_neg qV];rfl
  · rw[u8_eq hx,decide_eq_false e,if_neg qZ,ih];have e2:¬(c.toNat:Int)=x:=fun h=>e h.symm;unfold qKp
    by_cases hm:(c.toNat:Int)∈xs
    · rw[if_pos hm,if_pos (List.mem_cons_of_mem _ hm),List.takeWhile_cons_of_pos qZ9];have h1:(((xs.takeWhile (· ≠(c.toNat:Int))).length:Int)== -1)=false:=by rw[beq_eq_false_iff_ne];omega
      rw[h1,if_neg qZ];rfl
    · rw[if_neg hm,if_neg (fun h=>(kJ.1 h).elim e2 hm)];rfl
theorem Zp(s:ByteArray)(c:Int)(w:World):Calls jG 371 #[.string s,.int .u8 c] w fun e w'=>e=.returned (.int .i64 (Lib.indexByte s.data.toList c.toNat.toUInt8))∧w=w':=by
 go_enter Tryz.func371,Tryz.ntmps371
 go_wp2
 rw[run_callFunc_extern Tryz.func396 qQ qQ qQ (e:=Extern.BytealgIndexByte.indexByte) qQ,Lib.run_indexByteString];simp only[Result.andThen];rw[Oper.upon_value]
 go_wp2
 go_ret
 exact⟨rfl,rfl⟩
set_option maxHeartbeats 1600000 in
theorem YE(s:ByteArray)(c:UInt8)(w:World):Calls jG 388 #[.string s,.string ⟨#[c]⟩] w fun e w'=>e=.returned (.int .i64 (Lib.indexByte s.data.toList c))∧w=w':=by
 have HI:=Hd (fun(s:ByteArray) c w=>Zp s c w)
 go_enter Tryz.func388,Tryz.ntmps388
 go_wp2_with(go_at_call 371;refine(HI.o _ _ _).mono ?_;rintro e w' ⟨rfl,rfl⟩)
 · have h:([c]==s.toList)=true:=by assumption
   go_ret
   refine⟨?_,rfl⟩;have e:s.data.toList=[c]:=by rw[←Lib.toList_data];exact(beq_iff_eq.1 h).symm
   rw[e];simp[Lib.indexByte]
 · go_ret
   exact⟨rfl,rfl⟩
theorem wR(xs:List Int)(a b:Nat):(strOfNums xs).extract a b=strOfNums ((xs.drop a).take (b-a)):=by
 apply ByteArray.ext;rw[ByteArray.data_extract];apply Array.ext';show((List.map _ xs).toArray.extract a b).toList=List.map _ _;rw[List.extract_toArray,List.extract_eq_take_drop];simp[List.map_take,List.map_drop]
theorem KY{c:Int}:∀{xs:List Int},c∈xs→xs.take (xs.takeWhile (· ≠c)).length=xs.takeWhile (· ≠c)∧xs.drop ((xs.takeWhile (· ≠c)).length+1)=(xs.dropWhile (· ≠c)).drop 1∧(xs.takeWhile (· ≠c)).length<xs.length
 |x::xs,h=>by
  by_cases e:x=c
  · subst e;simp
  · have hm:c∈xs:=by rcases kJ.1 h with h|h;exact absurd h.symm e;exact h
    obtain⟨i1,i2,i3⟩:=KY hm;rw[List.takeWhile_cons_of_pos qZ9,List.dropWhile_cons_of_pos qZ9];refine⟨?_,?_,?_⟩
    · show List.take ((xs.takeWhile (· ≠c)).length+1) (x::xs)=_;rw[jS,i1]
    · show List.drop ((xs.takeWhile (· ≠c)).length+1+1) (x::xs)=_;rw[jL,i2]
    · show(xs.takeWhile (· ≠c)).length+1<xs.length+1;omega
def nA(c:Int)(xs:List Int)(w:World)(e:Ending)(w':World):Prop:=e=.returned (.tuple #[.string (strOfNums (lY c xs).1),.string (strOfNums (lY c xs).2.1),.bool (lY c xs).2.2])∧Below w.heap.size w w'
set_option maxHeartbeats 1600000 in
theorem qVc(c:UInt8)(xs:List Int)(hx:VB xs)(hz:xs.length≤1000000)(w:World):Calls jG 363 #[.string (strOfNums xs),.string ⟨#[c]⟩] w (nA c.toNat xs w):=by
 have HI:Hid (∀w,Calls jG 388 #[.string (strOfNums xs),.string ⟨#[c]⟩] w fun e w'=>e=.returned (.int .i64 (qKp c.toNat xs))∧w=w'):=Hd (fun w=>by rw[←wP c xs hx];exact YE _ c w);have hs:(strOfNums xs).size=xs.length:=rE xs;unfold nA lY;unfold qKp at HI
 by_cases hm:(c.toNat:Int)∈xs
 · rw[if_pos hm]at HI ⊢;obtain⟨e1,e2,e3⟩:=KY hm;have HE1:=Hd e1;have HE2:=Hd e2;generalize (xs.takeWhile (· ≠(c.toNat:Int))).length=k at HI HE1 HE2 e3;have w1:jE.wrap ((k:Int)+1)=(k:Int)+1:=jF _ qJ;have c1:(0:Int)≤(k:Int):=by omega
   have c2:(k:Int)≤((strOfNums xs).size:Int):=by omega
   have c3:(0:Int)≤(k:Int)+1:=by omega
   have c4:(k:Int)+1≤((strOfNums xs).size:Int):=by omega
   have mixed:jG.follows .mixedOrders=true:=by kernel_rfl
   clear hm e1 e2 hs e3
   go_enter Tryz.func363,Tryz.ntmps363
   go_wp2_with(go_at_call 388;(with_reducible refine(HI.o _).mono ?_);rintro e w' ⟨rfl,rfl⟩)
   go_region_o
   all_goals
    go_wp2
    go_ret3
    refine⟨?_,(jU _ _).drew⟩;have h1:strOfNums (xs.takeWhile (· ≠(c.toNat:Int)))=(strOfNums xs).extract 0 k:=by rw[wR,jO,Nat.sub_zero,HE1.o]
    have h2:strOfNums ((xs.dropWhile (· ≠(c.toNat:Int))).drop 1)=(strOfNums xs).extract (k+1) (strOfNums xs).size:=by rw[wR,HE2.o,rE,vY];rw[←HE2.o,List.length_drop];omega
    show _=Ending.returned (Value.tuple #[.string (strOfNums (xs.takeWhile (· ≠(c.toNat:Int)))),.string (strOfNums ((xs.dropWhile (· ≠(c.toNat:Int))).drop 1)),.bool true]);rw[h1,h2];rfl
 · rw[if_neg hm]at HI ⊢;clear hm
   go_enter Tryz.func363,Tryz.ntmps363
   go_wp2_with(go_at_call 388;(with_reducible refine(HI.o _).mono ?_);rintro e w' ⟨rfl,rfl⟩)
   go_ret3
   exact⟨rfl,jU _ _⟩
theorem cut_any(c:UInt8)(xs:List Int)(hx:VB xs)(hz:xs.length≤1000000)(w:World):Calls jG 307 #[.string (strOfNums xs),.string ⟨#[c]⟩] w (nA c.toNat xs w):=by
 have HC:=Hd (qVc c xs hx hz w);unfold nA at HC ⊢;generalize lY c.toNat xs=q at HC ⊢;obtain⟨q1,q2,q3⟩:=q
 go_enter Tryz.func307,Tryz.ntmps307
 go_wp2_with(go_at_call 363;(with_reducible refine HC.o.mono ?_);rintro e w' ⟨rfl,hb⟩)
 go_ret3
 exact⟨rfl,hb⟩
def Digs(xs:List Int):Prop:=∀x∈xs,48≤x∧x<58
def oG(xs:List Int):Int:=xs.foldl (fun n c=>min (n*10+(c-48)) 65535) 0
theorem UF(xs:List Int)(c:Int):oG (xs++[c])=min (oG xs*10+(c-48)) 65535:=by simp[oG]
theorem qVt:∀(xs:List Int) (a:Int),Digs xs→0≤a∧a≤65535→0≤xs.foldl (fun n c=>min (n*10+(c-48)) 65535) a∧xs.foldl (fun n c=>min (n*10+(c-48)) 65535) a≤65535
 |[],_,_,h=>h
 |c::xs,a,hd,h=>qVt xs _ (fun x hx=>hd x (List.mem_cons_of_mem _ hx)) (by have :=hd c (List.mem_cons_self ..);show 0≤min (a*10+(c-48)) 65535∧min (a*10+(c-48)) 65535≤65535;omega)
theorem qVu(xs:List Int)(h:Digs xs):0≤oG xs∧oG xs≤65535:=qVt xs 0 h qJ
theorem qJe{xs:List Int}{k:Nat}(hk:k<xs.length){a b:Int}(hx:a≤xs[k]∧xs[k]<b)(h0:0≤a:=by omega)(h1:b≤256:=by omega):(a≤xs[k]∧xs[k]<b)∧∀h:k<(strOfNums xs).size,(((((strOfNums xs)[k]'h).toNat:Nat):Int)=xs[k]):=⟨hx,fun h=>by
 have e:(strOfNums xs)[k]'h=UInt8.ofNat (xs[k]).toNat:=by
  show(strOfNums xs).data[k]=_;simp[strOfNums]
 rw[e,UInt8.toNat_ofNat'];omega⟩
theorem JL(xs:List Int):(strOfNums xs).toList.isEmpty=xs.isEmpty:=by
 rw[Lib.toList_data,Vv];cases xs<;>rfl
set_option maxHeartbeats 1600000 in
theorem YJ(xs:List Int)(hx:Digs xs)(hz:xs.length≤1000)(w:World):Calls jG 272 #[.string (strOfNums xs)] w fun e w'=>e=.returned (.int .i64 (xO xs))∧w=w':=by
 unfold xO
 by_cases h0:xs.length=0
 · rw[if_pos h0];obtain rfl:=List.eq_nil_of_length_eq_zero h0;have he:=JL [];simp only[List.isEmpty_nil]at he
   go_enter Tryz.func272,Tryz.ntmps272
   go_wp2
   go_ret
   exact⟨rfl,rfl⟩
 rw[if_neg h0];show Calls _ _ _ _ fun e w'=>e=.returned (.int .i64 (oG xs))∧w=w';have HX:=Hd hx;have hs:(strOfNums xs).size=xs.length:=rE xs;have he:(strOfNums xs).toList.isEmpty=false:=by rw[JL];cases xs with|nil=>exact absurd rfl h0|cons a l=>rfl
 have HA:=Hd (fun k (hk:k<xs.length)=>qJe hk (hx _ (List.getElem_mem hk)))
 go_enter Tryz.func272,Tryz.ntmps272
 go_wp2_with fail
 go_loopw [3,4] (fun s3 s4 wr=>∃k:Nat,s4=.int .i64 k∧k≤xs.length∧s3=.int .i64 (oG (xs.take k))∧wr=w) (fun _ s4 _=>xs.length-(intOf s4).toNat)
 case atStart=>exact⟨0,rfl,kM _,rfl,rfl⟩
 case round=>
  obtain⟨k,rfl,hk,rfl,rfl⟩:=hrel
  by_cases hlt:k<xs.length
  · obtain⟨h2,h3⟩:=HA.o k hlt;have h4:=qVu (xs.take k) (fun x hx=>HX.o x (List.mem_of_mem_take hx));have h5:oG (xs.take (k+1))=min (oG (xs.take k)*10+(xs[k]-48)) 65535:=by rw[kQ hlt,UF]
    have hwk:jE.wrap ((k:Int)+1)=(k:Int)+1:=jF _ qJ;generalize xs[k]=c at h2 h3 h5;have H5:=Hd h5;generalize oG (xs.take k)=n1 at h4 H5 ⊢;have hw1:jE.wrap (n1*10)=n1*10:=jF _ qJ;have hw2:IntKind.u8.wrap (c-48)=c-48:=IntWalk.u8_in _ qJ;have hw3:jE.wrap (c-48)=c-48:=jF _ qJ;have hw4:jE.wrap (n1*10+(c-48))=n1*10+(c-48):=jF _ qJ;have hltI:(k:Int)<(xs.length:Int):=by omega
    have H3:=Hd h3;clear h3 h5
    go_wp2
    refine⟨⟨k+1,rfl,hlt,?_,trivial⟩,by simp[intOf];omega⟩;rw[H5.o,H3.o]
    congr 1
    split<;>omega
  · have hltI:¬(k:Int)<(xs.length:Int):=by omega
    obtain rfl:k=xs.length:=by omega
    rw[List.take_length]
    go_wp2
    go_ret
    exact⟨rfl,rfl⟩
def Kr(w:World):Nat:=match w.heap.back? with|some (.stringIter _ p)=>p|_=>0
theorem sM(w:World)(s:ByteArray)(k:Nat):Kr (w.iter s k)=k:=by unfold Kr World.iter World.alloc;simp
theorem YH(c:Int)(hc:48≤c∧c<60)(w:World):Calls jG 337 #[.int .i32 c] w fun e w'=>e=.returned (.bool false)∧w=w':=by
 have h1:¬c<48:=by omega
 have h2:c≤57∨c=58∨c=59:=by omega
 rcases h2 with h2|rfl|rfl
 · have h2':¬57<c:=by omega
   go_enter Tryz.func337,Tryz.ntmps337
   go_wp2
   go_ret
   exact⟨rfl,rfl⟩
 · go_enter Tryz.func337,Tryz.ntmps337
   go_wp2
   go_ret
   exact⟨rfl,rfl⟩
 · go_enter Tryz.func337,Tryz.ntmps337
   go_wp2
   go_ret
   exact⟨rfl,rfl⟩
set_option maxHeartbeats 1600000 in
theorem JX(xs:List Int)(hx:∀x∈xs,48≤x∧x<60)(hz:xs.length≤1000)(w:World):Calls jG 377 #[.string (strOfNums xs),.func (.func 337) #[] #[],.bool true] w fun e w'=>e=.returned (.int .i64 (-1))∧Below w.heap.size w w':=by
 have HA:=Hd (fun k (hk:k<xs.length)=>qJe hk (hx _ (List.getElem_mem hk)));have HH:=Hd (fun c (hc:48≤c∧c<60) w=>YH c hc w);have hs:(strOfNums xs).size=xs.length:=rE xs
 go_enter Tryz.func377,Tryz.ntmps377
 go_wp2_with fail
 go_loopw [11] (fun _ wr=>∃k:Nat,k≤xs.length∧wr=w.iter (strOfNums xs) k) (fun _ wr=>xs.length-Kr wr)
 case atStart=>exact⟨0,kM _,rfl⟩
 case round=>
  obtain⟨k,hk,rfl⟩:=hrel
  by_cases hlt:k<xs.length
  · obtain⟨h2,h3⟩:=HA.o k hlt;have h4:=h3 qJ;have hnx:=fun ty=>run_next_ascii (P:=jG) w (strOfNums xs) k ty qJ qJ;generalize hq:(((strOfNums xs)[k]'qJ).toNat:Int)=q at hnx h4
    go_wp2_with(go_at_call 337;refine(HH.o _ ?_ _).mono ?_;rotate_left;rintro e w1 ⟨rfl,rfl⟩)
    · exact⟨⟨k+1,hlt,rfl⟩,by rw[sM,sM];omega⟩
    · exact h2
  · have hnx:=fun ty=>run_next_end (P:=jG) w (strOfNums xs) k ty qJ
    go_wp2
    go_ret
    exact⟨rfl,jH (jU _ _) _⟩
theorem J3(xs:List Int)(hx:∀x∈xs,48≤x∧x<60)(hz:xs.length≤1000)(w:World):Calls jG 268 #[.string (strOfNums xs)] w fun e w'=>e=.returned (.bool true)∧Below w.heap.size w w':=by
 have HI:=Hd (JX xs hx hz w);have HF:Hid (Calls jG 336 #[.string (strOfNums xs),.func (.func 337) #[] #[]] w fun e w'=>e=.returned (.int .i64 (-1))∧Below w.heap.size w w'):=Hd (by
  go_enter Tryz.func336,Tryz.ntmps336
  go_wp2_with(go_at_call 377;(with_reducible refine HI.o.mono ?_);rintro e w1 ⟨rfl,hb⟩)
  go_ret
  exact⟨rfl,hb⟩)
 go_enter Tryz.func268,Tryz.ntmps268
 go_wp2_with(go_at_call 336;(with_reducible refine HF.o.mono ?_);rintro e w1 ⟨rfl,hb⟩)
 go_ret
 exact⟨rfl,hb⟩
theorem VK(c:Int)(xs:List Int)(n:Nat):zJ c (n+1) xs=(lY c xs).1::(if(lY c xs).2.2 then zJ c n (lY c xs).2.1 else[]):=by
 unfold lY
 conv=>lhs;unfold zJ
 by_cases h:c∈xs
 · rw[if_pos h,if_pos h];rfl
 · rw[if_neg h,if_neg h];rfl
theorem qVd(c:Int)(xs:List Int):(∀x∈(lY c xs).1,x∈xs∧x≠c)∧(∀x∈(lY c xs).2.1,x∈xs)∧(lY c xs).1.length≤xs.length∧(lY c xs).2.1.length≤xs.length:=by
 unfold lY
 by_cases h:c∈xs
 · rw[if_pos h];refine⟨fun x hx=>⟨(List.takeWhile_sublist _).subset hx,?_⟩,fun x hx=>?_,(List.takeWhile_sublist _).length_le,?_⟩
   · have :∀(l:List Int),x∈l.takeWhile (· ≠c)→x≠c:=fun l=>by
      induction l with
      |nil=>intro h;cases h
      |cons y l ih=>
       intro h
       by_cases e:y=c
       · rw[List.takeWhile_cons_of_neg qZ9]at h;cases h
       · rw[List.takeWhile_cons_of_pos qZ9]at h;rcases kJ.1 h with rfl|h
         · exact e
         · exact ih h
     exact this xs hx
   · exact(List.dropWhile_sublist _).subset (List.mem_of_mem_drop hx)
   · rw[List.length_drop];exact jI (Nat.sub_le _ _) (List.dropWhile_sublist _).length_le
 · rw[if_neg h];exact⟨fun x hx=>⟨hx,fun e=>h (e▸hx)⟩,fun x hx=>absurd hx qV,jD _,kM _⟩
set_option maxHeartbeats 3200000 in
theorem Jy(f:FuncId)(cv:Value)(c:UInt8)(m:Nat)(hm:m≤1000)(xs:List Int)(hx:VB xs)(hz:xs.length≤1000)(I:List (List Int)→World→Prop)
 (hf:∀(args:Array Value) (w:World),(callFunc f args).run jG w=.ok (.enter f args) w)
 (hI:∀pre part W,I pre W→(∀x∈part,x∈xs∧x≠(c.toNat:Int))→part.length≤xs.length→pre.length<m→Calls jG f #[.string (strOfNums part),cv] W fun e W'=>e=.returned (.tuple #[])∧I (pre++[part]) W')
 (hb:∀pre W W',I pre W→Below W.heap.size W W'→I pre W') (w:World) (h0:I [] w):
 Calls jG 269 #[.string (strOfNums xs),.string ⟨#[c]⟩,.int .i64 m,.func (.func f) #[] #[cv]] w fun e w'=>e=.returned (.tuple #[])∧I (zJ c.toNat m xs) w':=by
 have HI:=Hd hI;have HB:=Hd hb;have HC:Hid (∀rest w,(∀x∈rest,x∈xs)→rest.length≤xs.length→Calls jG 307 #[.string (strOfNums rest),.string ⟨#[c]⟩] w (nA c.toNat rest w)):=Hd (fun rest w h1 h2=>cut_any c rest (fun x hr=>hx x (h1 x hr)) qJ w);have HZ:=Hd hz;have H0:=Hd h0;clear hI hb hx hz h0
 go_enter Tryz.func269,Tryz.ntmps269
 go_wp2_with fail
 go_loopw [0,8] (fun s0 s8 wr=>∃(k:Nat) (rest:List Int) (pre:List (List Int)),s8=.int .i64 k∧k≤m∧s0=.string (strOfNums rest)∧I pre wr∧pre.length=k∧zJ c.toNat m xs=pre++zJ c.toNat (m-k) rest∧(∀x∈rest,x∈xs)∧rest.length≤xs.length) (fun _ s8 _=>m-(intOf s8).toNat)
 case atStart=>exact⟨0,xs,[],rfl,kM _,rfl,H0.o,rfl,rfl,fun _ h=>h,jD _⟩
 case round=>
  obtain⟨k,rest,pre,rfl,hk,rfl,hI,hl,hP,hr,hrl⟩:=hrel
  by_cases hlt:k<m
  · have hltI:(k:Int)<(m:Int):=by omega
    have hwk:jE.wrap ((k:Int)+1)=(k:Int)+1:=jF _ qJ;have hP2:zJ c.toNat (m-k) rest=(lY c.toNat rest).1::(if(lY c.toNat rest).2.2 then zJ c.toNat (m-(k+1)) (lY c.toNat rest).2.1 else[]):=by
     rw[show m-k=(m-(k+1))+1 by omega];exact VK _ _ _
    obtain⟨q1,q2,q3,q4⟩:=qVd (c.toNat:Int) rest;have HCr:=Hd (HC.o rest wr hr hrl);unfold nA at HCr;rw[hP2]at hP;generalize lY (c.toNat:Int) rest=q at HCr q1 q2 q3 q4 hP;obtain⟨p1,p2,more⟩:=q;simp only at q1 q2 q3 q4 hP;have HCf:Hid (∀W,I pre W→Calls jG f #[.string (strOfNums p1),cv] W fun e W'=>e=.returned (.tuple #[])∧I (pre++[p1]) W'):=Hd (fun W hW=>HI.o pre p1 W hW (fun x hx=>⟨hr x (q1 x hx).1,(q1 x hx).2⟩) (jI q3 hrl) qJ);have hfc:=hf #[.string (strOfNums p1),cv];have HP:=Hd hP;have HIp:=Hd hI;have HQ:=Hd (kY (fun x hx=>hr x (q2 x hx)) (jI q4 hrl));clear hP hP2 hI q1 q2 q3 q4 hr hrl;cases more with
    |true=>
     go_wp2_with(first
      |(go_at_call 307;(with_reducible refine HCr.o.mono ?_);rintro e w1 ⟨rfl,hb⟩;have HI1:=Hd (HB.o _ _ _ HIp.o hb);clear hb)
      |((with_reducible refine(HCf.o _ HI1.o).mono ?_);rintro e w2 ⟨rfl,hi⟩;have HI2:=Hd hi;clear hi))
     go_roundw
     case rel=>exact⟨k+1,p2,pre++[p1],by go_num,by omega,rfl,HI2.o,by simp[hl],by rw[HP.o];simp,HQ.o.1,HQ.o.2⟩
     case measure=>simp[intOf];omega
    |false=>
     go_wp2_with(first
      |(go_at_call 307;(with_reducible refine HCr.o.mono ?_);rintro e w1 ⟨rfl,hb⟩;have HI1:=Hd (HB.o _ _ _ HIp.o hb);clear hb)
      |((with_reducible refine(HCf.o _ HI1.o).mono ?_);rintro e w2 ⟨rfl,hi⟩;have HI2:=Hd hi;clear hi))
     have h1:=HP.o;simp only[Bool.false_eq_true,if_false]at h1;exact bodyPost_ret (results_none rfl _ _ _) rfl ⟨rfl,by rw[h1];exact HI2.o⟩
  · have hltI:¬(k:Int)<(m:Int):=by omega
    obtain rfl:k=m:=by omega
    have h1:I (zJ c.toNat k xs) wr:=by rw[hP,Nat.sub_self];show I (pre++[]) wr;rw[List.append_nil];exact hI
    have H1:=Hd h1;clear hP h1
    go_wp2
    exact bodyPost_end (results_none rfl _ _ _) rfl ⟨rfl,H1.o⟩
theorem Z5:(jG.info? 3).map (fun i=>(i.zero,i.size,i.bytes))=some (some (.int .i64 0),1,8):=by kernel_rfl
theorem YT:(jG.info? 241).map (fun i=>(i.zero,i.size,i.bytes))=some (some (.slice none 0 0),1,24):=by kernel_rfl
structure LI(lb:Nat)(W0:World)(ns:List Int)(W:World):Prop where
 b:Below lb W0 W
 v:∃lv,W.heap[lb]? =some (.cells #[lv] 241 (0,0))∧W.ownsRow lb 3 1 lv ns.length (uM pO ns)
theorem LI.below{lb:Nat}{W0 W W':World}{ns:List Int}(h:LI lb W0 ns W)(hb:Below W.heap.size W W'):LI lb W0 ns W':=by
 obtain⟨lv,h1,h2⟩:=h.v;have hl:=jR h1;exact⟨h.b.trans (hb.mono (Nat.le_of_lt hl)),lv,(hb.block lb hl).trans h1,kD h2 (Mod.of_below (X:=[]) hb) (fun _ _ h=>by cases h)⟩
set_option maxHeartbeats 1600000 in
theorem ZU(lb:Nat)(W0 W:World)(ns part:List Int)(h:LI lb W0 ns W)(hd:Digs part)(hz:part.length≤1000)(hn:ns.length≤1000):Calls jG 271 #[.string (strOfNums part),.pointer (some ⟨lb,0,none⟩)] W fun e W'=>e=.returned (.tuple #[])∧LI lb W0 (ns++[xO part]) W':=by
 obtain⟨j0,hj,gz0,gz1,gz2⟩:=info_parts Z5;have HV:=Hd (fun w=>YJ part hd hz w);obtain⟨lv,h1,h2⟩:=h.v;obtain⟨A,cap,rfl⟩:=uT h2;have HB:=Hd h.b;have H1:=Hd h1;have H2:=Hd h2;have hl:=jR h1;have c0:=(at_ h1 0 _ rfl).1;have hne:∀g,(Value.slice A ns.length cap).ownBlock=some g→g≠lb:=fun g hg e=>by
  obtain⟨cur,hc⟩:=uR h2 hg;rw[e,h1,Option.some.injEq,Obj.cells.injEq]at hc;exact absurd hc.2.1 qZ
 have HN:=Hd hne;generalize xO part=n at HV ⊢;clear h h1 h2 hne hd hz
 go_enter Tryz.func271,Tryz.ntmps271
 go_upto_region 0 with fail
 refine gI 4 (fun w2=>Below W.heap.size W w2∧w2.cell? ⟨lb,0,none⟩=some (.slice A ns.length cap)) qQ qQ (fun w1 w2 hS hb=>⟨jW hS.1 hb,kZ hb hS.2⟩) ⟨(jU _ _).drew,c0⟩ ?_;refine AtN.go 0 ?_
 iterate 2 (refine AtC.take (o:=⟨_,_,_,_,_,_⟩) (v:=?_) qQ rfl qV qQ qQ ?_ ?_;rotate_left;(focus(first|exact uQ.skip qK|(refine uQ.val qK ?_;intro w' hS;obtain⟨_,_⟩:=hS;go_simp;first|done|with_reducible rfl)));simp only[Act.put,jZ,jX,jY])
 refine AtC.back ?_;refine AtN.take 2 (o:=⟨_,_,_,_,_,_⟩) (v:=.int .i64 n) qQ rfl qV qQ qQ (uQ.call1 272 #[.string (strOfNums part)] (.int .i64 n) qK qH (fun w' hS=>(HV.o w').mono (fun e w3 h=>⟨h.1,h.2▸jU _ _⟩))) ?_;simp only[Act.put,jZ,jX,jY];refine AtN.one 3 (o:=⟨_,_,_,_,_,_⟩) (fun v=>∃k,v=.slice (some ⟨k,0,none⟩) 1 1) (fun v w'=>∃k,v=.slice (some ⟨k,0,none⟩) 1 1∧w'.heap[k]? =some (.cells #[.int .i64 n] 3 (0,0))) qV qQ rfl (fun v w1 w2 ⟨k,hv,hk⟩ hb=>⟨k,hv,(hb.block k (jR hk)).trans hk⟩) (uQ.new _ _ qK (fun w' hS=>?_)) ?_
 · exact⟨.slice (some ⟨w'.heap.size,0,none⟩) 1 1,w'.alloc (.cells #[.int .i64 n] 3),by go_simp,⟨_,rfl⟩,⟨_,rfl,jT rfl⟩,jH (jU _ _) _⟩
 rintro v ⟨kb,rfl⟩;simp only[Act.put,jZ,jX,jY];refine AtN.done qQ (fun w' hS=>?_);obtain⟨⟨hb1,-⟩,kb',hvk,hkb⟩:=hS;simp only[Value.slice.injEq,Option.some.injEq,Addr.mk.injEq,and_true]at hvk;subst hvk;have HB1:=Hd hb1;have HKB:=Hd hkb;have H21:=Hd (kD H2.o (Mod.of_below (X:=[]) hb1) (fun _ _ h=>by cases h));have H11:=Hd ((hb1.block lb hl).trans H1.o);clear hb1 hkb c0;simp only[jL,jO];refine vG rfl (.tmp 3) (.tmp 6) 241 rfl lb 3 j0 _ 1 8 Tryz.underlying241 hj gz0 gz1 gz2 rfl qZ (.slice A ns.length cap) ns.length (uM pO ns) rfl H21.o ⟨kb,0,none⟩ 1 1 (pO n) rfl rfl ?_ (mL _) ?_ ?_ ?_ ?_
 all_goals first
  |omega
  |(simp only[maxLen];omega)
  |exact jI (Nat.le_of_lt hl) HB1.o.size
  |skip
 · intro j u hj;rw[vF,kP];exact(at_ HKB.o j u (by simpa[pO]using hj)).1
 · intro v' w3 ho hg hv';obtain⟨A4,c4,hv4⟩:=uT ho;subst hv4;have hlw:w3.heap[lb]? =_:=(hg.block lb (Nat.lt_of_lt_of_le hl HB1.o.size) (fun e=>HN.o lb e.symm rfl)).trans H11.o;obtain⟨d0,e0⟩:=at_ hlw 0 _ rfl;have HLW:=Hd hlw;have HO:=Hd ho;have HG:Hid (w'.grownBy w3 (Value.slice A ns.length cap).ownBlock):=Hd hg;have HV':Hid (∀g,(Value.slice A4 (ns.length+1) c4).ownBlock=some g→(Value.slice A ns.length cap).ownBlock=some g∨w'.heap.size≤g):=Hd hv';clear ho hg hv' hlw
   go_wp2
   refine bodyPost_end (results_none rfl _ _ _) rfl ⟨rfl,⟨?_,.slice A4 (ns.length+1) c4,?_,?_⟩⟩
   · have h3:Below lb W0 w':=HB.o.trans (HB1.o.mono (Nat.le_of_lt hl));exact(h3.grown HG.o (jI (Nat.le_of_lt hl) HB1.o.size) (fun k hk=>(kL.lt H2.o k hk).1)).setCell (p:=⟨lb,0,none⟩) (jD _) _
   · have :=vR (o:=0) (v:=.slice A4 (ns.length+1) c4) HLW.o;exact this
   · have h4:=kD HO.o ((Mod.refl [lb] w3).setCell (a:=⟨lb,0,none⟩) (.inl qV) (.slice A4 (ns.length+1) c4)) (fun g hg hx=>by
      rcases HV'.o g hg with h5|h5
      · exact HN.o g h5 (jM.1 hx)
      · have :=HB1.o.size;have :=jM.1 hx;omega)
     rw[jC,uI];exact h4
end Go.Proofs.YtaefcahblmopfaaGreatDoor
