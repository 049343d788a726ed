/- ScreenKeeps, for every input: the call returns true, and its arguments read behind it as they read before; and its card. Condition: math/bits' table deBruijn64tab lies as the program's text lays it (tied). -/
import Derived.Test.YtjcpdcncfjkejaaGreatDoorSx08
import Derived.Test.YtjcpdcncfjkejaaGreatDoorSx28
import Derived.Test.YtjcpdcncfjkejaaGreatDoorSx31
set_option linter.unusedVariables false
set_option linter.unusedSimpArgs false
set_option maxRecDepth 100000
open Go.Lib renaming hid → Hd
open Go.Proofs.Tryz renaming prog → jG
namespace Go.Proofs.YtjcpdcncfjkejaaGreatDoor
open Go.ChangeShapes Go.WideShapes Go.ChangeAt Go.RowKit Go.Joins
theorem rI(os:Os)(started:os.Started)(H:Type)(enc:TypeId×Value→H):
 ReturnsInHanded {} Tryz.checked os 4 .any (fun w args=>(Rows.screenKeepsSpec.pre enc jG Tryz.f4 [] false w args∧laidMetH jG fZ w)∧sizedMet enc jG Tryz.f4 (OpenSpec.ofChange Rows.screenKeepsSpec) false w args)
  (Rows.screenKeepsSpec.post enc jG Tryz.f4 false true false false):=by
 refine returnsInHanded_of_change_and (C:=Tryz.checked) (X:=fun w _=>laidMetH jG fZ w) (fun _ _ _ hh h=>h.of_heap hh) own started qQ Tryz.func4
  (ChangeSpec.witness_shaped (enc:=enc) (C:=Tryz.checked) (os:=os) (X:=fun w _=>laidMetH jG fZ w) false (World.doorLaid jG 14 os) #[.agg #[.int .u8 0,.int .u8 0,.int .u8 0],.slice none 0 0,.slice none 0 0] 8 rfl (World.shaped_of_RefB qQ qQ) qQ qQ qQ (oF os _)) ?_
 intro W base args ds gs before hval0 hW _ _ hL _;have hval:∀(j:Nat) t v,Tryz.f4.params[j]? =some t→args[j]? =some v→Value.okWide jG W .any base t v:=hval0;have hW':=hW;obtain⟨p,q,hA0,hV,rfl,hfz,hnd⟩:=hW;have hA:DataW.TrodAll enc jG W 0 (fun _=>true) true Tryz.f4.params.toList args.toList ds p:=hA0;rw[Tryz.params4]at hA hval;obtain⟨v0,v1,v2,d0,d1,d2,p0,p1,p2,rfl,rfl,rfl,h0,h1,h2⟩:=trodAll_three hA;obtain⟨rfl,rfl⟩:=trodVars_none hV;have hTab:=sC hL;have h0k:=h0;obtain⟨c0_0,c0_1,c0_2,y0_0,y0_1,y0_2,m0,rfl,-,-,hy0_0,hy0_1,hy0_2⟩:=open_agg3 Tryz.underlying23 qQ aM (hval 0 23 v0 rfl rfl) h0;obtain⟨a,e0_0,-,hw0_0⟩:=DataW.trod_int Tryz.underlying5 hy0_0;simp only[List.cons.injEq,and_true]at e0_0;subst e0_0;obtain⟨b,e0_1,-,hw0_1⟩:=DataW.trod_int Tryz.underlying5 hy0_1;simp only[List.cons.injEq,and_true]at e0_1;subst e0_1;obtain⟨c,e0_2,-,hw0_2⟩:=DataW.trod_int Tryz.underlying5 hy0_2;simp only[List.cons.injEq,and_true]at e0_2;subst e0_2;have h1k:=h1;obtain⟨A,l,ca,rfl,hz,hl⟩:=iN (hval 1 24 v1 rfl rfl) h1;have h2k:=h2;obtain⟨A2,l2,ca2,rfl,hz2,hl2⟩:=iN (hval 2 24 v2 rfl rfl) h2;clear hA0 hval0 hA hval hy0_0 hy0_1 hy0_2 h0 h1 h2
 refine(wE a b c (cN hw0_0).1 (cN hw0_1).1 (cN hw0_2).1 A l ca A2 l2 ca2 W hz hl hz2 hl2 (aY hTab)).mono fun e W' ⟨he,hb⟩=>?_;subst he;exact⟨_,rfl,eJ hW' (fun _ _ _=>trodAll_mk1 (shut_bool Tryz.underlying4 true))
  (fun sp hsp=>trodAll_mk3 (fJ dN qQ (of_decide_eq_true qQ) h0k hb (fun x hx=>hW'.lt x hx) qS hsp) (fJ dN qQ (of_decide_eq_true qQ) h1k hb (fun x hx=>hW'.lt x hx) qS hsp) (fJ dN qQ (of_decide_eq_true qQ) h2k hb (fun x hx=>hW'.lt x hx) qS hsp))
  (fun _ _=>rfl) qV hb (ok_one qQ rfl (okWide_bool_mk Tryz.underlying4 true))⟩
theorem screenKeeps_holds:Rows.ScreenKeepsSaid:=
 OpenClaim.holds_of_wide 4 Tryz.f4 rfl rfl rfl rfl rfl rfl rfl ⟨rfl,rfl,rfl,rfl,rfl⟩ rfl rfl rfl rfl rfl qQ Tryz.func4 qQ
  (of_decide_eq_true qQ) qD
  (fun os started H enc _=>rI os started H enc)
theorem screenKeeps_card:Rows.ScreenKeepsCardSaid:=
 Claim7.holds_tied_plain_at .later [] [.data] true (true,"b0d5342d0257f62884e54d3b5535674ba3a46c98c013651b497374f15ed47f48") false
  screenKeeps_holds (fun _ h=>by cases h) qQ (fun _ h=>by cases h) screenKeeps_row_tie rfl ⟨rfl,rfl⟩ qQ rfl
  (fun f fn hf hfn=>by
    obtain rfl:f=4:=Option.some.inj ((show jG.funcNamed "marquee/marqueelaw14.ScreenKeeps"=some 4 by kernel_rfl).symm.trans hf) |>.symm;obtain rfl:fn=Tryz.f4:=(Option.some.inj (Tryz.func4.symm.trans hfn)).symm;exact⟨by kernel_rfl,fun j t ht=>by
     rw[Tryz.params4]at ht;have hm:t∈[23,24,24]:=by simpa using Array.mem_of_getElem? ht
     have hall:([23,24,24].all fun u=> !Tryz.prog.wantsStandIn u)=true:=by kernel_rfl
     exact(show jG.wantsStandIn t=false by simpa using List.all_eq_true.1 hall t hm)⟩)
  qQ
#print axioms screenKeeps_card
end Go.Proofs.YtjcpdcncfjkejaaGreatDoor
