/- ScreenNone, for every input: the call returns true, and its arguments read behind it as they read before; and its card. Condition: math/bits' table deBruijn64tab lies as the program's text lays it (tied). -/
import Derived.Test.YtjcpdcncfjkejaaGreatDoorSx08
import Derived.Test.YtjcpdcncfjkejaaGreatDoorSx39
set_option linter.unusedVariables false
set_option linter.unusedSimpArgs false
set_option maxRecDepth 100000
open Go.Lib renaming hid → Hd
open Go.Proofs.Tryz renaming prog → jG
namespace Go.Proofs.YtjcpdcncfjkejaaGreatDoor
open Go.ChangeShapes Go.WideShapes Go.ChangeAt Go.RowKit Go.Joins
theorem sL(os:Os)(started:os.Started)(H:Type)(enc:TypeId×Value→H):
 ReturnsInHanded {} Tryz.checked os 7 .any (fun w args=>(Rows.screenNoneSpec.pre enc jG Tryz.f7 [] false w args∧laidMetH jG fZ w)∧sizedMet enc jG Tryz.f7 (OpenSpec.ofChange Rows.screenNoneSpec) false w args)
  (Rows.screenNoneSpec.post enc jG Tryz.f7 false true false false):=by
 refine returnsInHanded_of_change_and (C:=Tryz.checked) (X:=fun w _=>laidMetH jG fZ w) (fun _ _ _ hh h=>h.of_heap hh) own started qQ Tryz.func7
  (ChangeSpec.witness_shaped (enc:=enc) (C:=Tryz.checked) (os:=os) (X:=fun w _=>laidMetH jG fZ w) false (World.doorLaid jG 14 os) #[.int .i64 0,.int .i64 0,.int .i64 0] 8 rfl (World.shaped_of_RefB qQ qQ) qQ qQ qQ (oF os _)) ?_
 intro W base args ds gs before hval0 hW _ _ hL _;have hval:∀(j:Nat) t v,Tryz.f7.params[j]? =some t→args[j]? =some v→Value.okWide jG W .any base t v:=hval0;have hW':=hW;obtain⟨p,q,hA0,hV,rfl,hfz,hnd⟩:=hW;have hA:DataW.TrodAll enc jG W 0 (fun _=>true) true Tryz.f7.params.toList args.toList ds p:=hA0;rw[Tryz.params7]at hA hval;obtain⟨v0,v1,v2,d0,d1,d2,p0,p1,p2,rfl,rfl,rfl,h0,h1,h2⟩:=trodAll_three hA;obtain⟨rfl,rfl⟩:=trodVars_none hV;have hTab:=sC hL;have h0k:=h0;obtain⟨a,rfl,-,-,hwf0⟩:=open_int Tryz.underlying3 (hval 0 3 v0 rfl rfl) h0;have h1k:=h1;obtain⟨b,rfl,-,-,hwf1⟩:=open_int Tryz.underlying3 (hval 1 3 v1 rfl rfl) h1;have h2k:=h2;obtain⟨c,rfl,-,-,hwf2⟩:=open_int Tryz.underlying3 (hval 2 3 v2 rfl rfl) h2;clear hA0 hval0 hA hval h0 h1 h2;refine(Jj a b c W).mono fun e W' ⟨he,hb⟩=>?_;subst he;exact⟨_,rfl,eJ hW' (fun _ _ _=>trodAll_mk1 (shut_bool Tryz.underlying4 true))
  (fun sp hsp=>trodAll_mk3 (fJ dN qQ (of_decide_eq_true qQ) h0k hb (fun x hx=>hW'.lt x hx) qS hsp) (fJ dN qQ (of_decide_eq_true qQ) h1k hb (fun x hx=>hW'.lt x hx) qS hsp) (fJ dN qQ (of_decide_eq_true qQ) h2k hb (fun x hx=>hW'.lt x hx) qS hsp))
  (fun _ _=>rfl) qV hb (ok_one qQ rfl (okWide_bool_mk Tryz.underlying4 true))⟩
theorem wQ:Rows.ScreenNoneSaid:=
 OpenClaim.holds_of_wide 7 Tryz.f7 rfl rfl rfl rfl rfl rfl rfl ⟨rfl,rfl,rfl,rfl,rfl⟩ rfl rfl rfl rfl rfl qQ Tryz.func7 qQ
  (of_decide_eq_true qQ) qD
  (fun os started H enc _=>sL os started H enc)
theorem screenNone_card:Rows.ScreenNoneCardSaid:=
 Claim7.holds_tied_plain_at .later [] [.data] true (true,"b0d5342d0257f62884e54d3b5535674ba3a46c98c013651b497374f15ed47f48") false
  wQ (fun _ h=>by cases h) qQ (fun _ h=>by cases h) screenNone_row_tie rfl ⟨rfl,rfl⟩ qQ rfl
  (fun f fn hf hfn=>by
    obtain rfl:f=7:=Option.some.inj ((show jG.funcNamed "marquee/marqueelaw14.ScreenNone"=some 7 by kernel_rfl).symm.trans hf) |>.symm;obtain rfl:fn=Tryz.f7:=(Option.some.inj (Tryz.func7.symm.trans hfn)).symm;exact⟨by kernel_rfl,fun j t ht=>by
     rw[Tryz.params7]at ht;have hm:t∈[3,3,3]:=by simpa using Array.mem_of_getElem? ht
     have hall:([3,3,3].all fun u=> !Tryz.prog.wantsStandIn u)=true:=by kernel_rfl
     exact(show jG.wantsStandIn t=false by simpa using List.all_eq_true.1 hall t hm)⟩)
  qQ
#print axioms screenNone_card
end Go.Proofs.YtjcpdcncfjkejaaGreatDoor
