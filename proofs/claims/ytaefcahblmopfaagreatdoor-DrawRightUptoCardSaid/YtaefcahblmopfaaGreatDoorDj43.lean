/- DrawRight, where what it reads is of bulk at most 1048576: the call returns true, and its arguments read behind it as they read before. Condition: the package-level variables that the row lists lie as the program's text lays them (tied). -/
import Derived.Test.YtaefcahblmopfaaGreatDoorDj39
import Derived.Test.YtaefcahblmopfaaGreatDoorDj40
import Derived.Test.YtaefcahblmopfaaGreatDoorDj41
import Derived.Test.YtaefcahblmopfaaGreatDoorDj42
import Derived.LaidMore
import Derived.Stop.Joined
import Derived.Stop.LaidErr
import Derived.Deep.DeepHandedRow
import Derived.Lib.LaidTab
set_option linter.unusedVariables false
set_option linter.unusedSimpArgs false
set_option maxRecDepth 100000
open Go.Proofs.Tryz renaming prog → jG
open Nat renaming le_trans → jI
namespace Go.Proofs.YtaefcahblmopfaaGreatDoor
open Go.ChangeShapes Go.WideShapes Go.ChangeAt Go.RowKit Go.Joins
theorem gPp:jG.globalNamed "internal/strconv.uint64pow10"=some 4:=by kernel_rfl
theorem tPp:(jG.globals[4]?).map (·.type)=some 364:=by kernel_rfl
theorem cPp:jG.cellsOf 364=20:=by kernel_rfl
theorem cUp:jG.cellsOf 206=1:=by kernel_rfl
theorem qQ9{W:World}(h:laidMetH jG Rows.drawRightUptoRow.laid W):fO W:=by
 rw[MakeChecks.laidMetH_plain _ _ _ qQ]at h;exact Lib.tabIs_of_head gPp tPp Tryz.underlying364 Tryz.underlying206 cUp cPp h.tail.tail
theorem oN{H:Type}{enc:TypeId×Value→H}{C:Checked}{os:Os}{f:FuncId}{fn:Func}{s:OpenSpec}{conds:List PathCond}{apart:Bool}{laid:List (String×DataW Unit)}(modest:Bool)(w0:World)(args:Array Value)(hos:w0.os=os)
 (hsh:(w0.forCall (fun _ _=>0) ⟨#[],args,[]⟩).Shaped C.prog)
 (hok:Input.okWideB C.prog (w0.forCall (fun _ _=>0) ⟨#[],args,[]⟩) f ⟨#[],args,[]⟩=true)
 (hrow:s.preRow enc C.prog fn conds apart laid (w0.forCall (fun _ _=>0) ⟨#[],args,[]⟩).memory args):
 ∃(w:World) (tape:Tape) (i:Input),w.os=os∧(w.forCall tape i).Shaped C.prog∧i.vars=[]∧Input.okWide C.prog (w.forCall tape i) .any w.heap.size f i∧
  s.preRow enc C.prog fn conds apart laid (w.forCall tape i).memory i.args∧({modest:=modest}:Assume).holds C.prog (lone (Frame.enter C.prog f i.args .normal) [] (w.forCall tape i)):=
 ⟨w0,fun _ _=>0,⟨#[],args,[]⟩,hos,hsh,(Input.okWide_of_okWideB (base:=0) hok).1,(Input.okWide_of_okWideB hok).2,hrow,by
  simp only[Assume.holds];exact⟨by simp,by simp,fun _=>Modest.zero,by simp,by simp⟩⟩
theorem Vt(os:Os){H:Type}(enc:TypeId×Value→H):∃places,DataW.whole enc jG ((World.laidAll jG os Rows.drawRightUptoRow.laid).forCall (fun _ _=>0) ⟨#[],#[.slice none 0 0],[]⟩).memory Tryz.f4.params.toList Rows.drawRightSpec.vars false #[Value.slice none 0 0].toList 8=some ([.nil],[],places):=
 ⟨[],by as_aux_lemma=>kernel_rfl⟩
theorem tI(os:Os)(started:os.Started)(H:Type)(enc:TypeId×Value→H)(F:Stop.Interp):
 ReturnsInHanded {} Tryz.checked os 4 .any ((Rows.OpenSpec.upto Rows.drawRightSpec).preRow enc jG Tryz.f4 Rows.drawRightUptoRow.domain false Rows.drawRightUptoRow.laid) (((Rows.OpenSpec.upto Rows.drawRightSpec).at F).post enc jG Tryz.f4 false true false false):=by
 obtain⟨places,hx⟩:=Vt os enc;refine returnsInHanded_of_row (C:=Tryz.checked) (s:=Rows.OpenSpec.upto Rows.drawRightSpec) own started qQ Tryz.func4
  (oN (enc:=enc) (C:=Tryz.checked) false (World.laidAll jG os Rows.drawRightUptoRow.laid) #[.slice none 0 0] (World.laidAll_os _ _ _) (shapedP os) qI
    (OpenSpec.preRow_of_cond 8 hx qQ (fun k hk=>by cases hk;kernel_rfl) qI (U4 os _))) ?_
 intro W base args ds gs before hval0 hW _ hcond _ hL _ _;have hval:∀(j:Nat) t v,Tryz.f4.params[j]? =some t→args[j]? =some v→Value.okWide jG W .any base t v:=hval0;have hk:=hcond _ rfl;have hTab:=qQ9 hL;have hW':=hW;obtain⟨p,q,hA0,hV,rfl,hfz,hnd⟩:=hW;have hA:DataW.TrodAll enc jG W 0 (fun _=>true) true Tryz.f4.params.toList args.toList ds p:=hA0;rw[Tryz.params4]at hA hval;obtain⟨v0,d0,rfl,rfl,h0⟩:=trodAll_one hA;obtain⟨rfl,rfl⟩:=trodVars_none hV;have h0k:=h0;obtain⟨A,l,ca,rfl,hz,hl,hln,hb⟩:=K4 (hval 0 46 v0 rfl rfl) h0;have hbulk:Rows.uptoBulk d0≤1048576:=by
  have h:Rows.uptoBulkAll ([d0]++[])≤1048576:=of_decide_eq_true hk;simp only[List.append_nil,Rows.uptoBulkAll]at h;omega
 clear hA0 hval0 hA hval h0 hk hcond;refine(Qr A l ca W hl qJ (fun r hr=>⟨jI (hb r hr).2.2 hbulk,(hb r hr).2.1⟩) (fun r hr c hc=>jI ((hb r hr).1 c hc).1 hbulk) (fun r hr c hc=>((hb r hr).1 c hc).2) hTab).mono fun e W' ⟨he,hb2⟩=>?_;subst he;exact⟨_,rfl,JZ hW' (fun _ _ _=>trodAll_mk1 (shut_bool Tryz.underlying4 true))
  (fun sp hsp=>trodAll_mk1 (Vg laidOut qQ (of_decide_eq_true qQ) h0k hb2 (fun x hx=>hW'.lt x hx) (by simp;try(intros;simp[*])) hsp))
  (fun _ _=>rfl) qV hb2 (ok_one qQ rfl (okWide_bool_mk Tryz.underlying4 true))⟩
end Go.Proofs.YtaefcahblmopfaaGreatDoor
