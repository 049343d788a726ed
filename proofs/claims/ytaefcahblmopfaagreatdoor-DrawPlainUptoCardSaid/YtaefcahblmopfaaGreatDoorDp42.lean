/- DrawPlain, where what it reads is of bulk at most 1048576: the call returns true, and its arguments read behind it as they read before. Condition: the package-level variables that the row lists lie as the program's text lays them (tied). -/
import Derived.Test.YtaefcahblmopfaaGreatDoorDp38
import Derived.Test.YtaefcahblmopfaaGreatDoorDp39
import Derived.Test.YtaefcahblmopfaaGreatDoorDp40
import Derived.Test.YtaefcahblmopfaaGreatDoorDp41
import Derived.LaidMore
import Derived.Stop.Joined
import Derived.Stop.LaidErr
import Derived.Deep.DeepHandedRow
import Derived.Lib.LaidTab
set_option linter.unusedVariables false
set_option linter.unusedSimpArgs false
set_option maxRecDepth 100000
open Go.Lib renaming hid → Hd
namespace Go.Proofs.YtaefcahblmopfaaGreatDoor
open Go.ChangeShapes Go.WideShapes Go.ChangeAt Go.RowKit Go.Joins
theorem gPp:Tryz.prog.globalNamed "internal/strconv.uint64pow10" = some 4:=by kernel_rfl
theorem tPp:(Tryz.prog.globals[4]?).map (·.type) = some 364:=by kernel_rfl
theorem cPp:Tryz.prog.cellsOf 364 = 20:=by kernel_rfl
theorem cUp:Tryz.prog.cellsOf 206 = 1:=by kernel_rfl
theorem tabP_ofP {W:World} (h:laidMetH Tryz.prog Rows.drawPlainUptoRow.laid W):TabP W:=by
 rw [MakeChecks.laidMetH_plain _ _ _ (by kernel_rfl)] at h
 exact Lib.tabIs_of_head gPp tPp Tryz.underlying364 Tryz.underlying206 cUp cPp h.tail.tail
theorem witness_row_shaped {H:Type} {enc:TypeId × Value→H} {C:Checked} {os:Os} {f:FuncId} {fn:Func} {s:OpenSpec} {conds:List PathCond} {apart:Bool} {laid:List (String × DataW Unit)} (modest:Bool) (w0:World) (args:Array Value) (hos:w0.os = os)
 (hsh:(w0.forCall (fun _ _ => 0) ⟨#[],args,[]⟩).Shaped C.prog)
 (hok:Input.okWideB C.prog (w0.forCall (fun _ _ => 0) ⟨#[],args,[]⟩) f ⟨#[],args,[]⟩ = true)
 (hrow:s.preRow enc C.prog fn conds apart laid (w0.forCall (fun _ _ => 0) ⟨#[],args,[]⟩).memory args) :
 ∃ (w:World) (tape:Tape) (i:Input),w.os = os∧(w.forCall tape i).Shaped C.prog∧i.vars = []∧Input.okWide C.prog (w.forCall tape i) .any w.heap.size f i ∧
  s.preRow enc C.prog fn conds apart laid (w.forCall tape i).memory i.args∧({ modest:=modest }:Assume).holds C.prog (lone (Frame.enter C.prog f i.args .normal) [] (w.forCall tape i)) :=
 ⟨w0,fun _ _ => 0,⟨#[],args,[]⟩,hos,hsh,(Input.okWide_of_okWideB (base:=0) hok).1,(Input.okWide_of_okWideB hok).2,hrow,by
  simp only [Assume.holds]
  exact ⟨by simp,by simp,fun _ => Modest.zero,by simp,by simp⟩⟩
theorem reads_noneP (os:Os) {H:Type} (enc:TypeId × Value→H):∃ places,DataW.whole enc Tryz.prog ((World.laidAll Tryz.prog os Rows.drawPlainUptoRow.laid).forCall (fun _ _ => 0) ⟨#[],#[.slice none 0 0],[]⟩).memory Tryz.f5.params.toList Rows.drawPlainSpec.vars false #[Value.slice none 0 0].toList 8 = some ([.nil],[],places) :=
 ⟨[],by as_aux_lemma => kernel_rfl⟩
theorem drawPlain_lifted (os:Os) (started:os.Started) (H:Type) (enc:TypeId × Value→H) (F:Stop.Interp) :
 ReturnsInHanded {} Tryz.checked os 5 .any ((Rows.OpenSpec.upto Rows.drawPlainSpec).preRow enc Tryz.prog Tryz.f5 Rows.drawPlainUptoRow.domain false Rows.drawPlainUptoRow.laid) (((Rows.OpenSpec.upto Rows.drawPlainSpec).at F).post enc Tryz.prog Tryz.f5 false true false false):=by
 obtain ⟨places,hx⟩:=reads_noneP os enc
 refine returnsInHanded_of_row (C:=Tryz.checked) (s:=Rows.OpenSpec.upto Rows.drawPlainSpec) own started (by kernel_rfl) Tryz.func5
  (witness_row_shaped (enc:=enc) (C:=Tryz.checked) false (World.laidAll Tryz.prog os Rows.drawPlainUptoRow.laid) #[.slice none 0 0] (World.laidAll_os _ _ _) (shapedP os) (by as_aux_lemma => kernel_rfl)
    (OpenSpec.preRow_of_cond 8 hx (by kernel_rfl) (fun k hk => by cases hk;kernel_rfl) (by as_aux_lemma => kernel_rfl) (door_metP os _))) ?_
 intro W base args ds gs before hval0 hW _ hcond _ hL _ _
 have hval:∀ (j:Nat) t v,Tryz.f5.params[j]? = some t→args[j]? = some v→Value.okWide Tryz.prog W .any base t v:=hval0
 have hk:=hcond _ rfl
 have hTab:=tabP_ofP hL
 have hW':=hW
 obtain ⟨p,q,hA0,hV,rfl,hfz,hnd⟩:=hW
 have hA:DataW.TrodAll enc Tryz.prog W 0 (fun _ => true) true Tryz.f5.params.toList args.toList ds p:=hA0
 rw [Tryz.params5] at hA hval
 obtain ⟨v0,d0,rfl,rfl,h0⟩:=trodAll_one hA
 obtain ⟨rfl,rfl⟩:=trodVars_none hV
 have h0k:=h0
 obtain ⟨A,l,ca,rfl,hz,hl,hln,hb⟩:=open_rwsN (hval 0 46 v0 rfl rfl) h0
 have hbulk:Rows.uptoBulk d0 ≤ 1048576:=by
  have h:Rows.uptoBulkAll ([d0] ++ []) ≤ 1048576:=of_decide_eq_true hk
  simp only [List.append_nil,Rows.uptoBulkAll] at h
  omega
 clear hA0 hval0 hA hval h0 hk hcond
 refine (DrawPlain_walk A l ca W hl (by omega) (fun r hr => ⟨Nat.le_trans (hb r hr).2.2 hbulk,(hb r hr).2.1⟩) (fun r hr c hc => Nat.le_trans ((hb r hr).1 c hc) hbulk) hTab).mono fun e W' ⟨he,hb2⟩ => ?_
 subst he
 exact ⟨_,rfl,post_of_below hW' (fun _ _ _ => trodAll_mk1 (shut_bool Tryz.underlying4 true))
  (fun sp hsp => trodAll_mk1 (stays laidOut (by kernel_rfl) (of_decide_eq_true (by kernel_rfl)) h0k hb2 (fun x hx => hW'.lt x hx) (by simp;try (intros;simp [*])) hsp))
  (fun _ _ => rfl) (by simp) hb2 (ok_one (by kernel_rfl) rfl (okWide_bool_mk Tryz.underlying4 true))⟩
end Go.Proofs.YtaefcahblmopfaaGreatDoor
