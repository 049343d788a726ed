/- Joined by a tool of this claim out of smaller texts. Conditions: as stated. -/
import Derived.Test.YtaefcahblmopfaaGreatDoorDp02
import Derived.StillTail
import Derived.OwnWalk
import Derived.Lib.SmallJoins
set_option linter.unusedVariables false
set_option linter.unusedSimpArgs false
set_option maxRecDepth 100000
open Go.Lib renaming hid → Hd
namespace Go
section
variable {P:Program} {ops:Array Oper} {md:Region.Mode} {S:World→Prop}
def samePut (n:Nat) (dst:Option Tmp) (u v:Value):Prop:=∀ a:Act,a.tmps.size = n→a.put dst u = a.put dst v
theorem samePut.rfl' {n:Nat} {dst:Option Tmp} {v:Value}:samePut n dst v v:=fun _ _ => rfl
def upU (P:Program) (S:World→Prop) (n:Nat) (dst:Option Tmp) (v:Value):Result Next→Prop
 | .ok (.value u) w' => samePut n dst u v∧S w'
 | .ok .skip w' => samePut n dst undef v∧S w'
 | .ok (.enter f args) w' => Calls P f args w' fun e w'' => match e with
    | .returned u => samePut n dst u v∧S w''
    | _ => False
 | .ok (.row row args) w' => Rows P row args w' fun u w'' => samePut n dst u v∧S w''
 | _ => False
def StabU (P:Program) (ops:Array Oper) (S:World→Prop) (o:Oper) (v:Value) (a:Act):Prop :=
 (Region.wanted o (yielded ops a.tmps) = true∧∀ w,S w→upU P S a.tmps.size o.dst v ((execOp a.eval o).run P w)) ∨
 (Region.wanted o (yielded ops a.tmps) = false∧v = undef)
theorem StabU.of_same {o:Oper} {v:Value} {a a':Act} (hy:StabU P ops S o v a) (he:execOp a'.eval o = execOp a.eval o)
 (hw:Region.wanted o (yielded ops a'.tmps) = Region.wanted o (yielded ops a.tmps)) (hs:a'.tmps.size = a.tmps.size):StabU P ops S o v a':=by
 unfold StabU at *
 rw [he,hw,hs]
 exact hy
theorem Act.put_size (a:Act) (dst:Option Tmp) (v:Value):(a.put dst v).tmps.size = a.tmps.size:=by
 cases dst <;> simp [Act.put]
theorem StabU.wpOp {Q:Exit→Act→World→Prop} {i:Nat} {o:Oper} {v:Value} {a:Act} (hi:ops[i]? = some o) (hy:StabU P ops S o v a)
 {K:Act→World→Prop} {w:World} (hS:S w) (h:∀ w',S w'→K (a.put o.dst v) w'):wpOp P ops Q i K a w:=by
 unfold Go.wpOp
 simp only [hi]
 rcases hy with ⟨hw,hv⟩ | ⟨hw,rfl⟩
 · simp only [hw,if_true,Oper.wp]
   refine .inl ?_
   have hv:=hv w hS
   generalize (execOp a.eval o).run P w = r at *
   cases r with
   | ok n w' =>
     cases n <;> simp only [upU,Oper.upon] at hv ⊢
     case value u => rw [hv.1 a rfl];exact h _ hv.2
     case skip => rw [hv.1 a rfl];exact h _ hv.2
     case enter f args =>
      refine Calls.mono hv fun e w'' he => ?_
      cases e with
      | returned u => simp only at he ⊢;rw [he.1 a rfl];exact h _ he.2
      | panicked c => exact he.elim
      | outgrown => exact he.elim
     case row row args => exact Rows.mono hv fun u w'' he => (by rw [he.1 a rfl];exact h _ he.2)
   | halt x w' => exact hv.elim
 · simp only [hw,Bool.false_eq_true,if_false];exact h _ hS
def wpUL (P:Program) (md:Region.Mode) (ops:Array Oper) (S:World→Prop) (n:Nat) (L:Array Bool→Act→Prop):Nat→Array Bool→Act→Prop
 | 0,listed,a => L listed a
 | f + 1,listed,a =>
   Region.ready md ops listed ≠ []∧∀ i ∈ Region.ready md ops listed,i < n∧∃ o v,ops[i]? = some o∧StabU P ops S o v a∧wpUL P md ops S n L f (listed.setIfInBounds i true) (a.put o.dst v)
theorem wpAny_of_headU {n g:Nat} {L:Array Bool→Act→Prop} {Q':Exit→Act→World→Prop} (hL:∀ listed a,L listed a→∀ w,S w→wpAny P md ops Q' g listed a w) :
 ∀ (f:Nat) (listed:Array Bool) (a:Act),wpUL P md ops S n L f listed a→∀ w,S w→wpAny P md ops Q' (f + g) listed a w
 | 0,listed,a,h,w,hS => by rw [Nat.zero_add];exact hL _ _ h w hS
 | f + 1,listed,a,h,w,hS => by
   rw [show f + 1 + g = (f + g) + 1 by omega]
   refine ⟨fun h0 => absurd h0 h.1,fun i hi => ?_⟩
   obtain ⟨_,o,v,ho,hy,hr⟩:=h.2 i hi
   exact hy.wpOp ho hS (fun w' hS' => wpAny_of_headU hL f _ _ hr w' hS')
theorem wpUL_first {n i:Nat} {oi:Oper} {v:Value} {L:Array Bool→Act→Prop} (hi:ops[i]? = some oi) (hsel:∀ (j:Nat) (o:Oper) cs b,ops[j]? = some o→o.op ≠ .select cs b)
 (hs:Region.sinkB md ops n = true) (hc:Region.chainB md ops n = true) (hn:n < ops.size) (hin:i < n)
 (hdone:∀ listed a,L listed a→∀ j ∈ Region.ready md ops listed,n ≤ j) :
 ∀ (f:Nat) (listed:Array Bool) (a:Act),HeadInv md ops n listed →
  (∀ j oj,ops[j]? = some oj→j ≠ i→listed.getD j true = false→(∀ e ∈ oj.after,Region.binds md e = true→e.on ≠ i)→oi.apart ops oj = true) →
  i ∈ Region.ready md ops listed→StabU P ops S oi v a →
  wpUL P md ops S n L f (listed.setIfInBounds i true) (a.put oi.dst v)→wpUL P md ops S n L (f + 1) listed a:=by
 intro f
 induction f with
 | zero =>
   intro listed a inv _ hr hy H
   have hun:=(mem_ready.1 hr).1
   refine ⟨fun h => (by rw [h] at hr;cases hr),fun j hj => ?_⟩
   have hjn:j < n:=by
    rcases Nat.lt_or_ge j n with h | h
    · exact h
    · exact absurd hj (tail_waits hs hc hn inv _ i rfl hin hun j h)
   refine ⟨hjn,?_⟩
   by_cases hji:j = i
   · subst hji;exact ⟨oi,v,hi,hy,H⟩
   · have:=hdone _ _ H j (ready_mono hj hji)
     omega
 | succ f ih =>
   intro listed a inv hfree hr hy H
   have hun:=(mem_ready.1 hr).1
   refine ⟨fun h => (by rw [h] at hr;cases hr),fun j hj => ?_⟩
   have hjn:j < n:=by
    rcases Nat.lt_or_ge j n with h | h
    · exact h
    · exact absurd hj (tail_waits hs hc hn inv _ i rfl hin hun j h)
   refine ⟨hjn,?_⟩
   by_cases hji:j = i
   · subst hji;exact ⟨oi,v,hi,hy,H⟩
   · obtain ⟨_,oj',u,hoj',hyj,Hj⟩:=H.2 j (ready_mono hj hji)
     obtain ⟨hjun,oj,hoj,hall⟩:=mem_ready.1 hj
     obtain rfl:oj' = oj:=Option.some.inj (hoj'.symm.trans hoj)
     have hnot:∀ e ∈ oj'.after,Region.binds md e = true→e.on ≠ i:=fun e he hb heq => by
      have h1:=hall e he hb
      rw [heq,getD_both hun] at h1
      cases h1
     obtain ⟨h1,h2,h3⟩:=Oper.apart_spec (hfree j oj' hoj hji hjun hnot)
     have hsi:=fun cs b => hsel i oi cs b hi
     have hsj:=fun cs b => hsel j oj' cs b hoj
     have hyj':StabU P ops S oj' u a:=hyj.of_same (execOp_put oj' hsj a oi.dst v h1).symm (wanted_put oj' a oi.dst v h1).symm (Act.put_size _ _ _).symm
     have hyi':StabU P ops S oi v (a.put oj'.dst u):=hy.of_same (execOp_put oi hsi a oj'.dst u h3) (wanted_put oi a oj'.dst u h3) (Act.put_size _ _ _)
     have hfree':∀ k ok,ops[k]? = some ok→k ≠ i→(listed.setIfInBounds j true).getD k true = false →
      (∀ e ∈ ok.after,Region.binds md e = true→e.on ≠ i)→oi.apart ops ok = true:=fun k ok hk hki hun hno => by
      refine hfree k ok hk hki ?_ hno
      by_cases hjk:j = k
      · subst hjk;exact hjun
      · rw [getD_set_ne true hjk] at hun;exact hun
     refine ⟨oj',u,hoj,hyj',ih (listed.setIfInBounds j true) _ (inv.set hj hjn) hfree' (ready_mono hr (Ne.symm hji)) hyi' ?_⟩
     rw [Array.setIfInBounds_comm _ _ hji,← Act.put_comm a v u h2]
     exact Hj
def seqU (P:Program) (ops:Array Oper) (S:World→Prop) (Lq:Act→Prop):List Oper→Act→Prop
 | [],a => Lq a
 | o :: l,a => ∃ v,StabU P ops S o v a∧seqU P ops S Lq l (a.put o.dst v)
theorem wpUL_lex {n g:Nat} {Lq:Act→Prop} (hsel:Region.noSelect ops = true) (hs:Region.sinkB md ops n = true) (hc:Region.chainB md ops n = true) (hn:n < ops.size) :
 ∀ (l:List Oper) (k:Nat) (listed:Array Bool) (a:Act),(∀ j,j < l.length→l[j]? = ops[k + j]?)→k + l.length = n→HeadInv md ops n listed →
 Region.lexHead md ops g l.length k listed = true→seqU P ops S Lq l a →
 wpUL P md ops S n (fun listed' a' => Region.seqB md ops g n listed' = true∧Lq a') l.length listed a
 | [],k,listed,a,_,hk,_,hB,h => by
   have:k = n:=by simpa using hk
   subst this
   exact ⟨by simpa [Region.lexHead] using hB,h⟩
 | o :: l,k,listed,a,hl,hk,inv,hB,h => by
   have h0:ops[k]? = some o:=by simpa using (hl 0 (by simp)).symm
   simp only [List.length_cons,Region.lexHead,Bool.and_eq_true] at hB
   obtain ⟨⟨hr,hf⟩,hB'⟩:=hB
   have hkn:k < n:=by simp only [List.length_cons] at hk;omega
   have hr':k ∈ Region.ready md ops listed:=by simpa using hr
   obtain ⟨v,hy,hK⟩:=h
   exact wpUL_first h0 (Region.noSelect_spec hsel) hs hc hn hkn (fun listed' a' hL => seqB_ready hL.1) l.length listed a inv (Region.free_spec h0 hf) hr' hy
    (wpUL_lex hsel hs hc hn l (k + 1) _ _ (fun j hj => by have:=hl (j + 1) (by simp;omega);simpa [Nat.add_assoc,Nat.add_comm 1 j] using this) (by simp only [List.length_cons] at hk;omega) (inv.set hr' hkn) hB' hK)
theorem wp_region_u {id:Nat} {Q:Exit→Act→World→Prop} {a:Act} {w:World} {l:List Oper} (n:Nat) (S:World→Prop) (hm:P.follows .mixedOrders = true) (hB:Region.lexTailB .any l.toArray n = true)
 (hS:S w.drew) (h:seqU P l.toArray S (fun a' => ∀ w',S w'→wpList P l.toArray Q (l.drop n) a' w') (l.take n) a):(Code.region id l.toArray true).wp P Q a w:=by
 simp only [Region.lexTailB,Bool.and_eq_true,decide_eq_true_eq] at hB
 obtain ⟨⟨⟨⟨hsel,hn⟩,hs⟩,hc⟩,hlex⟩:=hB
 have htl:(l.take n).length = n:=by
  have hn':n < l.length:=by simpa using hn
  simp;omega
 have hdl:(l.drop n).length = l.toArray.size - n:=by simp
 have inv0:HeadInv .any l.toArray n (Array.replicate l.toArray.size false) :=
  ⟨by simp,fun j oj _ hl => (by rw [getD_replicate_false] at hl;cases hl),fun t _ ht => getD_in (by simpa using ht) (getD_replicate_false _ _)⟩
 have H:=wpUL_lex (md:=.any) (g:=l.toArray.size - n) hsel hs hc hn (l.take n) 0 _ a (fun j hj => by
  have hj':j < n:=by rw [htl] at hj;exact hj
  simp [hj']) (by simpa using htl) inv0 (by rw [htl];exact hlex) h
 refine wp_region_any hm ?_
 have:=wpAny_of_headU (Q':=Q) (g:=l.toArray.size - n) (fun listed a' hL w' hS' => by
  have:=wpAny_of_seq (md:=.any) (Q':=Q) (l.drop n) n listed a' w' (fun j => by simp [List.getElem?_drop]) (by rw [hdl];exact hL.1) (hL.2 w' hS')
  rwa [hdl] at this) _ _ _ H w.drew hS
 rw [htl,show n + (l.toArray.size - n) = l.toArray.size by simp at hn;simp;omega] at this
 exact this
variable {Lq:Act→Prop}
theorem seqU_nil {a:Act} (h:Lq a):seqU P ops S Lq [] a:=h
theorem seqU_skip {o:Oper} {l:List Oper} {a:Act} (hw:Region.wanted o (yielded ops a.tmps) = false) (hr:seqU P ops S Lq l (a.put o.dst undef)):seqU P ops S Lq (o :: l) a :=
 ⟨undef,.inr ⟨hw,rfl⟩,hr⟩
theorem seqU_val {o:Oper} {l:List Oper} {a:Act} (v:Value) (hw:Region.wanted o (yielded ops a.tmps) = true) (h:∀ w,S w→(execOp a.eval o).run P w = .ok (.value v) w)
 (hr:seqU P ops S Lq l (a.put o.dst v)):seqU P ops S Lq (o :: l) a :=
 ⟨v,.inl ⟨hw,fun w hS => by rw [h w hS];exact ⟨samePut.rfl',hS⟩⟩,hr⟩
theorem seqU_call {o:Oper} {l:List Oper} {a:Act} (f:FuncId) (args:Array Value) (v:Value) (hw:Region.wanted o (yielded ops a.tmps) = true) (h:∀ w,(execOp a.eval o).run P w = .ok (.enter f args) w)
 (hc:∀ w,S w→Calls P f args w fun e w' => e = .returned v∧S w')
 (hr:seqU P ops S Lq l (a.put o.dst v)):seqU P ops S Lq (o :: l) a :=
 ⟨v,.inl ⟨hw,fun w hS => by
  rw [h w]
  refine (hc w hS).mono fun e w' he => ?_
  rw [he.1]
  exact ⟨samePut.rfl',he.2⟩⟩,hr⟩
end
end Go
namespace Go.Proofs.YtaefcahblmopfaaGreatDoor
open Go.RowKit
theorem exec_load {P:Program} {ρ:Operand→Value} {op:Oper} {w:World} (ty:TypeId) (x:Operand) (ho:op.op = .load ty x) (b o:Nat) (hx:ρ x = .pointer (some ⟨b,o,none⟩)) (cs:List Value) (d:TypeDesc) (hc:w.rangeAt b o cs)
 (hu:P.underlying ty = some d) (hd:d.isRow = true) (hi:(P.info? ty).map (·.size) = some cs.length):(execOp ρ op).run P w = .ok (.value (.agg cs.toArray)) w:=by
 unfold execOp
 simp only [ho,hx,Instr.loadAt,Instr.sureAddr,Sem.run_bind,Sem.run_pure,Result.andThen_ok,run_loadVar_mid w b o ty cs d hc hu hd hi]
def MendPost (base g cap:Nat) (l:List Cl) (w:World) (e:Ending) (w':World):Prop:=e = .returned (.tuple #[])∧CrO w' base g cap l∧Mod [g] w w'
set_option maxHeartbeats 3200000 in
theorem cmend_any (base g cap:Nat) (l:List Cl) (w:World) (h:CrO w base g cap l) (hz:l.length ≤ 10000) :
 Calls Tryz.prog 172 #[.slice (some ⟨g,0,none⟩) l.length cap] w (MendPost base g cap (mendL l) w):=by
 have H:=Hd h
 clear h
 go_enter Tryz.func172,Tryz.ntmps172
 go_wp2_with fail
 go_loopw [2] (fun s2 wr => ∃ (i:Nat) (P:List Cl),s2 = .int .i64 i∧i ≤ l.length∧P.length = i∧mendL l = P ++ mendL (l.drop i)∧CrO wr base g cap (P ++ l.drop i)∧Mod [g] w wr) (fun s2 _ => l.length - (intOf s2).toNat)
 case atStart => exact ⟨0,[],rfl,Nat.zero_le _,rfl,rfl,H.out,Mod.refl _ _⟩
 case round =>
  obtain ⟨i,P,rfl,hi,hP,hm,hO,hM⟩:=hrel
  have HO:=Hd hO
  have HM:=Hd hM
  have HE:=Hd hm
  have HP:=Hd hP
  clear hO hM hm hP
  by_cases hlt:i < l.length
  rotate_left
  · have hge:¬ (i:Int) < (l.length:Int):=by omega
    go_wp2
    go_end0
    refine ⟨rfl,?_,HM.out⟩
    have h1:=HE.out
    have h2:=HO.out
    rw [List.drop_eq_nil_of_le (by omega)] at h1 h2
    rw [h1];exact h2
  · have hltI:(i:Int) < (l.length:Int):=by omega
    obtain ⟨c,hc⟩:∃ c,l[i]? = some c:=⟨l[i],List.getElem?_eq_getElem hlt⟩
    have hdr:l.drop i = c :: l.drop (i + 1):=by rw [List.drop_eq_getElem_cons hlt,(List.getElem?_eq_some_iff.1 hc).2]
    have hci:(P ++ l.drop i)[i]? = some c:=by rw [List.getElem?_append_right (by rw [HP.out];exact Nat.le_refl _),HP.out,Nat.sub_self,hdr];rfl
    have HR:=Hd (HO.out.range hci)
    have HDR:=Hd hdr
    have HC:=Hd hc
    have hgl:=HO.out.lt.2
    clear hc hdr hci
    go_upto_region 3 with fail
    refine wp_region_lit ?_
    refine wpList_valG (.slice (some ⟨g,0,none⟩) l.length cap) (by rfl) (by rfl) ?_
    simp only [Act.put,List.setIfInBounds_toArray,List.set_cons_zero,List.set_cons_succ]
    refine wpList_valG (.int .i64 (i:Int)) (by rfl) (by rfl) ?_
    simp only [Act.put,List.setIfInBounds_toArray,List.set_cons_zero,List.set_cons_succ]
    refine wpList_valG (.pointer (some ⟨g,i * 8,none⟩)) (by rfl) (by go_simp) ?_
    simp only [Act.put,List.setIfInBounds_toArray,List.set_cons_zero,List.set_cons_succ]
    refine wpList_load_mid rfl 65 (.tmp 12) rfl g (i * 8) rfl (encCl c) _ HR.out Tryz.underlying65 rfl info_cell ?_
    simp only [Act.put,List.setIfInBounds_toArray,List.set_cons_zero,List.set_cons_succ,encCl]
    obtain ⟨cr,cm,ch,c1,c2,c3,c4,c5⟩:=c
    by_cases h0:ch = 0
    · subst h0
      have HS:=Hd (mendL_zero (c:=⟨cr,cm,0,c1,c2,c3,c4,c5⟩) rfl (l.drop (i + 1)))
      have hb:Below wr.heap.size wr (wr.alloc (.cells (encCl ⟨cr,cm,0,c1,c2,c3,c4,c5⟩).toArray 65)):=below_allocs (Below.refl _ _) _
      have HB:=Hd hb
      clear hb
      go_wp2
      go_roundw
      case rel =>
       refine ⟨i + 1,P ++ [⟨cr,cm,0,c1,c2,c3,c4,c5⟩],by go_num,by omega,by simp [HP.out],?_,?_,HM.out.then_below HB.out⟩
       · rw [HE.out,HDR.out,HS.out];simp
       · have:=HO.out.below HB.out
         rw [HDR.out] at this
         rw [List.append_assoc]
         exact this
      case measure => simp [intOf];omega
    · have h0b:(ch == 0) = false:=beq_eq_false_iff_ne.2 h0
      have hw:IntKind.i64.wrap ((l.length:Int) - 1) = (l.length:Int) - 1:=IntWalk.i64_in _ (by omega)
      by_cases h3:ch = 3∧i + 1 = l.length
      · obtain ⟨rfl,hil⟩:=h3
        have hib:((i:Int) == (l.length:Int) - 1) = true:=by simp;omega
        have hib2:(l.length:Int) - 1 = (i:Int):=by omega
        have hnil:l.drop (i + 1) = []:=List.drop_eq_nil_of_le (by omega)
        have HS:=Hd (mendL_pad (c:=⟨cr,cm,3,c1,c2,c3,c4,c5⟩) rfl)
        have HNI:=Hd hnil
        have HB:=Hd (below_allocs (Below.refl wr.heap.size wr) (.cells (encCl ⟨cr,cm,3,c1,c2,c3,c4,c5⟩).toArray 65))
        clear hnil
        go_wp2
        go_roundw
        case rel =>
         refine ⟨i + 1,P ++ [⟨cr,cm,3,c1,c2,c3,c4,c5⟩],by go_num,by omega,by simp [HP.out],?_,?_,HM.out.then_below HB.out⟩
         · rw [HE.out,HDR.out,HNI.out,HS.out];simp [mendL]
         · have:=HO.out.below HB.out
           rw [HDR.out] at this
           rw [List.append_assoc]
           exact this
        case measure => simp [intOf];omega
      · have HEM:=Hd (fun w => cempty_any ⟨c1,c2,c3,c4,c5⟩ w)
        have h3b:ch = 3→((i:Int) == (l.length:Int) - 1) = false:=fun e => beq_eq_false_iff_ne.2 (by omega)
        by_cases h1:ch = 1
        · subst h1
          clear h0b h3b
          go_upto_region 6 with fail
          generalize hW:World.alloc _ _ = W
          have HBW:=Hd (show Below wr.heap.size wr W from by rw [← hW];exact below_allocs (Below.refl _ _) _)
          have HCW:=Hd (show W.heap[wr.heap.size]? = some (.cells (encCl ⟨cr,cm,1,c1,c2,c3,c4,c5⟩).toArray 65 (0,0)) from by rw [← hW];exact hp_new rfl)
          have HLW:=Hd (show wr.heap.size < W.heap.size from by rw [← hW];simp)
          clear hW
          have x2:=(whole_at HCW.out 2 _ rfl).1
          obtain ⟨j,hj⟩:∃ j,j = i + 1:=⟨_,rfl⟩
          have hjI:(i:Int) + 1 = (j:Int):=by omega
          have hwj:IntKind.i64.wrap (j:Int) = (j:Int):=IntWalk.i64_in _ (by omega)
          have HJ:=Hd hj
          by_cases hlast:i + 1 = l.length
          · have hjl:¬ (j:Int) < (l.length:Int):=by omega
            clear hj
            refine wp_region_u 28 (fun w' => Below W.heap.size W w'∧w'.cell? ⟨wr.heap.size,2,none⟩ = some (.int .i64 1)) (by kernel_rfl) (by kernel_rfl) ?_ ?_
            · exact ⟨(Below.refl _ _).drew,x2⟩
            simp only [List.take_succ_cons,List.take_zero,List.drop_succ_cons,List.drop_zero]
            repeat (first
             | (refine seqU_skip (by rfl) ?_;simp only [Act.put,List.setIfInBounds_toArray,List.set_cons_zero,List.set_cons_succ])
             | (refine seqU_val ?_ (by rfl) ?_ ?_;rotate_left;· (intro w' hS;obtain ⟨_,_⟩:=hS;go_simp;first | done | with_reducible rfl)
                simp only [Act.put,List.setIfInBounds_toArray,List.set_cons_zero,List.set_cons_succ]))
            refine seqU_nil (fun w' hS => ?_)
            have HB6:=Hd (below_tail HBW.out hS.1)
            have y3:=holda hS.1 (whole_at HCW.out 3 _ rfl).1
            have y4:=holda hS.1 (whole_at HCW.out 4 _ rfl).1
            have y5:=holda hS.1 (whole_at HCW.out 5 _ rfl).1
            have y6:=holda hS.1 (whole_at HCW.out 6 _ rfl).1
            have y7:=holda hS.1 (whole_at HCW.out 7 _ rfl).1
            clear hS x2
            go_wp2_with (first
             | (go_at_call 263;refine (HEM.out _).mono ?_;rintro e w1 ⟨rfl,hb1⟩;have HB7:=Hd (below_tail HB6.out hb1);clear hb1;have HTH:=Hd ((HO.out.below HB7.out).there (i:=i) (by rw [HDR.out,List.length_append,HP.out];simp)))
             | (refine wpList_store_mid (op:=⟨none,.store 65 (.tmp 19) (.tmp 18),_,_,_,_⟩) rfl 65 (.tmp 19) (.tmp 18) rfl g (i * 8) (encCl (emptyA ⟨c1,c2,c3,c4,c5⟩)).toArray rfl rfl HTH.out info_cell (cl_one (emptyA ⟨c1,c2,c3,c4,c5⟩)) ?_))
            obtain ⟨k1,k2⟩:=(HO.out.below HB7.out).set (i:=i) (by rw [HDR.out,List.length_append,HP.out];simp) (emptyA ⟨c1,c2,c3,c4,c5⟩)
            have K1:=Hd k1
            have K2:=Hd k2
            clear k1 k2
            have HS:=Hd (mendL_other (c:=⟨cr,cm,1,c1,c2,c3,c4,c5⟩) (l:=l.drop (i + 1)) h0 (fun hh => by simp at hh) (fun d m e => by have:=congrArg List.length e;rw [List.length_drop] at this;simp at this;have:=HJ.out;omega))
            go_roundw
            case rel =>
             refine ⟨i + 1,P ++ [emptyA ⟨c1,c2,c3,c4,c5⟩],by go_num,by omega,by simp [HP.out],?_,?_,(HM.out.then_below HB7.out).trans K2.out (fun k hk => .inl hk)⟩
             · rw [HE.out,HDR.out,HS.out,List.append_assoc];rfl
             · have hk:=K1.out
               rw [HDR.out,List.set_append_right _ _ (by rw [HP.out];exact Nat.le_refl _),HP.out,Nat.sub_self,List.set_cons_zero] at hk
               rw [List.append_assoc]
               exact hk
            case measure => simp [intOf];omega
          · have hjl:(j:Int) < (l.length:Int):=by omega
            obtain ⟨d,hd⟩:∃ d,l[j]? = some d:=⟨l[j],List.getElem?_eq_getElem (by omega)⟩
            have hdr2:l.drop (i + 1) = d :: l.drop (i + 2):=by rw [← hj,List.drop_eq_getElem_cons (by omega),(List.getElem?_eq_some_iff.1 hd).2,hj]
            have hdi:(P ++ l.drop i)[j]? = some d:=by rw [hj,List.getElem?_append_right (by rw [HP.out];omega),HP.out,HDR.out,show i + 1 - i = 1 by omega,hdr2];rfl
            have HRD:=Hd (range_below (HO.out.range hdi) HBW.out)
            have HDR2:=Hd hdr2
            have z2:W.cell? ⟨g,j * 8 + 2,none⟩ = some (.int .i64 d.half):=HRD.out 2 _ rfl
            have hjN:j < l.length:=by omega
            clear hj hd hdr2 hdi
            by_cases hd2:d.half = 2
            rotate_left
            · have hd2b:(d.half == 2) = false:=beq_eq_false_iff_ne.2 hd2
              have HD2:=Hd hd2
              refine wp_region_u 28 (fun w' => Below W.heap.size W w'∧w'.cell? ⟨wr.heap.size,2,none⟩ = some (.int .i64 1)∧w'.cell? ⟨g,j * 8 + 2,none⟩ = some (.int .i64 d.half)) (by kernel_rfl) (by kernel_rfl) ?_ ?_
              · exact ⟨(Below.refl _ _).drew,x2,z2⟩
              simp only [List.take_succ_cons,List.take_zero,List.drop_succ_cons,List.drop_zero]
              repeat (first
               | (refine seqU_skip (by rfl) ?_;simp only [Act.put,List.setIfInBounds_toArray,List.set_cons_zero,List.set_cons_succ])
               | (refine seqU_val ?_ (by rfl) ?_ ?_;rotate_left;· (intro w' hS;obtain ⟨_,_,_⟩:=hS;go_simp;first | done | with_reducible rfl)
                  simp only [Act.put,List.setIfInBounds_toArray,List.set_cons_zero,List.set_cons_succ]))
              refine seqU_nil (fun w' hS => ?_)
              clear z2
              have HB6:=Hd (below_tail HBW.out hS.1)
              have y3:=holda hS.1 (whole_at HCW.out 3 _ rfl).1
              have y4:=holda hS.1 (whole_at HCW.out 4 _ rfl).1
              have y5:=holda hS.1 (whole_at HCW.out 5 _ rfl).1
              have y6:=holda hS.1 (whole_at HCW.out 6 _ rfl).1
              have y7:=holda hS.1 (whole_at HCW.out 7 _ rfl).1
              clear hS x2
              go_wp2_with (first
               | (go_at_call 263;refine (HEM.out _).mono ?_;rintro e w1 ⟨rfl,hb1⟩;have HB7:=Hd (below_tail HB6.out hb1);clear hb1;have HTH:=Hd ((HO.out.below HB7.out).there (i:=i) (by rw [HDR.out,List.length_append,HP.out];simp)))
               | (refine wpList_store_mid (op:=⟨none,.store 65 (.tmp 19) (.tmp 18),_,_,_,_⟩) rfl 65 (.tmp 19) (.tmp 18) rfl g (i * 8) (encCl (emptyA ⟨c1,c2,c3,c4,c5⟩)).toArray rfl rfl HTH.out info_cell (cl_one (emptyA ⟨c1,c2,c3,c4,c5⟩)) ?_))
              obtain ⟨k1,k2⟩:=(HO.out.below HB7.out).set (i:=i) (by rw [HDR.out,List.length_append,HP.out];simp) (emptyA ⟨c1,c2,c3,c4,c5⟩)
              have K1:=Hd k1
              have K2:=Hd k2
              clear k1 k2
              have HS:=Hd (mendL_other (c:=⟨cr,cm,1,c1,c2,c3,c4,c5⟩) (l:=l.drop (i + 1)) h0 (fun hh => by simp at hh) (fun d' m e => by rw [HDR2.out] at e;injection e with e1 e2;subst e1;unfold pairB;simp [HD2.out]))
              go_roundw
              case rel =>
               refine ⟨i + 1,P ++ [emptyA ⟨c1,c2,c3,c4,c5⟩],by go_num,by omega,by simp [HP.out],?_,?_,(HM.out.then_below HB7.out).trans K2.out (fun k hk => .inl hk)⟩
               · rw [HE.out,HDR.out,HS.out,List.append_assoc];rfl
               · have hk:=K1.out
                 rw [HDR.out,List.set_append_right _ _ (by rw [HP.out];exact Nat.le_refl _),HP.out,Nat.sub_self,List.set_cons_zero] at hk
                 rw [List.append_assoc]
                 exact hk
              case measure => simp [intOf];omega
            · have HPA:=Hd (fun w' => cpair_any ⟨cr,cm,1,c1,c2,c3,c4,c5⟩ d w')
              have HD2:=Hd hd2
              rw [hd2] at z2
              have HRC:=Hd (range_new HCW.out)
              cases hp:pairH ⟨cr,cm,1,c1,c2,c3,c4,c5⟩ d with
              | false =>
                rw [hp] at HPA
                have HPF:=Hd hp
                clear hp hd2
                refine wp_region_u 28 (fun w' => Below W.heap.size W w'∧w'.cell? ⟨wr.heap.size,2,none⟩ = some (.int .i64 1)∧w'.cell? ⟨g,j * 8 + 2,none⟩ = some (.int .i64 2)∧w'.rangeAt wr.heap.size 0 (encCl ⟨cr,cm,1,c1,c2,c3,c4,c5⟩)∧w'.rangeAt g (j * 8) (encCl d)) (by kernel_rfl) (by kernel_rfl) ?_ ?_
                · exact ⟨(Below.refl _ _).drew,x2,z2,HRC.out,HRD.out⟩
                simp only [List.take_succ_cons,List.take_zero,List.drop_succ_cons,List.drop_zero]
                repeat (first
                 | (refine seqU_skip (by rfl) ?_;simp only [Act.put,List.setIfInBounds_toArray,List.set_cons_zero,List.set_cons_succ])
                 | (refine seqU_val (.agg (encCl ⟨cr,cm,1,c1,c2,c3,c4,c5⟩).toArray) (by rfl) (fun w' hS => exec_load 65 (.tmp 3) rfl wr.heap.size 0 rfl (encCl ⟨cr,cm,1,c1,c2,c3,c4,c5⟩) _ hS.2.2.2.1 Tryz.underlying65 rfl info_cell) ?_
                    simp only [Act.put,List.setIfInBounds_toArray,List.set_cons_zero,List.set_cons_succ])
                 | (refine seqU_val (.agg (encCl d).toArray) (by rfl) (fun w' hS => exec_load 65 (.tmp 61) rfl g (j * 8) rfl (encCl d) _ hS.2.2.2.2 Tryz.underlying65 rfl info_cell) ?_
                    simp only [Act.put,List.setIfInBounds_toArray,List.set_cons_zero,List.set_cons_succ])
                 | (refine seqU_call 262 #[.agg (encCl ⟨cr,cm,1,c1,c2,c3,c4,c5⟩).toArray,.agg (encCl d).toArray] (.bool false) (by rfl) ?_ (fun w' hS => (HPA.out w').mono fun e w2 ⟨he,hb⟩ => ⟨he,below_tail hS.1 hb,holda hb hS.2.1,holda hb hS.2.2.1,range_below hS.2.2.2.1 hb,range_below hS.2.2.2.2 hb⟩) ?_;· (intro w';go_simp;done)
                    simp only [Act.put,List.setIfInBounds_toArray,List.set_cons_zero,List.set_cons_succ])
                 | (refine seqU_val ?_ (by rfl) ?_ ?_;rotate_left;· (intro w' hS;obtain ⟨_,_,_,_,_⟩:=hS;go_simp;first | done | with_reducible rfl)
                    simp only [Act.put,List.setIfInBounds_toArray,List.set_cons_zero,List.set_cons_succ]))
                refine seqU_nil (fun w' hS => ?_)
                clear z2
                have HB6:=Hd (below_tail HBW.out hS.1)
                have y3:=holda hS.1 (whole_at HCW.out 3 _ rfl).1
                have y4:=holda hS.1 (whole_at HCW.out 4 _ rfl).1
                have y5:=holda hS.1 (whole_at HCW.out 5 _ rfl).1
                have y6:=holda hS.1 (whole_at HCW.out 6 _ rfl).1
                have y7:=holda hS.1 (whole_at HCW.out 7 _ rfl).1
                clear hS x2
                go_wp2_with (first
                 | (go_at_call 263;refine (HEM.out _).mono ?_;rintro e w1 ⟨rfl,hb1⟩;have HB7:=Hd (below_tail HB6.out hb1);clear hb1;have HTH:=Hd ((HO.out.below HB7.out).there (i:=i) (by rw [HDR.out,List.length_append,HP.out];simp)))
                 | (refine wpList_store_mid (op:=⟨none,.store 65 (.tmp 19) (.tmp 18),_,_,_,_⟩) rfl 65 (.tmp 19) (.tmp 18) rfl g (i * 8) (encCl (emptyA ⟨c1,c2,c3,c4,c5⟩)).toArray rfl rfl HTH.out info_cell (cl_one (emptyA ⟨c1,c2,c3,c4,c5⟩)) ?_))
                obtain ⟨k1,k2⟩:=(HO.out.below HB7.out).set (i:=i) (by rw [HDR.out,List.length_append,HP.out];simp) (emptyA ⟨c1,c2,c3,c4,c5⟩)
                have K1:=Hd k1
                have K2:=Hd k2
                clear k1 k2
                have HS:=Hd (mendL_other (c:=⟨cr,cm,1,c1,c2,c3,c4,c5⟩) (l:=l.drop (i + 1)) h0 (fun hh => by simp at hh) (fun d' m e => by rw [HDR2.out] at e;injection e with e1 e2;subst e1;rw [pairB_H,HPF.out];rfl))
                go_roundw
                case rel =>
                 refine ⟨i + 1,P ++ [emptyA ⟨c1,c2,c3,c4,c5⟩],by go_num,by omega,by simp [HP.out],?_,?_,(HM.out.then_below HB7.out).trans K2.out (fun k hk => .inl hk)⟩
                 · rw [HE.out,HDR.out,HS.out,List.append_assoc];rfl
                 · have hk:=K1.out
                   rw [HDR.out,List.set_append_right _ _ (by rw [HP.out];exact Nat.le_refl _),HP.out,Nat.sub_self,List.set_cons_zero] at hk
                   rw [List.append_assoc]
                   exact hk
                case measure => simp [intOf];omega
              | true =>
                rw [hp] at HPA
                have HPF:=Hd hp
                clear hp hd2
                refine wp_region_u 28 (fun w' => Below W.heap.size W w'∧w'.cell? ⟨wr.heap.size,2,none⟩ = some (.int .i64 1)∧w'.cell? ⟨g,j * 8 + 2,none⟩ = some (.int .i64 2)∧w'.rangeAt wr.heap.size 0 (encCl ⟨cr,cm,1,c1,c2,c3,c4,c5⟩)∧w'.rangeAt g (j * 8) (encCl d)) (by kernel_rfl) (by kernel_rfl) ?_ ?_
                · exact ⟨(Below.refl _ _).drew,x2,z2,HRC.out,HRD.out⟩
                simp only [List.take_succ_cons,List.take_zero,List.drop_succ_cons,List.drop_zero]
                repeat (first
                 | (refine seqU_skip (by rfl) ?_;simp only [Act.put,List.setIfInBounds_toArray,List.set_cons_zero,List.set_cons_succ])
                 | (refine seqU_val (.agg (encCl ⟨cr,cm,1,c1,c2,c3,c4,c5⟩).toArray) (by rfl) (fun w' hS => exec_load 65 (.tmp 3) rfl wr.heap.size 0 rfl (encCl ⟨cr,cm,1,c1,c2,c3,c4,c5⟩) _ hS.2.2.2.1 Tryz.underlying65 rfl info_cell) ?_
                    simp only [Act.put,List.setIfInBounds_toArray,List.set_cons_zero,List.set_cons_succ])
                 | (refine seqU_val (.agg (encCl d).toArray) (by rfl) (fun w' hS => exec_load 65 (.tmp 61) rfl g (j * 8) rfl (encCl d) _ hS.2.2.2.2 Tryz.underlying65 rfl info_cell) ?_
                    simp only [Act.put,List.setIfInBounds_toArray,List.set_cons_zero,List.set_cons_succ])
                 | (refine seqU_call 262 #[.agg (encCl ⟨cr,cm,1,c1,c2,c3,c4,c5⟩).toArray,.agg (encCl d).toArray] (.bool true) (by rfl) ?_ (fun w' hS => (HPA.out w').mono fun e w2 ⟨he,hb⟩ => ⟨he,below_tail hS.1 hb,holda hb hS.2.1,holda hb hS.2.2.1,range_below hS.2.2.2.1 hb,range_below hS.2.2.2.2 hb⟩) ?_;· (intro w';go_simp;done)
                    simp only [Act.put,List.setIfInBounds_toArray,List.set_cons_zero,List.set_cons_succ])
                 | (refine seqU_val ?_ (by rfl) ?_ ?_;rotate_left;· (intro w' hS;obtain ⟨_,_,_,_,_⟩:=hS;go_simp;first | done | with_reducible rfl)
                    simp only [Act.put,List.setIfInBounds_toArray,List.set_cons_zero,List.set_cons_succ]))
                refine seqU_nil (fun w' hS => ?_)
                have HB6:=Hd (below_tail HBW.out hS.1)
                clear hS x2 z2
                have HS:=Hd (mendL_pair (c:=⟨cr,cm,1,c1,c2,c3,c4,c5⟩) (d:=d) (by rw [pairB_H,HPF.out,HD2.out];rfl) (l.drop (i + 2)))
                go_wp2
                go_roundw
                case rel =>
                 refine ⟨i + 2,P ++ [⟨cr,cm,1,c1,c2,c3,c4,c5⟩,d],by have:=HJ.out;go_num,by have:=HJ.out;omega,by simp [HP.out],?_,?_,HM.out.then_below HB6.out⟩
                 · rw [HE.out,HDR.out,HDR2.out,HS.out];simp
                 · have hk:=HO.out.below HB6.out
                   rw [HDR.out,HDR2.out] at hk
                   rw [List.append_assoc]
                   exact hk
                case measure => have:=HJ.out;simp [intOf];omega
        · have h1b:(ch == 1) = false:=beq_eq_false_iff_ne.2 h1
          by_cases h33:ch = 3
          · subst h33
            have hib:=h3b rfl
            clear h3b h0b
            go_upto_region 6 with fail
            generalize hW:World.alloc _ _ = W
            have HBW:=Hd (show Below wr.heap.size wr W from by rw [← hW];exact below_allocs (Below.refl _ _) _)
            have HCW:=Hd (show W.heap[wr.heap.size]? = some (.cells (encCl ⟨cr,cm,3,c1,c2,c3,c4,c5⟩).toArray 65 (0,0)) from by rw [← hW];exact hp_new rfl)
            have HLW:=Hd (show wr.heap.size < W.heap.size from by rw [← hW];simp)
            clear hW
            have x2:=(whole_at HCW.out 2 _ rfl).1
            refine wp_region_u 28 (fun w' => Below W.heap.size W w'∧w'.cell? ⟨wr.heap.size,2,none⟩ = some (.int .i64 3)) (by kernel_rfl) (by kernel_rfl) ?_ ?_
            · exact ⟨(Below.refl _ _).drew,x2⟩
            simp only [List.take_succ_cons,List.take_zero,List.drop_succ_cons,List.drop_zero]
            repeat (first
             | (refine seqU_skip (by rfl) ?_;simp only [Act.put,List.setIfInBounds_toArray,List.set_cons_zero,List.set_cons_succ])
             | (refine seqU_val ?_ (by rfl) ?_ ?_;rotate_left;· (intro w' hS;obtain ⟨_,_⟩:=hS;go_simp;first | done | with_reducible rfl)
                simp only [Act.put,List.setIfInBounds_toArray,List.set_cons_zero,List.set_cons_succ]))
            refine seqU_nil (fun w' hS => ?_)
            have HB6:=Hd (below_tail HBW.out hS.1)
            have y3:=holda hS.1 (whole_at HCW.out 3 _ rfl).1
            have y4:=holda hS.1 (whole_at HCW.out 4 _ rfl).1
            have y5:=holda hS.1 (whole_at HCW.out 5 _ rfl).1
            have y6:=holda hS.1 (whole_at HCW.out 6 _ rfl).1
            have y7:=holda hS.1 (whole_at HCW.out 7 _ rfl).1
            clear hS x2
            go_wp2_with (first
             | (go_at_call 263;refine (HEM.out _).mono ?_;rintro e w1 ⟨rfl,hb1⟩;have HB7:=Hd (below_tail HB6.out hb1);clear hb1;have HTH:=Hd ((HO.out.below HB7.out).there (i:=i) (by rw [HDR.out,List.length_append,HP.out];simp)))
             | (refine wpList_store_mid (op:=⟨none,.store 65 (.tmp 19) (.tmp 18),_,_,_,_⟩) rfl 65 (.tmp 19) (.tmp 18) rfl g (i * 8) (encCl (emptyA ⟨c1,c2,c3,c4,c5⟩)).toArray rfl rfl HTH.out info_cell (cl_one (emptyA ⟨c1,c2,c3,c4,c5⟩)) ?_))
            obtain ⟨k1,k2⟩:=(HO.out.below HB7.out).set (i:=i) (by rw [HDR.out,List.length_append,HP.out];simp) (emptyA ⟨c1,c2,c3,c4,c5⟩)
            have K1:=Hd k1
            have K2:=Hd k2
            clear k1 k2
            have HS:=Hd (mendL_other (c:=⟨cr,cm,3,c1,c2,c3,c4,c5⟩) (l:=l.drop (i + 1)) (by simp) (fun hh => by have h5:=congrArg List.length hh.2;rw [List.length_drop,List.length_nil] at h5;have h6:(i:Int) = (l.length:Int) - 1:=(by omega);exact (beq_eq_false_iff_ne.1 hib) h6) (fun d m _ => rfl))
            go_roundw
            case rel =>
             refine ⟨i + 1,P ++ [emptyA ⟨c1,c2,c3,c4,c5⟩],by go_num,by omega,by simp [HP.out],?_,?_,(HM.out.then_below HB7.out).trans K2.out (fun k hk => .inl hk)⟩
             · rw [HE.out,HDR.out,HS.out,List.append_assoc];rfl
             · have hk:=K1.out
               rw [HDR.out,List.set_append_right _ _ (by rw [HP.out];exact Nat.le_refl _),HP.out,Nat.sub_self,List.set_cons_zero] at hk
               rw [List.append_assoc]
               exact hk
            case measure => simp [intOf];omega
          · have h3c:(ch == 3) = false:=beq_eq_false_iff_ne.2 h33
            clear h3b
            go_upto_region 6 with fail
            generalize hW:World.alloc _ _ = W
            have HBW:=Hd (show Below wr.heap.size wr W from by rw [← hW];exact below_allocs (Below.refl _ _) _)
            have HCW:=Hd (show W.heap[wr.heap.size]? = some (.cells (encCl ⟨cr,cm,ch,c1,c2,c3,c4,c5⟩).toArray 65 (0,0)) from by rw [← hW];exact hp_new rfl)
            have HLW:=Hd (show wr.heap.size < W.heap.size from by rw [← hW];simp)
            clear hW
            have x2:=(whole_at HCW.out 2 _ rfl).1
            refine wp_region_u 28 (fun w' => Below W.heap.size W w'∧w'.cell? ⟨wr.heap.size,2,none⟩ = some (.int .i64 ch)) (by kernel_rfl) (by kernel_rfl) ?_ ?_
            · exact ⟨(Below.refl _ _).drew,x2⟩
            simp only [List.take_succ_cons,List.take_zero,List.drop_succ_cons,List.drop_zero]
            repeat (first
             | (refine seqU_skip (by rfl) ?_;simp only [Act.put,List.setIfInBounds_toArray,List.set_cons_zero,List.set_cons_succ])
             | (refine seqU_val ?_ (by rfl) ?_ ?_;rotate_left;· (intro w' hS;obtain ⟨_,_⟩:=hS;go_simp;first | done | with_reducible rfl)
                simp only [Act.put,List.setIfInBounds_toArray,List.set_cons_zero,List.set_cons_succ]))
            refine seqU_nil (fun w' hS => ?_)
            have HB6:=Hd (below_tail HBW.out hS.1)
            have y3:=holda hS.1 (whole_at HCW.out 3 _ rfl).1
            have y4:=holda hS.1 (whole_at HCW.out 4 _ rfl).1
            have y5:=holda hS.1 (whole_at HCW.out 5 _ rfl).1
            have y6:=holda hS.1 (whole_at HCW.out 6 _ rfl).1
            have y7:=holda hS.1 (whole_at HCW.out 7 _ rfl).1
            clear hS x2
            go_wp2_with (first
             | (go_at_call 263;refine (HEM.out _).mono ?_;rintro e w1 ⟨rfl,hb1⟩;have HB7:=Hd (below_tail HB6.out hb1);clear hb1;have HTH:=Hd ((HO.out.below HB7.out).there (i:=i) (by rw [HDR.out,List.length_append,HP.out];simp)))
             | (refine wpList_store_mid (op:=⟨none,.store 65 (.tmp 19) (.tmp 18),_,_,_,_⟩) rfl 65 (.tmp 19) (.tmp 18) rfl g (i * 8) (encCl (emptyA ⟨c1,c2,c3,c4,c5⟩)).toArray rfl rfl HTH.out info_cell (cl_one (emptyA ⟨c1,c2,c3,c4,c5⟩)) ?_))
            obtain ⟨k1,k2⟩:=(HO.out.below HB7.out).set (i:=i) (by rw [HDR.out,List.length_append,HP.out];simp) (emptyA ⟨c1,c2,c3,c4,c5⟩)
            have K1:=Hd k1
            have K2:=Hd k2
            clear k1 k2
            have HS:=Hd (mendL_other (c:=⟨cr,cm,ch,c1,c2,c3,c4,c5⟩) (l:=l.drop (i + 1)) h0 (fun hh => h33 hh.1) (fun d m _ => by unfold pairB;simp [h1]))
            go_roundw
            case rel =>
             refine ⟨i + 1,P ++ [emptyA ⟨c1,c2,c3,c4,c5⟩],by go_num,by omega,by simp [HP.out],?_,?_,(HM.out.then_below HB7.out).trans K2.out (fun k hk => .inl hk)⟩
             · rw [HE.out,HDR.out,HS.out,List.append_assoc];rfl
             · have hk:=K1.out
               rw [HDR.out,List.set_append_right _ _ (by rw [HP.out];exact Nat.le_refl _),HP.out,Nat.sub_self,List.set_cons_zero] at hk
               rw [List.append_assoc]
               exact hk
            case measure => simp [intOf];omega
theorem info_cellz:(Tryz.prog.info? 65).map (fun i => (i.zero,i.size,i.bytes)) = some (some (.agg #[.int .i32 0,.string ByteArray.empty,.int .i64 0,.int .i64 0,.int .i64 0,.int .i64 0,.int .i64 0,.int .i64 0]),8,72):=by kernel_rfl
def WithPost (l:List Cl) (w:World) (e:Ending) (w':World):Prop:=∃ g cap,e = .returned (.slice (some ⟨g,0,none⟩) l.length cap)∧CrO w' w.heap.size g cap l∧Below w.heap.size w w'
set_option maxHeartbeats 3200000 in
theorem cwith_any (A:Option Addr) (l:List Cl) (ca:Nat) (f:FuncId) (capt:Array Value) (F:List Cl→List Cl) (w:World) (hl:GrAt encCl 8 w A l) (h0:0 < l.length) (hz:l.length ≤ 10000) (hF:(F (mendL l)).length = l.length) (hf:∀ (args:Array Value) (w:World),(callFunc f args).run Tryz.prog w = .ok (.enter f args) w)
 (hdo:∀ g cap w',CrO w' w.heap.size g cap (mendL l)→Below w.heap.size w w'→Calls Tryz.prog f (#[.slice (some ⟨g,0,none⟩) l.length cap] ++ capt) w' (MendPost w.heap.size g cap (F (mendL l)) w')) :
 Calls Tryz.prog 104 #[.slice A l.length ca,.func (.func f) #[] capt] w (WithPost (mendL (F (mendL l))) w):=by
 obtain ⟨j0,hj,gz0,gz1,gz2⟩:=info_parts info_cellz
 obtain ⟨b,off,rfl,-⟩:=hl h0
 have HN:=Hd (hl.news encCl_len)
 have HFL:=Hd (flat_len encCl_len l)
 have HDO:=Hd hdo
 clear hl hdo
 go_enter Tryz.func104,Tryz.ntmps104
 go_upto_region 1 with fail
 refine wp_region_lit ?_
 refine wpList_valG (.slice (some ⟨b,off,none⟩) l.length ca) (by rfl) (by rfl) ?_
 simp only [Act.put,List.setIfInBounds_toArray,List.set_cons_zero,List.set_cons_succ]
 refine wpList_append_own _ rfl (.const (.slice none 0 0)) (.tmp 6) _ rfl w.heap.size 65 j0 (.agg #[.int .i32 0,.string ByteArray.empty,.int .i64 0,.int .i64 0,.int .i64 0,.int .i64 0,.int .i64 0,.int .i64 0]) 8 72 Tryz.underlying50 hj gz0 gz1 gz2 rfl (by decide) _ _ _ rfl (World.ownsRow_nil _ _ _ _) ⟨b,off,none⟩ l.length ca (flat encCl l) rfl HFL.out HN.out (flat_one encCl_one l) (by simp only [maxLen];omega) (by omega) (by simp <;> omega) ?_
 intro v1 w1 hown1 hg1 _
 rw [Nat.zero_add] at hown1
 obtain ⟨g,cap,hv⟩:=Go.Joins.ownsRow_form hown1 (by omega)
 subst hv
 have hB1:Below w.heap.size w w1:=(Below.refl _ _).grown hg1 (Nat.le_refl _) (fun k hk => by cases hk)
 have C1:CrO w1 w.heap.size g cap l:=by unfold CrO;simpa using hown1
 have HB1:=Hd hB1
 have HM1:=Hd (cmend_any w.heap.size g cap l w1 C1 hz)
 have HM2:Hid (∀ w',CrO w' w.heap.size g cap (F (mendL l))→Calls Tryz.prog 172 #[.slice (some ⟨g,0,none⟩) l.length cap] w' (MendPost w.heap.size g cap (mendL (F (mendL l))) w')):=Hd (fun w' h => by
  have:=cmend_any w.heap.size g cap (F (mendL l)) w' h (by rw [hF];exact hz)
  rwa [hF] at this)
 have hgb:=C1.lt
 clear hown1 hg1 hB1 C1
 go_wp2_with (first
  | (go_at_call 172;first
      | (have hpv:=HC3.out;clear hpv;refine (HM2.out _ HC3.out).mono ?_;rintro e w4 ⟨rfl,hc4,hm4⟩;have HC4:=Hd hc4;have HB4:=Hd (HB3.out.trans (hm4.below (B:=w.heap.size) (fun x hx => by rw [List.mem_singleton.1 hx];exact hgb.1) HB3.out.size));clear hc4 hm4)
      | (refine HM1.out.mono ?_;rintro e w2 ⟨rfl,hc2,hm2⟩;have HC2:=Hd hc2;have HB2:=Hd (HB1.out.trans (hm2.below (B:=w.heap.size) (fun x hx => by rw [List.mem_singleton.1 hx];exact hgb.1) HB1.out.size));clear hc2 hm2))
  | (refine (HDO.out g cap _ HC2.out HB2.out).mono ?_;rintro e w3 ⟨rfl,hc3,hm3⟩;have HC3:=Hd hc3;have HB3:=Hd (HB2.out.trans (hm3.below (B:=w.heap.size) (fun x hx => by rw [List.mem_singleton.1 hx];exact hgb.1) HB2.out.size));clear hc3 hm3))
 go_ret
 exact ⟨g,cap,by rw [mendL_len,hF];rfl,HC4.out,HB4.out⟩
end Go.Proofs.YtaefcahblmopfaaGreatDoor
