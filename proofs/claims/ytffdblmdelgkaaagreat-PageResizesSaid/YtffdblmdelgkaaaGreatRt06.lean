/- Joined by a tool of this claim out of smaller texts. Conditions: as stated. -/
import Derived.Test.YtffdblmdelgkaaaGreatRt05
import Derived.Deep.LoopGhost
import Derived.Laws.BytesArg
import Derived.Laws.BitsAllLaws
import Derived.Lib.SmallJoins
set_option linter.unusedVariables false
set_option linter.unusedSimpArgs false
set_option maxRecDepth 100000
open Go.Lib renaming hid → Hd
namespace Go.Proofs.YtffdblmdelgkaaaGreat
open Go.RowKit
def RTabPost (l:List (Int × Int)) (w:World) (e:Ending) (w':World):Prop:=∃ g,e = .returned (.slice (some ⟨g,0,none⟩) (l.length * 2) (l.length * 2))∧GrAt encPr 2 w' (some ⟨g,0,none⟩) l∧Below w.heap.size w w'
set_option maxHeartbeats 1600000 in
theorem rmarks_any (w:World):Calls Tryz.prog 119 #[] w (RTabPost marksT w):=by
 go_enter Tryz.func119,Tryz.ntmps119
 go_wp2
 go_ret
 exact ⟨w.heap.size,rfl,gr_lit encPr_len (l:=marksT) (hp_new rfl),below_allocs (Below.refl _ _) _⟩
set_option maxHeartbeats 1600000 in
theorem rwides_any (w:World):Calls Tryz.prog 120 #[] w (RTabPost widesT w):=by
 go_enter Tryz.func120,Tryz.ntmps120
 go_wp2
 go_ret
 exact ⟨w.heap.size,rfl,gr_lit encPr_len (l:=widesT) (hp_new rfl),below_allocs (Below.refl _ _) _⟩
set_option maxHeartbeats 3200000 in
theorem rin_any (r:Int) (a:Nat) (l:List (Int × Int)) (w:World) (hl:GrAt encPr 2 w (some ⟨a,0,none⟩) l) (hz:l.length ≤ 1000) :
 Calls Tryz.prog 118 #[.slice (some ⟨a,0,none⟩) (l.length * 2) (l.length * 2),.int .i32 r] w fun e w' => e = .returned (.bool (amongB l r))∧w = w':=by
 obtain ⟨L2,hL2⟩:∃ L2,l.length * 2 = L2:=⟨_,rfl⟩
 rw [hL2]
 have HL:=Hd hl
 have HL2:=Hd hL2
 clear hl hL2
 go_enter Tryz.func118,Tryz.ntmps118
 go_wp2_with fail
 go_loopw [5] (fun s5 wr => ∃ i j:Nat,s5 = .int .i64 j∧j = i * 2∧i ≤ l.length∧amongB (l.take i) r = false∧wr = w) (fun s5 _ => L2 - (intOf s5).toNat)
 case atStart => exact ⟨0,0,rfl,rfl,Nat.zero_le _,rfl,rfl⟩
 case round =>
  obtain ⟨i,j,rfl,hij,hi,hf,rfl⟩:=hrel
  have HIJ:=Hd hij
  have HF:=Hd hf
  clear hf
  by_cases hlt:i < l.length
  rotate_left
  · have hge:¬ (j:Int) < (L2:Int):=by have:=HL2.out;omega
    have HE:Hid (amongB l r = false):=Hd (by have:=HF.out;rwa [List.take_of_length_le (by omega)] at this)
    clear hij
    go_wp2
    go_ret
    exact ⟨by rw [HE.out];rfl,rfl⟩
  · have hltI:(j:Int) < (L2:Int):=by have:=HL2.out;omega
    obtain ⟨j1,hj1⟩:∃ j1:Nat,j1 = j + 1:=⟨_,rfl⟩
    have hj1I:(j:Int) + 1 = (j1:Int):=by omega
    have hwj1:IntKind.i64.wrap (j1:Int) = (j1:Int):=IntWalk.i64_in _ (by omega)
    have hj1L:(j1:Int) < (L2:Int):=by have:=HL2.out;omega
    obtain ⟨j2,hj2⟩:∃ j2:Nat,j2 = j + 2:=⟨_,rfl⟩
    have hj2I:(j:Int) + 2 = (j2:Int):=by omega
    have hwj2:IntKind.i64.wrap (j2:Int) = (j2:Int):=IntWalk.i64_in _ (by omega)
    obtain ⟨b,off,x,e,hx,hc⟩:=HL.out.at_ hlt
    simp only [Option.some.injEq,Addr.mk.injEq,and_true] at e
    obtain ⟨rfl,rfl⟩:=e
    have y0:wr.cell? ⟨a,j,none⟩ = some (.int .i32 x.1):=by have:=hc 0 _ rfl;rw [hij];simpa using this
    have y1:wr.cell? ⟨a,j1,none⟩ = some (.int .i32 x.2):=by have:=hc 1 _ rfl;rw [hj1,hij];simpa using this
    have HX:=Hd hx
    have HJ2:=Hd hj2
    have hjL:j < L2:=by omega
    have hj1LN:j1 < L2:=by omega
    clear hc hx hij hj1 hj2
    by_cases h1:x.1 ≤ r
    · by_cases h2:r ≤ x.2
      · have HE:Hid (amongB l r = true):=Hd (among_of_take (k:=i + 1) (by rw [among_take HX.out];unfold inPr;simp [h1,h2]))
        go_wp2
        go_ret
        exact ⟨by rw [HE.out];rfl,rfl⟩
      · have HE:Hid (amongB (l.take (i + 1)) r = false):=Hd (by rw [among_take HX.out,HF.out];unfold inPr;simp;omega)
        go_wp2
        go_roundw
        case rel => exact ⟨i + 1,j2,by go_num,by have:=HIJ.out;have:=HJ2.out;omega,by omega,HE.out,by first | rfl | trivial⟩
        case measure => have:=HJ2.out;simp [intOf];omega
    · have HE:Hid (amongB (l.take (i + 1)) r = false):=Hd (by rw [among_take HX.out,HF.out];unfold inPr;simp;omega)
      go_wp2
      go_roundw
      case rel => exact ⟨i + 1,j2,by go_num,by have:=HIJ.out;have:=HJ2.out;omega,by omega,HE.out,by first | rfl | trivial⟩
      case measure => have:=HJ2.out;simp [intOf];omega
theorem noneW_cases (r:Int):(noneW r = true∧(r < 32 ∨ (126 < r∧r < 160∧¬ r < 32) ∨ (55295 < r∧r < 57344∧126 < r∧¬ r < 160∧¬ r < 32) ∨ (1114111 < r∧55295 < r∧¬ r < 57344∧126 < r∧¬ r < 160∧¬ r < 32))) ∨
 (noneW r = false∧((¬ r < 32∧¬ 126 < r∧¬ 55295 < r∧¬ 1114111 < r) ∨ (¬ r < 32∧126 < r∧¬ r < 160∧¬ 55295 < r∧¬ 1114111 < r) ∨ (¬ r < 32∧126 < r∧¬ r < 160∧55295 < r∧¬ r < 57344∧¬ 1114111 < r))):=by
 unfold noneW
 simp only [Bool.or_eq_true,Bool.and_eq_true,decide_eq_true_eq,Bool.or_eq_false_iff,Bool.and_eq_false_iff,decide_eq_false_iff_not]
 omega
set_option maxHeartbeats 3200000 in
theorem rOf_any (r:Int) (w:World):Calls Tryz.prog 71 #[.int .i32 r] w fun e w' => e = .returned (.int .i64 (widOf r))∧Below w.heap.size w w':=by
 have HM:=Hd (fun w => rmarks_any w)
 have HW:=Hd (fun w => rwides_any w)
 have HA1:=Hd (fun a w hl => rin_any r a marksT w hl (by decide))
 have HA2:=Hd (fun a w hl => rin_any r a widesT w hl (by decide))
 unfold widOf
 rcases noneW_cases r with ⟨hn,h⟩ | ⟨hn,h⟩
 · rw [hn]
   clear hn HM HW HA1 HA2
   rcases h with h1 | ⟨h1,h2,h3⟩ | ⟨h1,h2,h3,h4,h5⟩ | ⟨h1,h2,h3,h4,h5,h6⟩
   all_goals
    go_enter Tryz.func71,Tryz.ntmps71
    go_wp2
    go_ret
    exact ⟨rfl,Below.refl _ _⟩
 · rw [hn]
   clear hn
   generalize amongB marksT r = b1 at HA1
   generalize amongB widesT r = b2 at HA2
   rcases h with ⟨h1,h2,h3,h4⟩ | ⟨h1,h2,h3,h4,h5⟩ | ⟨h1,h2,h3,h4,h5,h6⟩ <;> cases b1 <;> cases b2
   all_goals
    go_enter Tryz.func71,Tryz.ntmps71
    go_wp2_with (first
     | (go_at_call 119;refine (HM.out _).mono ?_;rintro e w2 ⟨g,rfl,hg,hb2⟩;have HG:=Hd hg;have HB:=Hd hb2;clear hg hb2)
     | (go_at_call 120;refine (HW.out _).mono ?_;rintro e w4 ⟨g2,rfl,hg,hb2⟩;have HG2:=Hd hg;have HB3:=Hd (below_tail HB.out hb2);clear hg hb2)
     | (go_at_call 118;first
         | (have hpv:=HB3.out;clear hpv;refine (HA2.out _ _ HG2.out).mono ?_;rintro e w5 ⟨rfl,rfl⟩)
         | (refine (HA1.out _ _ HG.out).mono ?_;rintro e w3 ⟨rfl,rfl⟩)))
    go_ret
    exact ⟨rfl,by first | exact HB3.out | exact HB.out⟩
theorem take_eq_succ {α:Type} [DecidableEq α] {l m:List α} {k:Nat} {a b:α} (ha:l[k]? = some a) (hb:m[k]? = some b) (h:l.take k = m.take k) (e:a = b):l.take (k + 1) = m.take (k + 1):=by
 have h1:=(List.getElem?_eq_some_iff.1 ha)
 have h2:=(List.getElem?_eq_some_iff.1 hb)
 obtain ⟨p1,q1⟩:=h1
 obtain ⟨p2,q2⟩:=h2
 rw [List.take_succ_eq_append_getElem p1,List.take_succ_eq_append_getElem p2,h,q1,q2,e]
theorem ne_of_at {α:Type} {l m:List α} {k:Nat} {a b:α} (ha:l[k]? = some a) (hb:m[k]? = some b) (e:a ≠ b):l ≠ m:=by
 rintro rfl
 rw [ha] at hb
 injection hb with hb
 exact e hb
set_option maxHeartbeats 1600000 in
theorem SameCells_any (A B:Option Addr) (l m:List Cl) (ca cb:Nat) (w:World) (hl:ClsAt w A l) (hm:ClsAt w B m) (hz:l.length ≤ 9223372036854775807) (hz2:m.length ≤ 9223372036854775807) :
 Calls Tryz.prog 51 #[.slice A l.length ca,.slice B m.length cb] w fun e w' => e = .returned (.bool (decide (l = m)))∧Below w.heap.size w w':=by
 have HL:=Hd hl
 have HM:=Hd hm
 clear hl hm
 by_cases hlen:l.length = m.length
 rotate_left
 · have e:decide (l = m) = false:=by simp;rintro rfl;exact hlen rfl
   rw [e];clear e
   have h':((l.length:Int) != (m.length:Int)) = true:=by simp;omega
   clear hlen
   go_enter Tryz.func51,Tryz.ntmps51
   go_wp2
   go_ret
   exact ⟨rfl,Below.refl _ _⟩
 · have HE:=Hd hlen
   have h':((l.length:Int) != (m.length:Int)) = false:=by simp;omega
   have hle:l.length ≤ m.length:=by omega
   have hge:m.length ≤ l.length:=by omega
   clear hlen
   generalize hX:decide (l = m) = X
   have HX:=Hd hX
   clear hX
   go_enter Tryz.func51,Tryz.ntmps51
   go_wp2_with fail
   go_loopw [5] (fun i wr => ∃ k:Nat,k ≤ l.length∧i = .int .i64 k∧Below w.heap.size w wr∧l.take k = m.take k) (fun i _ => l.length - (intOf i).toNat)
   case atStart => exact ⟨0,Nat.zero_le _,rfl,Below.refl _ _,rfl⟩
   case round =>
    obtain ⟨k,hk,rfl,hB,htk⟩:=hrel
    have HT:=Hd htk
    clear htk
    by_cases hlt:k < l.length
    rotate_left
    · go_wp2
      go_ret
      refine ⟨?_,hB⟩
      have h1:=HT.out
      rw [List.take_of_length_le (by omega),List.take_of_length_le (by omega)] at h1
      rw [← HX.out,h1];simp
    · have hltm:k < m.length:=by omega
      obtain ⟨b,off,x,rfl,hx,cx⟩:=HL.out.at_ hlt
      obtain ⟨b',off',y,rfl,hy,cy⟩:=HM.out.at_ hltm
      have HXX:=Hd hx
      have HYY:=Hd hy
      clear hx hy
      replace cx:=cx.below hB
      replace cy:=cy.below hB
      unfold ClAt at cx cy
      go_wp2_with fail
      refine wp_region_u 8 (fun w' => Below wr.heap.size wr w'∧(w'.cell? ⟨b,off + k * 8,none⟩ = some (.int .i32 x.r)∧w'.cell? ⟨b,off + k * 8 + 1,none⟩ = some (.string x.more)∧w'.cell? ⟨b,off + k * 8 + 2,none⟩ = some (.int .i64 x.half)∧w'.cell? ⟨b,off + k * 8 + 3,none⟩ = some (.int .i64 x.fk)∧w'.cell? ⟨b,off + k * 8 + 4,none⟩ = some (.int .i64 x.fn)∧w'.cell? ⟨b,off + k * 8 + 5,none⟩ = some (.int .i64 x.bk)∧w'.cell? ⟨b,off + k * 8 + 6,none⟩ = some (.int .i64 x.bn)∧w'.cell? ⟨b,off + k * 8 + 7,none⟩ = some (.int .i64 x.fl))∧(w'.cell? ⟨b',off' + k * 8,none⟩ = some (.int .i32 y.r)∧w'.cell? ⟨b',off' + k * 8 + 1,none⟩ = some (.string y.more)∧w'.cell? ⟨b',off' + k * 8 + 2,none⟩ = some (.int .i64 y.half)∧w'.cell? ⟨b',off' + k * 8 + 3,none⟩ = some (.int .i64 y.fk)∧w'.cell? ⟨b',off' + k * 8 + 4,none⟩ = some (.int .i64 y.fn)∧w'.cell? ⟨b',off' + k * 8 + 5,none⟩ = some (.int .i64 y.bk)∧w'.cell? ⟨b',off' + k * 8 + 6,none⟩ = some (.int .i64 y.bn)∧w'.cell? ⟨b',off' + k * 8 + 7,none⟩ = some (.int .i64 y.fl))) (by kernel_rfl) (by kernel_rfl) ?_ ?_
      · exact ⟨(Below.refl _ _).drew,cx,cy⟩
      simp only [List.take_succ_cons,List.take_zero,List.drop_succ_cons,List.drop_zero]
      repeat (refine seqU_val ?_ (by rfl) ?_ ?_;rotate_left;· (intro w' hS;obtain ⟨_,_,_⟩:=hS;go_simp;first | done | with_reducible rfl)
              simp only [Act.put,List.setIfInBounds_toArray,List.set_cons_zero,List.set_cons_succ])
      refine seqU_nil (fun w' hS => ?_)
      have hB4:=hS.1
      clear hS
      refine wpList_val (.bool (!decide (x = y))) rfl (exec_neq_cell _ _ _ _ _ _ _ _ x y rfl rfl w') ?_
      by_cases hxy:x = y
      · rw [show (!decide (x = y)) = false from by simp [hxy]]
        simp only [Act.put,List.setIfInBounds_toArray,List.set_cons_zero,List.set_cons_succ]
        have HXY:=Hd hxy
        clear hxy
        go_wp2
        go_roundw
        case rel => exact ⟨k + 1,by omega,by go_num,below_tail hB hB4,take_eq_succ HXX.out HYY.out HT.out HXY.out⟩
        case measure => simp [intOf];omega
      · rw [show (!decide (x = y)) = true from by simp [hxy]]
        simp only [Act.put,List.setIfInBounds_toArray,List.set_cons_zero,List.set_cons_succ]
        have HXY:=Hd hxy
        clear hxy
        go_wp2
        go_ret
        refine ⟨?_,below_tail hB hB4⟩
        rw [← HX.out,show decide (l = m) = false from by simp;exact ne_of_at HXX.out HYY.out HXY.out]
        rfl
theorem info_cellz:(Tryz.prog.info? 109).map (fun i => (i.zero,i.size,i.bytes)) = some (some (.agg #[.int .i32 0,.string ByteArray.empty,.int .i64 0,.int .i64 0,.int .i64 0,.int .i64 0,.int .i64 0,.int .i64 0]),8,72):=by kernel_rfl
def WithPost (l:List Cl) (w:World) (e:Ending) (w':World):Prop:=∃ g cap,e = .returned (.slice (some ⟨g,0,none⟩) l.length cap)∧CrO w' w.heap.size g cap l∧Below w.heap.size w w'
set_option maxHeartbeats 3200000 in
theorem cwith_any (A:Option Addr) (l:List Cl) (ca:Nat) (f:FuncId) (capt:Array Value) (F:List Cl→List Cl) (w:World) (hl:GrAt encCl 8 w A l) (h0:0 < l.length) (hz:l.length ≤ 10000) (hF:(F (mendL l)).length = l.length) (hf:∀ (args:Array Value) (w:World),(callFunc f args).run Tryz.prog w = .ok (.enter f args) w)
 (hdo:∀ g cap w',CrO w' w.heap.size g cap (mendL l)→Below w.heap.size w w'→Calls Tryz.prog f (#[.slice (some ⟨g,0,none⟩) l.length cap] ++ capt) w' (MendPost w.heap.size g cap (F (mendL l)) w')) :
 Calls Tryz.prog 114 #[.slice A l.length ca,.func (.func f) #[] capt] w (WithPost (mendL (F (mendL l))) w):=by
 obtain ⟨j0,hj,gz0,gz1,gz2⟩:=info_parts info_cellz
 obtain ⟨b,off,rfl,-⟩:=hl h0
 have HN:=Hd (hl.news encCl_len)
 have HFL:=Hd (flat_len encCl_len l)
 have HDO:=Hd hdo
 clear hl hdo
 go_enter Tryz.func114,Tryz.ntmps114
 go_upto_region 1 with fail
 refine wp_region_lit ?_
 refine wpList_valG (.slice (some ⟨b,off,none⟩) l.length ca) (by rfl) (by rfl) ?_
 simp only [Act.put,List.setIfInBounds_toArray,List.set_cons_zero,List.set_cons_succ]
 refine wpList_append_own _ rfl (.const (.slice none 0 0)) (.tmp 6) _ rfl w.heap.size 109 j0 (.agg #[.int .i32 0,.string ByteArray.empty,.int .i64 0,.int .i64 0,.int .i64 0,.int .i64 0,.int .i64 0,.int .i64 0]) 8 72 Tryz.underlying48 hj gz0 gz1 gz2 rfl (by decide) _ _ _ rfl (World.ownsRow_nil _ _ _ _) ⟨b,off,none⟩ l.length ca (flat encCl l) rfl HFL.out HN.out (flat_one encCl_one l) (by simp only [maxLen];omega) (by omega) (by simp <;> omega) ?_
 intro v1 w1 hown1 hg1 _
 rw [Nat.zero_add] at hown1
 obtain ⟨g,cap,hv⟩:=Go.Joins.ownsRow_form hown1 (by omega)
 subst hv
 have hB1:Below w.heap.size w w1:=(Below.refl _ _).grown hg1 (Nat.le_refl _) (fun k hk => by cases hk)
 have C1:CrO w1 w.heap.size g cap l:=by unfold CrO;simpa using hown1
 have HB1:=Hd hB1
 have HM1:=Hd (cmend_any w.heap.size g cap l w1 C1 hz)
 have HM2:Hid (∀ w',CrO w' w.heap.size g cap (F (mendL l))→Calls Tryz.prog 142 #[.slice (some ⟨g,0,none⟩) l.length cap] w' (MendPost w.heap.size g cap (mendL (F (mendL l))) w')):=Hd (fun w' h => by
  have:=cmend_any w.heap.size g cap (F (mendL l)) w' h (by rw [hF];exact hz)
  rwa [hF] at this)
 have hgb:=C1.lt
 clear hown1 hg1 hB1 C1
 go_wp2_with (first
  | (go_at_call 142;first
      | (have hpv:=HC3.out;clear hpv;refine (HM2.out _ HC3.out).mono ?_;rintro e w4 ⟨rfl,hc4,hm4⟩;have HC4:=Hd hc4;have HB4:=Hd (HB3.out.trans (hm4.below (B:=w.heap.size) (fun x hx => by rw [List.mem_singleton.1 hx];exact hgb.1) HB3.out.size));clear hc4 hm4)
      | (refine HM1.out.mono ?_;rintro e w2 ⟨rfl,hc2,hm2⟩;have HC2:=Hd hc2;have HB2:=Hd (HB1.out.trans (hm2.below (B:=w.heap.size) (fun x hx => by rw [List.mem_singleton.1 hx];exact hgb.1) HB1.out.size));clear hc2 hm2))
  | (refine (HDO.out g cap _ HC2.out HB2.out).mono ?_;rintro e w3 ⟨rfl,hc3,hm3⟩;have HC3:=Hd hc3;have HB3:=Hd (HB2.out.trans (hm3.below (B:=w.heap.size) (fun x hx => by rw [List.mem_singleton.1 hx];exact hgb.1) HB2.out.size));clear hc3 hm3))
 go_ret
 exact ⟨g,cap,by rw [mendL_len,hF];rfl,HC4.out,HB4.out⟩
theorem mend1_any (v:Value) (w:World):Calls Tryz.prog 150 #[v] w fun e w' => e = .returned (.tuple #[])∧w = w':=by
 go_enter Tryz.func150,Tryz.ntmps150
 go_wp2
 go_end0
 exact ⟨rfl,rfl⟩
theorem call_mend1 (args:Array Value) (w:World):(callFunc 150 args).run Tryz.prog w = .ok (.enter 150 args) w:=by kernel_rfl
theorem cMend_any (A:Option Addr) (l:List Cl) (ca:Nat) (w:World) (hl:GrAt encCl 8 w A l) (h0:0 < l.length) (hz:l.length ≤ 10000) :
 Calls Tryz.prog 133 #[.slice A l.length ca] w (WithPost (mendL l) w):=by
 have HW:=Hd (cwith_any A l ca 150 #[] id w hl h0 hz (mendL_len l) call_mend1 (fun g cap w' hc _ => (mend1_any _ w').mono fun e w'' ⟨he,hw⟩ => ⟨he,hw ▸ hc,hw ▸ Mod.refl _ _⟩))
 rw [show mendL (id (mendL l)) = mendL l from mendL_idem l] at HW
 clear hl
 go_enter Tryz.func133,Tryz.ntmps133
 go_wp2_with (go_at_call 114;refine HW.out.mono ?_;rintro e w1 ⟨g,cap,rfl,hc,hb⟩;have HC:=Hd hc;clear hc)
 go_ret
 exact ⟨g,cap,rfl,HC.out,hb⟩
theorem made_flat (z:Cl) (n:Nat):(madeCells (encCl z).toArray (n * 8)).toList = flat encCl (List.replicate n z):=by
 refine List.ext_getElem? fun m => ?_
 by_cases hm:m < n * 8
 · have h1:(List.replicate n z)[m / 8]? = some z:=by rw [List.getElem?_replicate];rw [if_pos (by omega)]
   have h2:=flat_at2 encCl_len (List.replicate n z) (m / 8) z (m % 8) h1 (Nat.mod_lt _ (by decide))
   rw [show m / 8 * 8 + m % 8 = m by omega] at h2
   rw [h2]
   have hj:m % 8 < (encCl z).length:=by rw [encCl_len];exact Nat.mod_lt _ (by decide)
   unfold madeCells
   simp only [Array.toList_map,Array.toList_range,List.getElem?_map,List.getElem?_range hm,Option.map_some]
   rw [List.getElem?_eq_getElem hj]
   congr 1
   have hs:(encCl z).toArray.size = 8:=by rw [List.size_toArray,encCl_len]
   rw [hs,getElem!_pos _ _ (by rw [hs];exact Nat.mod_lt _ (by decide))]
   simp
 · rw [List.getElem?_eq_none (by simp [size_madeCells];omega),List.getElem?_eq_none (by rw [flat_len encCl_len,List.length_replicate];omega)]
theorem replicate_set {n i:Nat} {c d:Cl} (h:i < n):(List.replicate i c ++ List.replicate (n - i) d).set i c = List.replicate (i + 1) c ++ List.replicate (n - (i + 1)) d:=by
 rw [List.set_append_right _ _ (by simp),List.length_replicate,Nat.sub_self,show n - i = (n - (i + 1)) + 1 by omega,List.replicate_succ,List.set_cons_zero,List.replicate_succ',List.append_assoc];rfl
def zeroC:Cl:=emptyA ⟨0,0,0,0,0⟩
set_option maxHeartbeats 3200000 in
theorem cBlanks_any (n:Nat) (b:Col) (w:World) (hn0:0 < n) (hn:n ≤ 1000) :
 Calls Tryz.prog 138 #[.int .i64 n,.agg #[.int .i64 b.k,.int .i64 b.n]] w (WithPost (List.replicate n (blankC b)) w):=by
 obtain ⟨j0,hj,gz0,gz1,gz2⟩:=info_parts info_cellz
 have hmin:min (n:Int) 1000 = (n:Int):=by omega
 have hmax:max 0 (n:Int) = (n:Int):=by omega
 have hpos:(0:Int) < (n:Int):=by omega
 have hnle:¬ (n:Int) ≤ 0:=by omega
 have hn1k:¬ (1000:Int) < (n:Int):=by omega
 have HBL:=Hd (fun w => cblank_any b w)
 have HB0:=Hd (below_allocs (Below.refl w.heap.size w) (.cells #[.int .i64 b.k,.int .i64 b.n] 32))
 have HK:Hid (HoldAt (w.alloc (.cells #[.int .i64 b.k,.int .i64 b.n] 32)) w.heap.size 0 (.int .i64 b.k)∧HoldAt (w.alloc (.cells #[.int .i64 b.k,.int .i64 b.n] 32)) w.heap.size 1 (.int .i64 b.n)):=Hd ⟨at_ (hp_new rfl) 0 _ rfl,at_ (hp_new rfl) 1 _ rfl⟩
 go_enter Tryz.func138,Tryz.ntmps138
 go_wp2_with (refine wpList_make_full _ rfl (.tmp 9) (.tmp 9) _ rfl w.heap.size 109 j0 _ 8 Tryz.underlying48 hj gz0 gz1 .i64 .i64 _ _ n rfl rfl ?_ ?_ ?_ ?_ ?_ ?_)
 all_goals first
  | rfl
  | omega
  | (simp only [maxLen];omega)
  | (rw [gz2];omega)
  | (simp;done)
  | skip
 intro w1 hown hg
 have HO:=Hd hown
 have HG:=Hd hg
 clear hown hg
 go_wp2_with fail
 have hC:CrO w1 w.heap.size (w.heap.size + 1) n (List.replicate n zeroC):=by
  have h:=HO.out
  have e:=made_flat zeroC n
  unfold CrO
  rw [List.length_replicate,← e]
  exact h
 have HC:=Hd hC
 have HB1:=Hd (show Below w.heap.size w w1 from HB0.out.grown HG.out (by simp) (fun k hk => by cases hk))
 have HK1:=Hd (show HoldAt w1 w.heap.size 0 (.int .i64 b.k)∧HoldAt w1 w.heap.size 1 (.int .i64 b.n) from ⟨⟨HG.out.cell HK.out.1.1 (fun e => by cases e),keep_none_f HG.out HK.out.1.1 HK.out.1.2⟩,⟨HG.out.cell HK.out.2.1 (fun e => by cases e),keep_none_f HG.out HK.out.2.1 HK.out.2.2⟩⟩)
 have hsz:=hC.lt.2
 clear hC HO HG
 go_loopw [13] (fun s13 wr => ∃ i:Nat,s13 = .int .i64 i∧i ≤ n∧CrO wr w.heap.size (w.heap.size + 1) n (List.replicate i (blankC b) ++ List.replicate (n - i) zeroC)∧Mod [w.heap.size + 1] w1 wr) (fun s13 _ => n - (intOf s13).toNat)
 case atStart => exact ⟨0,rfl,Nat.zero_le _,by simpa using HC.out,Mod.refl _ _⟩
 case round =>
  obtain ⟨i,rfl,hi,hO,hM⟩:=hrel
  have HO:=Hd hO
  have HM:=Hd hM
  have k0:=(hM.hold (by simp) HK1.out.1).1
  have k1:=(hM.hold (by simp) HK1.out.2).1
  clear hO hM
  by_cases hlt:i < n
  rotate_left
  · obtain rfl:i = n:=by omega
    go_wp2
    go_ret
    refine ⟨w.heap.size + 1,i,by simp,?_,HB1.out.trans (HM.out.below (fun x hx => by rw [List.mem_singleton.1 hx];omega) HB1.out.size)⟩
    simpa using HO.out
  · have hltI:(i:Int) < (n:Int):=by omega
    go_wp2_with (first
     | (go_at_call 149;refine (HBL.out _).mono ?_;rintro e w3 ⟨rfl,hb⟩;have HB3:=Hd hb;clear hb;have HTH:=Hd ((HO.out.below HB3.out).there (i:=i) (by simp;omega)))
     | (refine wpList_store_mid (op:=⟨none,.store 109 (.tmp 20) (.tmp 19),_,_,_,_⟩) rfl 109 (.tmp 20) (.tmp 19) rfl (w.heap.size + 1) (i * 8) (encCl (blankC b)).toArray rfl rfl HTH.out info_cell (cl_one (blankC b)) ?_))
    obtain ⟨q1,q2⟩:=(HO.out.below HB3.out).set (i:=i) (by simp;omega) (blankC b)
    rw [replicate_set hlt] at q1
    have Q1:=Hd q1
    have Q2:=Hd q2
    clear q1 q2
    go_roundw
    case rel => exact ⟨i + 1,by go_num,by omega,Q1.out,(HM.out.then_below HB3.out).trans Q2.out (fun k hk => .inl hk)⟩
    case measure => simp [intOf];omega
def putO (o:List Cl) (x r:Int) (a:Atr):List Cl :=
 if widOf r = 1∧0 ≤ x∧x < o.length then o.set x.toNat (mkCl r ByteArray.empty 0 a)
 else if widOf r = 2∧0 ≤ x∧x + 1 < o.length then (o.set x.toNat (mkCl r ByteArray.empty 1 a)).set (x.toNat + 1) (mkCl r ByteArray.empty 2 a)
 else o
theorem putO_len (o:List Cl) (x r:Int) (a:Atr):(putO o x r a).length = o.length:=by
 unfold putO
 split
 · simp
 split
 · simp
 · rfl
theorem putL_O (l:List Cl) (x r:Int) (a:Atr):mendL (putO (mendL l) x r a) = putL l x r a:=by
 unfold putO putL
 simp only []
 split
 · rfl
 split
 · rfl
 · exact mendL_idem l
theorem wid_range (r:Int):widOf r = -1 ∨ widOf r = 0 ∨ widOf r = 2 ∨ widOf r = 1:=by
 unfold widOf
 split
 · exact .inl rfl
 split
 · exact .inr (.inl rfl)
 split
 · exact .inr (.inr (.inl rfl))
 · exact .inr (.inr (.inr rfl))
def encAt (a:Atr):List Value:=[.int .i64 a.fk,.int .i64 a.fn,.int .i64 a.bk,.int .i64 a.bn,.int .i64 a.fl]
theorem info_attr:(Tryz.prog.info? 34).map (·.size) = some 5:=by kernel_rfl
theorem CrO.mend_post {w:World} {base g cap:Nat} {l:List Cl} (h:CrO w base g cap l):MendPost base g cap l w (.returned (.tuple #[])) w:=⟨rfl,h,Mod.refl _ _⟩
set_option maxHeartbeats 3200000 in
theorem close1_any (base g cap:Nat) (o:List Cl) (w:World) (h:CrO w base g cap o) (h0:0 < o.length) (hz:o.length ≤ 10000) :
 Calls Tryz.prog 130 #[.slice (some ⟨g,0,none⟩) o.length cap] w (MendPost base g cap (o.set (o.length - 1) padC) w):=by
 obtain ⟨n,hn⟩:∃ n,o.length = n + 1:=⟨o.length - 1,by omega⟩
 have hpos:(0:Int) < (o.length:Int):=by omega
 have hw:IntKind.i64.wrap ((o.length:Int) - 1) = (n:Int):=by rw [IntWalk.i64_in _ (by omega)];omega
 have HTH:=Hd (h.there (i:=n) (by omega))
 have HS:=Hd (h.set (i:=n) (by omega) padC)
 have hnl:(n:Int) < (o.length:Int):=by omega
 have HN:=Hd hn
 clear h hn
 go_enter Tryz.func130,Tryz.ntmps130
 go_wp2_with (refine wpList_store_mid (op:=⟨none,.store 109 (.tmp 10) (.tmp 9),_,_,_,_⟩) rfl 109 (.tmp 10) (.tmp 9) rfl g (n * 8) (encCl padC).toArray rfl rfl HTH.out info_cell (cl_one padC) ?_)
 go_end0
 refine ⟨rfl,?_,HS.out.2⟩
 have:=HS.out.1
 rw [show o.length - 1 = n by have:=HN.out;omega]
 exact this
set_option maxHeartbeats 3200000 in
theorem put1_any (base g cap:Nat) (o:List Cl) (br bx ba:Nat) (x r:Int) (a:Atr) (w:World) (h:CrO w base g cap o) (hz:o.length ≤ 10000) (hr:w.cell? ⟨br,0,none⟩ = some (.int .i32 r)) (hx:w.cell? ⟨bx,0,none⟩ = some (.int .i64 x)) (ha:w.rangeAt ba 0 (encAt a))
 (hb1:br < base) (hb2:bx < base) (hb3:ba < base) :
 Calls Tryz.prog 115 #[.slice (some ⟨g,0,none⟩) o.length cap,.pointer (some ⟨br,0,none⟩),.pointer (some ⟨bx,0,none⟩),.pointer (some ⟨ba,0,none⟩)] w (MendPost base g cap (putO o x r a) w):=by
 have HW:=Hd (fun w => widOf_any r w)
 have H:=Hd h
 have hgb:=h.lt
 have HX:=Hd hx
 have HA:=Hd ha
 have HR:=Hd hr
 clear h ha
 have HV:=Hd (show putO o x r a = if widOf r = 1∧0 ≤ x∧x < o.length then o.set x.toNat (mkCl r ByteArray.empty 0 a) else if widOf r = 2∧0 ≤ x∧x + 1 < o.length then (o.set x.toNat (mkCl r ByteArray.empty 1 a)).set (x.toNat + 1) (mkCl r ByteArray.empty 2 a) else o from rfl)
 generalize putO o x r a = RES at HV
 have HWR:=Hd (wid_range r)
 generalize widOf r = wd at HW HV HWR
 by_cases hx0:x < 0
 · go_enter Tryz.func115,Tryz.ntmps115
   go_wp2_with (go_at_call 116;refine (HW.out _).mono ?_;rintro e w1 ⟨rfl,hb⟩;have HB:=Hd hb;have hx':=holda hb HX.out;clear hx hr hb)
   go_end0
   rw [HV.out,if_neg (by omega),if_neg (by omega)]
   exact ⟨rfl,H.out.below HB.out,Mod.of_below HB.out⟩
 by_cases hw1:wd < 1
 · go_enter Tryz.func115,Tryz.ntmps115
   go_wp2_with (go_at_call 116;refine (HW.out _).mono ?_;rintro e w1 ⟨rfl,hb⟩;have HB:=Hd hb;have hx':=holda hb HX.out;clear hx hr hb)
   go_end0
   rw [HV.out,if_neg (by omega),if_neg (by omega)]
   exact ⟨rfl,H.out.below HB.out,Mod.of_below HB.out⟩
 have hwI:IntKind.i64.wrap ((o.length:Int) - wd) = (o.length:Int) - wd:=IntWalk.i64_in _ (by have:=HWR.out;omega)
 by_cases hbig:(o.length:Int) - wd < x
 · go_enter Tryz.func115,Tryz.ntmps115
   go_wp2_with (go_at_call 116;refine (HW.out _).mono ?_;rintro e w1 ⟨rfl,hb⟩;have HB:=Hd hb;have hx':=holda hb HX.out;clear hx hr hb)
   go_end0
   rw [HV.out,if_neg (by omega),if_neg (by omega)]
   exact ⟨rfl,H.out.below HB.out,Mod.of_below HB.out⟩
 obtain ⟨k,hk⟩:∃ k:Nat,x = (k:Int):=⟨x.toNat,by omega⟩
 subst hk
 obtain ⟨fk,fn,bk,bn,fl⟩:=a
 clear hwI
 have hxl:(k:Int) + wd ≤ (o.length:Int):=by omega
 rcases HWR.out with hw | hw | hw | hw
 · omega
 · omega
 · subst hw
   obtain ⟨j,hj⟩:∃ j:Nat,j = k + 1:=⟨_,rfl⟩
   have hkk:(k:Int) + 1 = (j:Int):=by omega
   have hwj:IntKind.i64.wrap (j:Int) = (j:Int):=IntWalk.i64_in _ (by omega)
   have hkl:(j:Int) < (o.length:Int):=by omega
   have hkl2:(k:Int) < (o.length:Int):=by omega
   have hkl3:j < o.length:=by omega
   have hkl4:k < o.length:=by omega
   have HJ:=Hd hj
   clear hj
   have HK:=Hd (show 0 ≤ (k:Int)∧(k:Int) + 1 < (o.length:Int) from by omega)
   have hw2:IntKind.i64.wrap ((o.length:Int) - 2) = (o.length:Int) - 2:=IntWalk.i64_in _ (by omega)
   have htn:((k:Int)).toNat = k:=by omega
   have HTN:=Hd htn
   clear htn
   clear HWR
   go_enter Tryz.func115,Tryz.ntmps115
   go_upto_region 4 with (first
    | (go_at_call 116;refine (HW.out _).mono ?_;rintro e w1 ⟨rfl,hb⟩;have HB:=Hd hb;have hx':=holda hb HX.out;have hr':=holda hb HR.out;have HA1:=range_below HA.out hb
       have a0:=HA1 0 _ rfl;have a1:=HA1 1 _ rfl;have a2:=HA1 2 _ rfl;have a3:=HA1 3 _ rfl;have a4:=HA1 4 _ rfl;have l1:=lt_of_cell hx';have l2:=lt_of_cell hr';have l3:=lt_of_cell a0;clear HA1 hx hr hb)
    | fail)
   generalize hW2:World.alloc _ _ = W2
   have hb2:Below w1.heap.size w1 W2:=by rw [← hW2];exact below_allocs (Below.refl _ _) _
   have hc2:W2.heap[w1.heap.size]? = some (.cells (encCl (mkCl r ByteArray.empty 0 ⟨fk,fn,bk,bn,fl⟩)).toArray 109 (0,0)):=by rw [← hW2];exact hp_new rfl
   have x2:=holda hb2 hx'
   obtain ⟨y2,y2f⟩:=whole_at hc2 2 _ rfl
   have HB2:=Hd (below_tail HB.out (below_set hb2 (Nat.le_refl _) (o:=2) (.int .i64 2)))
   have HC2:=Hd (whole_set hc2 2 (.int .i64 2) (cs':=encCl (mkCl r ByteArray.empty 2 ⟨fk,fn,bk,bn,fl⟩)) rfl)
   have X2:=Hd (show (W2.setCell ⟨w1.heap.size,2,none⟩ (.int .i64 2)).cell? ⟨bx,0,none⟩ = some (.int .i64 k) from (World.cell?_setCell_other _ _ _ _ (fun e => by injection e with e1 e2;omega)).trans x2)
   clear hW2 hb2 hc2 hx' hr' a0 a1 a2 a3 a4 l2 l3 l1
   go_upto_region 5 with fail
   generalize World.setCell _ _ _ = W3 at HB2 HC2 X2 ⊢
   have x3:=X2.out
   have HTH:=Hd ((H.out.below HB2.out).there (i:=j) (by omega))
   have HS:=Hd ((H.out.below HB2.out).set (i:=j) (by omega) (mkCl r ByteArray.empty 2 ⟨fk,fn,bk,bn,fl⟩))
   clear X2 x2 y2 y2f
   refine wp_region_lit ?_
   refine wpList_valG (.slice (some ⟨g,0,none⟩) o.length cap) (by rfl) (by rfl) ?_
   simp only [Act.put,List.setIfInBounds_toArray,List.set_cons_zero,List.set_cons_succ]
   refine wpList_valG (.int .i64 (k:Int)) (by rfl) (by go_simp) ?_
   simp only [Act.put,List.setIfInBounds_toArray,List.set_cons_zero,List.set_cons_succ]
   refine wpList_valG (.int .i64 (j:Int)) (by rfl) (by go_simp) ?_
   simp only [Act.put,List.setIfInBounds_toArray,List.set_cons_zero,List.set_cons_succ]
   refine load_mid_g (by rfl) 109 (.tmp 6) rfl (w1.heap.size) (0) rfl (encCl (mkCl r ByteArray.empty 2 ⟨fk,fn,bk,bn,fl⟩)) _ (range_new HC2.out) Tryz.underlying109 rfl info_cell ?_
   simp only [Act.put,List.setIfInBounds_toArray,List.set_cons_zero,List.set_cons_succ]
   refine wpList_valG (.pointer (some ⟨g,j * 8,none⟩)) (by rfl) (by go_simp) ?_
   simp only [Act.put,List.setIfInBounds_toArray,List.set_cons_zero,List.set_cons_succ]
   refine wpList_store_mid rfl 109 (.tmp 33) (.tmp 32) rfl (g) (j * 8) ((encCl (mkCl r ByteArray.empty 2 ⟨fk,fn,bk,bn,fl⟩)).toArray) rfl rfl (HTH.out) info_cell (cl_one _) ?_
   simp only [Act.put]
   have hne:g ≠ w1.heap.size:=by have:=HB.out.size;omega
   have HC3:Hid ((W3.setCells g (j * 8) (encCl (mkCl r ByteArray.empty 2 ⟨fk,fn,bk,bn,fl⟩))).heap[w1.heap.size]? = some (.cells (encCl (mkCl r ByteArray.empty 2 ⟨fk,fn,bk,bn,fl⟩)).toArray 109 (0,0))):=Hd ((HS.out.2.block _ (Array.getElem?_eq_some_iff.1 HC2.out).1 (by simp;omega)).trans HC2.out)
   have x4:(W3.setCells g (j * 8) (encCl (mkCl r ByteArray.empty 2 ⟨fk,fn,bk,bn,fl⟩))).cell? ⟨bx,0,none⟩ = some (.int .i64 k):=HS.out.2.cell (by simp;omega) x3
   change wpList _ _ _ _ _ (W3.setCells g (j * 8) (encCl (mkCl r ByteArray.empty 2 ⟨fk,fn,bk,bn,fl⟩)))
   generalize W3.setCells g (j * 8) (encCl (mkCl r ByteArray.empty 2 ⟨fk,fn,bk,bn,fl⟩)) = W4 at HS HC3 x4 ⊢
   obtain ⟨y4,y4f⟩:=whole_at HC3.out 2 _ rfl
   clear x3
   go_upto_region 7 with fail
   have l1:=lt_of_cell x4
   have HC5:=Hd (whole_set HC3.out 2 (.int .i64 1) (cs':=encCl (mkCl r ByteArray.empty 1 ⟨fk,fn,bk,bn,fl⟩)) rfl)
   have HM5:Hid (Mod [g] w (W4.setCell ⟨w1.heap.size,2,none⟩ (.int .i64 1))):=Hd (((Mod.of_below HB2.out).trans HS.out.2 (fun b hb => .inl hb)).setCell (a:=⟨w1.heap.size,2,none⟩) (.inr HB.out.size) _)
   have HO5:Hid (CrO (W4.setCell ⟨w1.heap.size,2,none⟩ (.int .i64 1)) base g cap (o.set j (mkCl r ByteArray.empty 2 ⟨fk,fn,bk,bn,fl⟩))):=Hd (HS.out.1.mod ((Mod.refl [w1.heap.size] W4).setCell (a:=⟨w1.heap.size,2,none⟩) (.inl (by simp)) _) (by simp;omega))
   have X5:Hid ((W4.setCell ⟨w1.heap.size,2,none⟩ (.int .i64 1)).cell? ⟨bx,0,none⟩ = some (.int .i64 k)):=Hd ((World.cell?_setCell_other _ _ _ _ (fun e => by injection e with e1 e2;have:=HB.out.size;omega)).trans x4)
   generalize World.setCell _ _ _ = W5 at HC5 HM5 HO5 X5 ⊢
   have x5:=X5.out
   have HTH5:=Hd (HO5.out.there (i:=k) (by simp;omega))
   have HS5:=Hd (HO5.out.set (i:=k) (by simp;omega) (mkCl r ByteArray.empty 1 ⟨fk,fn,bk,bn,fl⟩))
   clear X5 x4 y4 y4f HTH
   refine wp_region_lit ?_
   refine wpList_valG (.slice (some ⟨g,0,none⟩) o.length cap) (by rfl) (by rfl) ?_
   simp only [Act.put,List.setIfInBounds_toArray,List.set_cons_zero,List.set_cons_succ]
   refine wpList_valG (.int .i64 (k:Int)) (by rfl) (by go_simp) ?_
   simp only [Act.put,List.setIfInBounds_toArray,List.set_cons_zero,List.set_cons_succ]
   refine load_mid_g (by rfl) 109 (.tmp 6) rfl (w1.heap.size) (0) rfl (encCl (mkCl r ByteArray.empty 1 ⟨fk,fn,bk,bn,fl⟩)) _ (range_new HC5.out) Tryz.underlying109 rfl info_cell ?_
   simp only [Act.put,List.setIfInBounds_toArray,List.set_cons_zero,List.set_cons_succ]
   refine wpList_valG (.pointer (some ⟨g,k * 8,none⟩)) (by rfl) (by go_simp) ?_
   simp only [Act.put,List.setIfInBounds_toArray,List.set_cons_zero,List.set_cons_succ]
   refine wpList_store_mid rfl 109 (.tmp 38) (.tmp 37) rfl (g) (k * 8) ((encCl (mkCl r ByteArray.empty 1 ⟨fk,fn,bk,bn,fl⟩)).toArray) rfl rfl (HTH5.out) info_cell (cl_one _) ?_
   go_wp2
   go_end0
   rw [HV.out,if_neg (by simp),if_pos (by first | exact ⟨rfl,HK.out⟩ | exact ⟨trivial,HK.out⟩),HTN.out,List.set_comm _ _ (by omega),← HJ.out]
   refine ⟨rfl,?_,HM5.out.trans HS5.out.2 (fun b hb => .inl hb)⟩
   have:=HS5.out.1
   unfold CrO at this ⊢
   simpa using this
 · subst hw
   have hkl:(k:Int) < (o.length:Int):=by omega
   have HK:=Hd (show 0 ≤ (k:Int)∧(k:Int) < (o.length:Int) from by omega)
   have hw2:IntKind.i64.wrap ((o.length:Int) - 1) = (o.length:Int) - 1:=IntWalk.i64_in _ (by omega)
   clear HWR
   go_enter Tryz.func115,Tryz.ntmps115
   go_upto_region 7 with (first
    | (go_at_call 116;refine (HW.out _).mono ?_;rintro e w1 ⟨rfl,hb⟩;have HB:=Hd hb;have hx':=holda hb HX.out;have hr':=holda hb HR.out;have HA1:=range_below HA.out hb
       have a0:=HA1 0 _ rfl;have a1:=HA1 1 _ rfl;have a2:=HA1 2 _ rfl;have a3:=HA1 3 _ rfl;have a4:=HA1 4 _ rfl;have l1:=lt_of_cell hx';have l2:=lt_of_cell hr';have l3:=lt_of_cell a0;clear HA1 hx hr hb)
    | fail)
   generalize hW2:World.alloc _ _ = W2
   have hb2:Below w1.heap.size w1 W2:=by rw [← hW2];exact below_allocs (Below.refl _ _) _
   have hc2:W2.heap[w1.heap.size]? = some (.cells (encCl (mkCl r ByteArray.empty 0 ⟨fk,fn,bk,bn,fl⟩)).toArray 109 (0,0)):=by rw [← hW2];exact hp_new rfl
   have HB2:=Hd (below_tail HB.out hb2)
   have HC2:=Hd hc2
   have x2:=holda hb2 hx'
   have HTH:=Hd ((H.out.below HB2.out).there (i:=k) (by omega))
   have HS:=Hd ((H.out.below HB2.out).set (i:=k) (by omega) (mkCl r ByteArray.empty 0 ⟨fk,fn,bk,bn,fl⟩))
   clear hW2 hb2 hc2 hx' hr' a0 a1 a2 a3 a4 l1 l2 l3
   refine wp_region_lit ?_
   refine wpList_valG (.slice (some ⟨g,0,none⟩) o.length cap) (by rfl) (by rfl) ?_
   simp only [Act.put,List.setIfInBounds_toArray,List.set_cons_zero,List.set_cons_succ]
   refine wpList_valG (.int .i64 (k:Int)) (by rfl) (by go_simp) ?_
   simp only [Act.put,List.setIfInBounds_toArray,List.set_cons_zero,List.set_cons_succ]
   refine load_mid_g (by rfl) 109 (.tmp 6) rfl w1.heap.size 0 rfl (encCl (mkCl r ByteArray.empty 0 ⟨fk,fn,bk,bn,fl⟩)) _ (range_new HC2.out) Tryz.underlying109 rfl info_cell ?_
   simp only [Act.put,List.setIfInBounds_toArray,List.set_cons_zero,List.set_cons_succ]
   refine wpList_valG (.pointer (some ⟨g,k * 8,none⟩)) (by rfl) (by go_simp) ?_
   simp only [Act.put,List.setIfInBounds_toArray,List.set_cons_zero,List.set_cons_succ]
   refine wpList_store_mid rfl 109 (.tmp 38) (.tmp 37) rfl g (k * 8) (encCl (mkCl r ByteArray.empty 0 ⟨fk,fn,bk,bn,fl⟩)).toArray rfl rfl HTH.out info_cell (cl_one _) ?_
   go_wp2
   go_end0
   rw [HV.out,if_pos (by first | exact ⟨rfl,HK.out⟩ | exact ⟨trivial,HK.out⟩)]
   exact ⟨rfl,HS.out.1,(Mod.of_below HB2.out).trans HS.out.2 (fun b hb => .inl hb)⟩
end Go.Proofs.YtffdblmdelgkaaaGreat
