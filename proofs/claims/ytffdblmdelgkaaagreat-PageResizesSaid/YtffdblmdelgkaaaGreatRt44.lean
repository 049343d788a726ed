/- Joined by a tool of this claim out of smaller texts. Conditions: as stated. -/
import Derived.Test.YtffdblmdelgkaaaGreatRt38
import Derived.Test.YtffdblmdelgkaaaGreatRt42
import Derived.Test.YtffdblmdelgkaaaGreatRt43
set_option linter.unusedVariables false
set_option linter.unusedSimpArgs false
set_option maxRecDepth 100000
open Go.Lib renaming hid → Hd
namespace Go.Proofs.YtffdblmdelgkaaaGreat
open Go.RowKit
theorem pgX_pos {base:Nat} {w:World} {q:Pv} {g:Pg} {k:Nat} {cur:Array Value} (hO:PgO base w q g) (ht:w.heap[k]? = some (.cells cur 57 (0,0))):k ∉ pgX q:=fun hb => by
 rcases List.mem_cons.1 hb with hb | hb
 · exact block_ne hO.blk ht (by decide) hb.symm
 rcases List.mem_append.1 hb with hb | hb
 · obtain ⟨c,hc⟩:=own_block hO.own (Option.mem_toList.1 hb)
   exact block_ne hc ht (by decide) rfl
 rcases List.mem_append.1 hb with hb | hb
 · obtain ⟨c,hc⟩:=own_block hO.told (Option.mem_toList.1 hb)
   exact block_ne hc ht (by decide) rfl
 rcases List.mem_cons.1 hb with hb | hb
 · exact block_ne hO.ring.blk ht (by decide) hb.symm
 · obtain ⟨c,hc⟩:=own_block hO.ring.own (Option.mem_toList.1 hb)
   exact block_ne hc ht (by decide) rfl
def RunS (B rows cols room:Nat) (w0:World) (P D N:Nat) (w:World):Prop :=
 ∃ g qp qd,PgInv rows cols room g∧g.told.length ≤ N∧qp.P = P∧qd.D = D∧Both B w qp qd g∧Below w0.heap.size w0 w∧w0.heap.size ≤ B
theorem RunS.does {B rows cols room:Nat} {w0:World} {P D N:Nat} {w:World} (h:RunS B rows cols room w0 P D N w) (hrow0:0 < rows) (hrows:rows ≤ 12) (hroom:room ≤ 20) (hN:N ≤ 10000) (o:Pop) (hok:PopOk o) :
 Calls Tryz.prog 9 #[.pointer (some ⟨P,0,none⟩),.pointer (some ⟨D,0,none⟩),.agg #[.int .i64 o.kind,.int .i64 o.x,.int .i64 o.n,.int .i32 o.r,.int .i64 o.at_.fk,.int .i64 o.at_.fn,.int .i64 o.at_.bk,.int .i64 o.at_.bn,.int .i64 o.at_.fl,.int .i64 o.y,.int .i64 o.top,.int .i64 o.bottom]] w (fun e w' => e = .returned (.tuple #[])∧RunS B rows cols room w0 P D (N + 100) w'):=by
 obtain ⟨g,qp,qd,hg,ht,e1,e2,hBo,hBw,hw0⟩:=h
 have:=does_any hBo hg hrow0 (by omega) (by omega) (by omega) o hok
 rw [e1,e2] at this
 refine this.mono ?_
 rintro e w' ⟨rfl,hs⟩
 have hBsz:B ≤ w.heap.size:=by have:=hBo.p.lt qp.P (by simp [pgX]);omega
 have hB2:Below B w w':=hs.below0 hBo hBsz
 obtain ⟨qp2,qd2,f1,f2,hBo2,-,-⟩:=hs
 have hst:=step_told g o
 have h1:=hg.hrows
 exact ⟨rfl,stepP g o,qp2,qd2,hg.step o,by omega,f1.trans e1,f2.trans e2,hBo2,hBw.trans (Below.mono hB2 hw0),hw0⟩
def SizeS (B room:Nat) (w0:World) (P D:Nat) (w:World):Prop :=
 ∃ g t qp qd r c,PgInv r c room g∧(1 ≤ r∧r ≤ 40∧2 ≤ c∧c ≤ 60)∧qp.P = P∧qd.D = D∧Both2 B w qp qd g { g with told:=t }∧Below w0.heap.size w0 w∧w0.heap.size ≤ B
theorem SizeS.below {B room:Nat} {w0:World} {P D:Nat} {w w':World} (h:SizeS B room w0 P D w) (hb:Below w.heap.size w w'):SizeS B room w0 P D w':=by
 obtain ⟨g,t,qp,qd,r,c,hg,hrc,e1,e2,hBo,hBw,hw0⟩:=h
 exact ⟨g,t,qp,qd,r,c,hg,hrc,e1,e2,hBo.below hb,below_tail hBw hb,hw0⟩
set_option maxHeartbeats 12800000 in
theorem PageResizes_walk (a b c:Int) (ha:0 ≤ a) (hb:0 ≤ b) (hc:0 ≤ c) (A:Option Addr) (l:List Pop) (ca:Nat) (B2:Option Addr) (tz:List Sd) (cb:Nat) (w:World) (hz:l.length ≤ 9223372036854775807) (hl:GrAt encPop 12 w A l) (hok:∀ o ∈ l,PopOk o) (hz2:tz.length ≤ 9223372036854775807) (hto:GrAt encSd 5 w B2 tz) (hsk:∀ c ∈ tz,okSd w c) :
 Calls Tryz.prog 6 #[.agg #[.int .u8 a,.int .u8 b,.int .u8 c],.slice A l.length ca,.slice B2 tz.length cb] w (TruePost w):=by
 have hb0:=below_allocs (Below.refl w.heap.size w) (.cells #[.int .u8 a,.int .u8 b,.int .u8 c] 23)
 have HB0:=Hd hb0
 have HAW:=Hd (fun w => awake13 w)
 have HL:=Hd hl
 have HOK:=Hd hok
 have HTO:=Hd hto
 have HSK:=Hd hsk
 have HX:=Hd (hp_new (W:=w) (b:=w.heap.size) (o:=.cells #[.int .u8 a,.int .u8 b,.int .u8 c] 23) rfl)
 by_cases h30:30 < l.length
 · have h30I:(30:Int) < (l.length:Int):=by omega
   clear hl hb0 hok hto hsk
   go_enter Tryz.func6,Tryz.ntmps6
   go_wp2_with (go_at_call 7;(with_reducible refine (HAW.out _).mono ?_);rintro e w1 ⟨rfl,hb⟩;have HB1:=Hd (below_tail HB0.out hb);clear hb)
   go_ret
   exact ⟨rfl,HB1.out⟩
 have h30I:¬ (30:Int) < (l.length:Int):=by omega
 by_cases h6:6 < tz.length
 · have h6I:(6:Int) < (tz.length:Int):=by omega
   clear hl hb0 hok hto hsk
   go_enter Tryz.func6,Tryz.ntmps6
   go_wp2_with (go_at_call 7;(with_reducible refine (HAW.out _).mono ?_);rintro e w1 ⟨rfl,hb⟩;have HB1:=Hd (below_tail HB0.out hb);clear hb)
   go_ret
   exact ⟨rfl,HB1.out⟩
 have h6I:¬ (6:Int) < (tz.length:Int):=by omega
 obtain ⟨rows,hrows⟩:∃ rows,rows = 1 + (a % 12).toNat:=⟨_,rfl⟩
 obtain ⟨cols,hcols⟩:∃ cols,cols = 2 + (b % 20).toNat:=⟨_,rfl⟩
 obtain ⟨room,hroom⟩:∃ room,room = (c % 20).toNat:=⟨_,rfl⟩
 have HMD:Hid (∀ w,Calls Tryz.prog 8 #[.agg #[.int .u8 a,.int .u8 b,.int .u8 c]] w (MadePost rows cols room w)):=Hd (fun w => by rw [hrows,hcols,hroom];exact made_any a b c w ha hb hc)
 have HRW:Hid (0 < rows∧rows ≤ 12∧room ≤ 20∧2 ≤ cols∧cols ≤ 22):=Hd (by omega)
 clear hl hb0 hok hrows hcols hroom hto hsk
 go_enter Tryz.func6,Tryz.ntmps6
 go_upto_region 3 with (go_at_call 7;(with_reducible refine (HAW.out _).mono ?_);rintro e w1 ⟨rfl,hb⟩;have HB1:=Hd (below_tail HB0.out hb);have HX1:=Hd ((hb.block _ (lt_of_heap HX.out)).trans HX.out);clear hb)
 have x0:=(at_ HX1.out 0 _ rfl).1
 have x1:=(at_ HX1.out 1 _ rfl).1
 have x2:=(at_ HX1.out 2 _ rfl).1
 go_wp2_with (go_at_call 8;(with_reducible refine (HMD.out _).mono ?_);rintro e w2 ⟨qp0,qd0,rfl,hbo,hb⟩;have HBO:=Hd hbo;have HB2:=Hd (below_tail HB1.out hb);have HB12:=Hd hb;clear hbo hb x0 x1 x2)
 obtain ⟨B,hB⟩:∃ B,B = w1.heap.size:=⟨_,rfl⟩
 rw [← hB] at HBO
 have HBB:Hid (w.heap.size ≤ B∧B ≤ w2.heap.size):=Hd ⟨by rw [hB];exact HB1.out.size,by rw [hB];exact HB12.out.size⟩
 clear hB
 go_loopw [9] (fun s9 wr => ∃ i:Nat,s9 = .int .i64 i∧i ≤ l.length∧RunS B rows cols room w qp0.P qd0.D (100 * i) wr) (fun s9 _ => l.length - (intOf s9).toNat)
 case atStart => exact ⟨0,rfl,Nat.zero_le _,newP rows cols room,qp0,qd0,newP_inv _ _ _,Nat.zero_le _,rfl,rfl,HBO.out,HB2.out,HBB.out.1⟩
 case round =>
  obtain ⟨i,rfl,hi,hP⟩:=hrel
  have hbw:Below w.heap.size w wr:=by obtain ⟨_,_,_,_,_,_,_,_,h,_⟩:=hP;exact h
  by_cases hlt:i < l.length
  · have hltI:(i:Int) < (l.length:Int):=by omega
    obtain ⟨bb,off,o,rfl,ho,hcell⟩:=(HL.out.below hbw).at_ hlt
    have HDO:=Hd (hP.does HRW.out.1 HRW.out.2.1 HRW.out.2.2.1 (by omega) o (HOK.out o (List.mem_of_getElem? ho)))
    have c0:=hcell 0 _ rfl
    have c1:=hcell 1 _ rfl
    have c2:=hcell 2 _ rfl
    have c3:=hcell 3 _ rfl
    have c4:=hcell 4 _ rfl
    have c5:=hcell 5 _ rfl
    have c6:=hcell 6 _ rfl
    have c7:=hcell 7 _ rfl
    have c8:=hcell 8 _ rfl
    have c9:=hcell 9 _ rfl
    have c10:=hcell 10 _ rfl
    have c11:=hcell 11 _ rfl
    simp only [Nat.add_zero] at c0
    clear hP hcell ho hbw
    go_wp2_with (go_at_call 9;(with_reducible refine HDO.out.mono ?_);rintro e w3 ⟨rfl,hs⟩;have HS3:=Hd hs;clear hs c0 c1 c2 c3 c4 c5 c6 c7 c8 c9 c10 c11)
    go_roundw
    case rel => exact ⟨i + 1,by go_num,by omega,by rw [show 100 * (i + 1) = 100 * i + 100 by omega];exact HS3.out⟩
    case measure => simp [intOf];omega
  · have hge:¬ (i:Int) < (l.length:Int):=by omega
    have HP0:Hid (SizeS B room w qp0.P qd0.D wr):=Hd (by
     obtain ⟨g,qp,qd,hg,ht,e1,e2,hBo,hBw,hw0⟩:=hP
     exact ⟨g,g.told,qp,qd,rows,cols,hg,by have:=HRW.out;omega,e1,e2,⟨hBo.p,hBo.d,hBo.ap⟩,hBw,hw0⟩)
    clear hP hbw
    obtain ⟨wv,hwv⟩:∃ wv,wv = wr:=⟨_,rfl⟩
    subst hwv
    go_wp2_with fail
    go_loopw [10] (fun s10 wr => ∃ j:Nat,s10 = .int .i64 j∧j ≤ tz.length∧SizeS B room w qp0.P qd0.D wr) (fun s10 _ => tz.length - (intOf s10).toNat)
    case atStart => exact ⟨0,rfl,Nat.zero_le _,HP0.out⟩
    case round =>
     obtain ⟨j,rfl,hj,hS⟩:=hrel
     have HS:=Hd hS
     obtain ⟨g,t,qp,qd,r0,c0,hg,hrc,e1,e2,hBo,hBw,hw0⟩:=hS
     have HBW:=Hd hBw
     by_cases hlj:j < tz.length
     rotate_left
     · have hgej:¬ (j:Int) < (tz.length:Int):=by omega
       clear hg hrc e1 e2 hBo hBw hw0
       go_wp2
       go_ret
       exact ⟨rfl,HBW.out⟩
     · have hljI:(j:Int) < (tz.length:Int):=by omega
       have hwj:IntKind.i64.wrap ((j:Int) + 1) = (j:Int) + 1:=IntWalk.i64_in _ (by omega)
       obtain ⟨bb,off,x,rfl,hx,hcell⟩:=(HTO.out.below hBw).at_ hlj
       have HXO:=Hd (HSK.out x (List.mem_of_getElem? hx))
       obtain ⟨xr,xc,xa1,xa2,xA,pl,xcap⟩:=x
       obtain ⟨pn,hpn⟩:∃ pn,pl.length = pn:=⟨_,rfl⟩
       have HPN:=Hd hpn
       have y0:wr.cell? ⟨bb,off + j * 5,none⟩ = some (.int .i64 xr):=hcell 0 _ rfl
       have y1:wr.cell? ⟨bb,off + j * 5 + 1,none⟩ = some (.int .i64 xc):=hcell 1 _ rfl
       have y2:wr.cell? ⟨bb,off + j * 5 + 2,none⟩ = some (.int .i64 xa1):=hcell 2 _ rfl
       have y3:wr.cell? ⟨bb,off + j * 5 + 3,none⟩ = some (.int .i64 xa2):=hcell 3 _ rfl
       have y4:wr.cell? ⟨bb,off + j * 5 + 4,none⟩ = some (.slice xA pn xcap):=by rw [← hpn];exact hcell 4 _ rfl
       have ly0:=lt_of_cell y0
       have hb4:=below_allocs (Below.refl wr.heap.size wr) (.cells #[.int .i64 xr,.int .i64 xc,.int .i64 xa1,.int .i64 xa2,.slice xA pn xcap] 60)
       have hn4:=hp_new (W:=wr) (b:=wr.heap.size) (o:=.cells #[.int .i64 xr,.int .i64 xc,.int .i64 xa1,.int .i64 xa2,.slice xA pn xcap] 60) rfl
       have HG:=Hd (And.intro hg (And.intro hrc (And.intro e1 (And.intro e2 (And.intro hBo hw0)))))
       clear hcell hx hpn hg hrc e1 e2 hBo hBw hw0
       go_upto_region 14 with fail
       generalize World.alloc _ _ = W4 at hn4 hb4 ⊢
       have HN4:=Hd hn4
       have HB4:=Hd hb4
       clear y0 y1 y2 y3 y4 ly0 hn4 hb4
       have z0:=(at_ HN4.out 0 _ rfl).1
       have z1:=(at_ HN4.out 1 _ rfl).1
       have z3:=(at_ HN4.out 4 _ rfl).1
       obtain ⟨gb,hgb⟩:∃ gb:Bool,gb = decide (20 < pn ∨ (40 < xr∧xr ≤ 1000) ∨ (60 < xc∧xc ≤ 1000)):=⟨_,rfl⟩
       have HGB:=Hd hgb
       clear hgb
       go_cut [83] (fun s83 wx => s83 = .bool gb∧W4 = wx)
       case first =>
        as_aux_lemma =>
        by_cases h0:20 < pn
        · have h0I:(20:Int) < (pn:Int):=by omega
          go_wp2
          go_meet
          exact ⟨by rw [HGB.out,decide_eq_true (Or.inl h0)],rfl⟩
        · have h0I:¬ (20:Int) < (pn:Int):=by omega
          rcases (show (¬ 40 < xr) ∨ (40 < xr∧¬ xr ≤ 1000) ∨ (40 < xr∧xr ≤ 1000) by omega) with h1 | ⟨h1,h2⟩ | ⟨h1,h2⟩
          · rcases (show (¬ 60 < xc) ∨ (60 < xc∧¬ xc ≤ 1000) ∨ (60 < xc∧xc ≤ 1000) by omega) with h3 | ⟨h3,h4⟩ | ⟨h3,h4⟩
            · go_wp2;go_meet;exact ⟨by rw [HGB.out,decide_eq_false (by omega)],rfl⟩
            · go_wp2;go_meet;exact ⟨by rw [HGB.out,decide_eq_false (by omega)],rfl⟩
            · go_wp2;go_meet;exact ⟨by rw [HGB.out,decide_eq_true (by omega)],rfl⟩
          · rcases (show (¬ 60 < xc) ∨ (60 < xc∧¬ xc ≤ 1000) ∨ (60 < xc∧xc ≤ 1000) by omega) with h3 | ⟨h3,h4⟩ | ⟨h3,h4⟩
            · go_wp2;go_meet;exact ⟨by rw [HGB.out,decide_eq_false (by omega)],rfl⟩
            · go_wp2;go_meet;exact ⟨by rw [HGB.out,decide_eq_false (by omega)],rfl⟩
            · go_wp2;go_meet;exact ⟨by rw [HGB.out,decide_eq_true (by omega)],rfl⟩
          · go_wp2;go_meet;exact ⟨by rw [HGB.out,decide_eq_true (by omega)],rfl⟩
       obtain ⟨rfl,rfl⟩:=hcut
       clear z0 z1 z3
       have HBW4:=Hd (below_tail HBW.out HB4.out)
       cases gb with
       | true =>
         go_wp2
         go_ret
         exact ⟨rfl,HBW4.out⟩
       | false =>
         obtain ⟨hg,hrc,e1,e2,hBo,hw0⟩:=HG.out
         have hNG:¬ (20 < pn ∨ (40 < xr∧xr ≤ 1000) ∨ (60 < xc∧xc ≤ 1000)):=of_decide_eq_false HGB.out.symm
         have hBo4:=hBo.below HB4.out
         have hBsz:B ≤ W4.heap.size:=by have:=hBo4.p.lt qp.P (by simp [pgX]);omega
         have hlen:(g.hist ++ g.scr).length ≤ 60:=by rw [List.length_append,hg.hrows];have:=hg.hhist;have:=HRW.out;omega
         have z0:=(at_ HN4.out 0 _ rfl).1
         have z1:=(at_ HN4.out 1 _ rfl).1
         have z2:=(at_ HN4.out 2 _ rfl).1
         have z3:=(at_ HN4.out 3 _ rfl).1
         have z4:=(at_ HN4.out 4 _ rfl).1
         cases hf:fitsB xr xc with
         | false =>
           as_aux_lemma =>
           have HPB:=Hd (presize_bad hBo4.p xr xc hf xa1 xa2 (.slice xA pn xcap))
           rw [e1] at HPB
           have HFI:Hid (∀ w':World,Calls Tryz.prog 20 #[.int .i64 xr,.int .i64 xc] w' fun e w'' => e = .returned (.bool false)∧w' = w''):=Hd (fun w' => by have:=dfits_any xr xc w';rw [hf] at this;exact this)
           have HAL:Hid (∀ w',Below W4.heap.size W4 w'→Calls Tryz.prog 12 #[.pointer (some ⟨qp0.P,0,none⟩),.pointer (some ⟨qd0.D,0,none⟩)] w' (fun e w'' => e = .returned (.bool true)∧Below w'.heap.size w' w'')):=Hd (fun w' hb => by
            have:=alike_any (g:=g) (hBo4.p.below hb) t (hBo4.d.below hb) (by omega)
            rw [e1,e2] at this
            exact this)
           clear hg hrc e1 e2 hBo hw0 hNG hBo4 hBsz hlen hf
           go_upto_region 17 with (go_at_call 15;(with_reducible refine HPB.out.mono ?_);rintro e w5 ⟨rfl,hb5⟩;have HB5:=Hd hb5;have HN5:=Hd ((hb5.block _ (lt_of_heap HN4.out)).trans HN4.out);clear hb5)
           have hb6:=below_allocs (Below.refl w5.heap.size w5) (.cells #[.int .i64 0,.int .i64 0] 57)
           have hn6:=hp_new (W:=w5) (b:=w5.heap.size) (o:=.cells #[.int .i64 0,.int .i64 0] 57) rfl
           have hn6x:=(hb6.block _ (lt_of_heap HN5.out)).trans HN5.out
           generalize World.alloc _ _ = W6 at hn6 hb6 hn6x ⊢
           have HB6:=Hd (below_tail HB5.out hb6)
           have q0:=(at_ hn6 0 _ rfl).1
           have q1:=(at_ hn6 1 _ rfl).1
           clear z0 z1 z2 z3 z4
           have z0:=(at_ hn6x 0 _ rfl).1
           have z1:=(at_ hn6x 1 _ rfl).1
           clear hb6 hn6 hn6x
           go_wp2_with (first
            | (go_at_call 20;(with_reducible refine (HFI.out _).mono ?_);rintro e w9 ⟨rfl,rfl⟩)
            | (go_at_call 12;(with_reducible refine (HAL.out _ HB6.out).mono ?_);rintro e w7 ⟨rfl,hb7⟩;have HB7:=Hd (below_tail HB6.out hb7);clear hb7))
           go_roundw
           case rel => exact ⟨j + 1,by go_num,by omega,HS.out.below (below_tail HB4.out HB7.out)⟩
           case measure => simp [intOf];omega
         | true =>
           as_aux_lemma =>
           have hf2:1 ≤ xr∧xr ≤ 1000∧2 ≤ xc∧xc ≤ 1000:=by unfold fitsB at hf;simpa using hf
           obtain ⟨rn,rfl⟩:∃ rn:Nat,xr = rn:=⟨xr.toNat,by omega⟩
           obtain ⟨cn,rfl⟩:∃ cn:Nat,xc = cn:=⟨xc.toNat,by omega⟩
           have hrn:1 ≤ rn∧rn ≤ 40∧2 ≤ cn∧cn ≤ 60:=by omega
           obtain ⟨-,-,-,-,hgr,hok2,-⟩:=HXO.out
           have hgr:GrAt encP 2 w xA pl:=hgr
           have hok2:Ok2 pl:=hok2
           have hpz:pl.length ≤ 20:=by have:=HPN.out;omega
           have hcnt:cntL (g.hist ++ g.scr) ≤ 3600:=by
            have h1:=cntL_le (N:=60) (L:=g.hist ++ g.scr) (fun x hx => by rw [hg.wide x hx];omega)
            omega
           have hwide:∀ r ∈ g.hist ++ g.scr,r.cs.length = g.cols:=fun x hx => by rw [hg.wide x hx,hg.hcols]
           have hs0:0 < g.scr.length:=by rw [hg.hrows];omega
           obtain ⟨g2,hg2⟩:∃ g2,resizeG g rn cn (xa1,xa2) pl = g2:=⟨_,rfl⟩
           obtain ⟨⟨ra1,ra2⟩,hra⟩:∃ p,resizeAt g rn cn (xa1,xa2) pl = p:=⟨_,rfl⟩
           obtain ⟨L2,hL2⟩:∃ L2,resizeL g rn cn (xa1,xa2) pl = L2:=⟨_,rfl⟩
           have hL2l:L2.length = pn:=by
            rw [← hL2,← HPN.out]
            unfold resizeL rsP1
            split
            · simp [rsP]
            · simp [rsP]
           have HPR:Hid (Calls Tryz.prog 15 #[.pointer (some ⟨qp0.P,0,none⟩),.int .i64 rn,.int .i64 cn,.agg #[.int .i64 xa1,.int .i64 xa2],.slice xA pn xcap] W4 (fun e w' => ∃ A' c',e = .returned (.tuple #[.agg #[.int .i64 ra1,.int .i64 ra2],.slice A' pn c',.int .i64 0])∧GrAt encP 2 w' A' L2∧(∀ b off,A' = some ⟨b,off,none⟩→W4.heap.size ≤ b)∧PgRes B W4 qp g2 w')):=Hd (by
            have:=presize_any hBo4.p hBsz hs0 rn cn (by omega) (by omega) (by omega) (by omega) xa1 xa2 xA pl xcap (hgr.below HBW4.out) (by omega) hok2 (by omega) (by omega) hwide
            rw [e1,HPN.out] at this
            refine this.mono ?_
            rintro e w' ⟨A',c',he,h1,h2,h3⟩
            rw [hra,hL2,hL2l] at he
            rw [hL2] at h1
            rw [hg2] at h3
            exact ⟨A',c',he,h1,h2,h3⟩)
           have HFI:Hid (∀ w':World,Calls Tryz.prog 20 #[.int .i64 rn,.int .i64 cn] w' fun e w'' => e = .returned (.bool true)∧w' = w''):=Hd (fun w' => by have:=dfits_any rn cn w';rw [hf] at this;exact this)
           have HRD:Hid (∀ w',PgRes B W4 qp g2 w'→Below w.heap.size w w'→Calls Tryz.prog 21 #[.pointer (some ⟨qd0.D,0,none⟩),.int .i64 rn,.int .i64 cn,.agg #[.int .i64 xa1,.int .i64 xa2],.slice xA pn xcap] w' (fun e w'' => ∃ A' c',e = .returned (.tuple #[.agg #[.int .i64 ra1,.int .i64 ra2],.slice A' pn c'])∧GrAt encP 2 w'' A' L2∧DcRes B w' qd (dcOf g2) w'')):=Hd (fun w' hs hbw => by
            have hd:=hBo4.mid hs
            have hsz:B ≤ w'.heap.size:=by have:=hs.modr.size;omega
            have:=rdResize_pre (fun A L ca cols B l cb w => rReflow_any A L ca cols B l cb w) (g:={ g with told:=t }) hd hsz hs0 rn cn (by omega) (by omega) (by omega) (by omega) xa1 xa2 xA pl xcap (hgr.below hbw) (by omega) hok2 (by show cntL (g.hist ++ g.scr) ≤ 10000;omega) (by show (g.hist ++ g.scr).length ≤ 10000;omega) hwide
            rw [e2,HPN.out] at this
            refine this.mono ?_
            rintro e w'' ⟨A',c',he,h1,h2⟩
            have k1:resizeAt { g with told:=t } rn cn (xa1,xa2) pl = (ra1,ra2):=hra
            have k2:resizeL { g with told:=t } rn cn (xa1,xa2) pl = L2:=hL2
            have k3:resizeG { g with told:=t } rn cn (xa1,xa2) pl = g2:=hg2
            rw [k1,k2,hL2l] at he
            rw [k2] at h1
            rw [k3] at h2
            exact ⟨A',c',he,h1,h2⟩)
           have HBO4:=Hd hBo4
           have HPZ:Hid (pn ≤ 20):=Hd (by have:=HPN.out;omega)
           have HQX:Hid ((∀ b ∈ pgX qp,b < wr.heap.size)∧(∀ b ∈ dcX qd,b < wr.heap.size)∧(∀ b ∈ pgX qp,B ≤ b)):=Hd ⟨fun b hb => (hBo.p.lt b hb).2,fun b hb => (hBo.d.lt b hb).2,fun b hb => (hBo.p.lt b hb).1⟩
           have HI2:Hid (PgInv rn cn room g2):=Hd (by rw [← hg2];exact resize_inv hg rn cn (by omega) _ _)
           have HT2:Hid (g2.told.length ≤ 1):=Hd (by
            rw [← hg2]
            unfold resizeG tailG
            simp only
            split <;> simp)
           have HEE:=Hd (And.intro e1 (And.intro e2 (And.intro hw0 (And.intro hrn (And.intro hBsz hL2l)))))
           clear hg hrc e1 e2 hBo hw0 hNG hBo4 hBsz hlen hf hf2 hrn hgr hok2 hpz hcnt hwide hs0 hg2 hra hL2 hL2l
           go_upto_region 17 with (go_at_call 15;(with_reducible refine HPR.out.mono ?_);rintro e w5 ⟨A5,c5,rfl,hgr5,hfr5,hs5⟩;have HGR5:=Hd hgr5;have HFR5:=Hd hfr5;have HS5:=Hd hs5;have HN5:=Hd ((hs5.modr.block _ (lt_of_heap HN4.out) (fun hX => by have:=HQX.out.1 _ hX;omega)).trans HN4.out);clear hgr5 hfr5 hs5)
           have hb6:=below_allocs (Below.refl w5.heap.size w5) (.cells #[.int .i64 ra1,.int .i64 ra2] 57)
           have hn6:=hp_new (W:=w5) (b:=w5.heap.size) (o:=.cells #[.int .i64 ra1,.int .i64 ra2] 57) rfl
           have hn6x:=(hb6.block _ (lt_of_heap HN5.out)).trans HN5.out
           generalize World.alloc _ _ = W6 at hn6 hb6 hn6x ⊢
           have HS6:=Hd (HS5.out.post hb6)
           have HGR6:=Hd (HGR5.out.below hb6)
           have HQ6:=Hd hn6
           have HN6:=Hd hn6x
           have HBW6:Hid (Below w.heap.size w W6):=Hd (HBW4.out.trans ((HS6.out.modr).below (fun b hb => Nat.le_trans HEE.out.2.2.1 (HQX.out.2.2 b hb)) HBW4.out.size))
           clear z0 z1 z2 z3 z4
           have z0:=(at_ hn6x 0 _ rfl).1
           have z1:=(at_ hn6x 1 _ rfl).1
           have z2:=(at_ hn6x 2 _ rfl).1
           have z3:=(at_ hn6x 3 _ rfl).1
           have z4:=(at_ hn6x 4 _ rfl).1
           clear hb6 hn6 hn6x
           go_upto_region 21 with (first
            | (go_at_call 20;(with_reducible refine (HFI.out _).mono ?_);rintro e w9 ⟨rfl,rfl⟩)
            | (go_at_call 21;(with_reducible refine (HRD.out _ HS6.out HBW6.out).mono ?_);rintro e w7 ⟨A7,c7,rfl,hgr7,hs7⟩;have HGR7:=Hd hgr7;have HS7:=Hd hs7;clear hgr7 hs7 z0 z1 z2 z3 z4))
           have hb8:=below_allocs (Below.refl w7.heap.size w7) (.cells #[.int .i64 ra1,.int .i64 ra2] 57)
           have hn8:=hp_new (W:=w7) (b:=w7.heap.size) (o:=.cells #[.int .i64 ra1,.int .i64 ra2] 57) rfl
           generalize World.alloc _ _ = W8 at hn8 hb8 ⊢
           have HS8:=Hd (HS7.out.post hb8)
           have HGR8:=Hd (HGR7.out.below hb8)
           have h48:W4.heap.size ≤ W6.heap.size:=HS6.out.modr.size
           have h4r:wr.heap.size ≤ W4.heap.size:=HB4.out.size
           have hm8:Mod (dcX qd) W6 W8:=by obtain ⟨_,_,_,hm,_⟩:=HS8.out;exact hm
           have hQ8:W8.heap[w5.heap.size]? = some (.cells #[.int .i64 ra1,.int .i64 ra2] 57 (0,0)):=(hm8.block _ (lt_of_heap HQ6.out) (fun hX => by have h1:=HQX.out.2.1 _ hX;have h2:=HS5.out.modr.size;omega)).trans HQ6.out
           have HPL8:Hid (GrAt encP 2 W8 A5 L2):=Hd (fun h0 => by
            obtain ⟨b,off,he,hc⟩:=HGR6.out h0
            exact ⟨b,off,he,fun i x hx j v hv => hm8.cell (fun hX => by have h1:=HQX.out.2.1 _ hX;have h2:=HFR5.out b off he;omega) (hc i x hx j v hv)⟩)
           have hbo:=HBO4.out.step HS6.out HS8.out
           have hbl:Below B W4 W8:=hbo.below0 HBO4.out HEE.out.2.2.2.2.1
           obtain ⟨qp2,qd2,f1,f2,hBo2,-,-⟩:=hbo
           have f1:qp2.P = qp0.P:=f1.trans HEE.out.1
           have f2:qd2.D = qd0.D:=f2.trans HEE.out.2.1
           have HBW8:Hid (Below w.heap.size w W8):=Hd (HBW4.out.trans (Below.mono hbl HEE.out.2.2.1))
           obtain ⟨Ad,cd,hvd⟩:=row_form hBo2.d.told
           have hvd:qd2.vt = .slice Ad g2.told.length cd:=hvd
           have y5:=hBo2.d.cells.2.2.2.2.2.1
           rw [hvd,f2] at y5
           obtain ⟨nt,hnt⟩:∃ nt,nt = g2.told.length:=⟨_,rfl⟩
           rw [← hnt] at y5
           have hDp:qd0.D ∉ pgX qp2:=fun hx => hBo2.ap _ hx (by rw [← f2];simp [dcX])
           have hkp:w5.heap.size ∉ pgX qp2:=pgX_pos hBo2.p hQ8
           have hkq:w7.heap.size ∉ pgX qp2:=pgX_pos hBo2.p hn8
           have HPLC:Hid (∀ w',Below W8.heap.size W8 w'→Calls Tryz.prog 22 #[.slice A5 pn c5,.slice A7 pn c7] w' (fun e w'' => e = .returned (.bool true)∧Below w'.heap.size w' w'')):=Hd (fun w' hb => by
            have hl:=HEE.out.2.2.2.2.2
            have:=Places_eq A5 A7 L2 c5 c7 w' (HPL8.out.below hb) (HGR8.out.below hb) (by rw [hl];have:=HPZ.out;omega)
            rw [hl] at this
            exact this)
           have HAL:Hid (∀ w',Below W8.heap.size W8 w'→Calls Tryz.prog 12 #[.pointer (some ⟨qp0.P,0,none⟩),.pointer (some ⟨qd0.D,0,none⟩)] w' (fun e w'' => e = .returned (.bool true)∧Below w'.heap.size w' w'')):=Hd (fun w' hb => by
            have:=alike_any (g:=g2) (hBo2.p.below hb) g2.told (hBo2.d.below hb) (by have h1:=HI2.out.hhist;have h2:=HI2.out.hrows;have h3:=HRW.out;have h4:=HEE.out.2.2.2.1;rw [List.length_append];omega)
            rw [f1,f2] at this
            exact this)
           have HSH:Hid (∀ w',Below W8.heap.size W8 w'→Calls Tryz.prog 11 #[.pointer (some ⟨qp0.P,0,none⟩)] w' (ShiftsPost B w' qp2 g2)):=Hd (fun w' hb => by rw [← f1];exact pShifts_any (hBo2.p.below hb))
           have HSE:Hid (∀ w' A3 c3,w'.ownsRow B 88 3 (.slice A3 nt c3) g2.told.length (flat encTl g2.told)→PgRes B W8 qp2 { g2 with told:=[] } w'→Calls Tryz.prog 10 #[.slice A3 nt c3,.slice Ad nt cd] w' (fun e w'' => e = .returned (.bool true)∧Below w'.heap.size w' w'')):=Hd (fun w' A3 c3 ho hs => by
            have hd:=(hBo2.mid hs).told
            rw [hvd] at hd
            have:=Shifts_eq A3 Ad g2.told c3 cd w' (gr_of_own encTl_len ho) (gr_of_own encTl_len hd) (by have:=HT2.out;omega)
            rw [hnt]
            exact this)
           have HFIN:Hid (∀ w' w'',PgRes B W8 qp2 { g2 with told:=[] } w'→Below w'.heap.size w' w''→SizeS B room w qp0.P qd0.D w''):=Hd (fun w' w'' hs hb => by
            have hbo:=hBo2.step hs (hBo2.mid hs).res
            have hbl:=hbo.below0 hBo2 (Nat.le_trans HEE.out.2.2.2.2.1 (Nat.le_trans h48 hm8.size))
            obtain ⟨qp4,qd4,k1,k2,hBo4,-,-⟩:=hbo
            have hinv:=HI2.out
            exact ⟨{ g2 with told:=[] },g2.told,qp4,qd4,rn,cn,hinv.told [],HEE.out.2.2.2.1,k1.trans f1,k2.trans f2,hBo4.below hb,below_tail (HBW8.out.trans (Below.mono hbl HEE.out.2.2.1)) hb,HEE.out.2.2.1⟩)
           have HCELL:Hid (∀ w',PgRes B W8 qp2 { g2 with told:=[] } w'→w'.cell? ⟨qd0.D,5,none⟩ = some (.slice Ad nt cd)∧w'.cell? ⟨w5.heap.size,0,none⟩ = some (.int .i64 ra1)∧w'.cell? ⟨w5.heap.size,1,none⟩ = some (.int .i64 ra2)∧w'.cell? ⟨w7.heap.size,0,none⟩ = some (.int .i64 ra1)∧w'.cell? ⟨w7.heap.size,1,none⟩ = some (.int .i64 ra2)):=Hd (fun w' hs => ⟨hs.modr.cell hDp y5,hs.modr.cell hkp (at_ hQ8 0 _ rfl).1,hs.modr.cell hkp (at_ hQ8 1 _ rfl).1,hs.modr.cell hkq (at_ hn8 0 _ rfl).1,hs.modr.cell hkq (at_ hn8 1 _ rfl).1⟩)
           have q0:=(at_ hQ8 0 _ rfl).1
           have q1:=(at_ hQ8 1 _ rfl).1
           have r0':=(at_ hn8 0 _ rfl).1
           have r1':=(at_ hn8 1 _ rfl).1
           have HNT:=Hd hnt
           clear h48 h4r hm8 hQ8 hbl f1 f2 hBo2 hvd hnt hDp hkp hkq hb8 hn8
           refine Go.RL.wp_region_l 26 (fun w' => w'.cell? ⟨qd0.D,5,none⟩ = some (.slice Ad nt cd)∧w'.cell? ⟨w5.heap.size,0,none⟩ = some (.int .i64 ra1)∧w'.cell? ⟨w5.heap.size,1,none⟩ = some (.int .i64 ra2)∧w'.cell? ⟨w7.heap.size,0,none⟩ = some (.int .i64 ra1)∧w'.cell? ⟨w7.heap.size,1,none⟩ = some (.int .i64 ra2)) (fun w' => Below W8.heap.size W8 w') (by as_aux_lemma => kernel_rfl) (by as_aux_lemma => kernel_rfl) ⟨y5,q0,q1,r0',r1'⟩ ((Below.refl _ _).drew) ?_
           refine Go.RL.AtL.go 0 ?_
           iterate 10 (refine Go.RL.AtK.take (o:=⟨_,_,_,_,_,_⟩) (v:=?_) (by as_aux_lemma => kernel_rfl) rfl (by simp) (by as_aux_lemma => kernel_rfl) (by as_aux_lemma => kernel_rfl) ?_ ?_;rotate_left;(focus (refine Go.RL.Pure.val (by rfl) ?_;intro w' hI;obtain ⟨_,_,_,_,_⟩:=hI;go_simp;first | done | with_reducible rfl));simp only [Act.put,List.setIfInBounds_toArray,List.set_cons_zero,List.set_cons_succ])
           refine Go.RL.AtK.back ?_
           refine Go.RL.AtL.one 10 (o:=⟨_,_,_,_,_,_⟩) (fun v => v = .bool true) (fun v w' => Below W8.heap.size W8 w') (by simp) (by as_aux_lemma => kernel_rfl) rfl
            (Go.RL.StabL.call 22 #[.slice A5 pn c5,.slice A7 pn c7] _ _ (by rfl) ?_ (fun w' hI hS => ?_)) ?_
           · intro w'
             go_simp
           · refine (HPLC.out w' hS).mono ?_
             rintro e w4 ⟨rfl,hb⟩
             exact ⟨_,rfl,rfl,⟨holda hb hI.1,holda hb hI.2.1,holda hb hI.2.2.1,holda hb hI.2.2.2.1,holda hb hI.2.2.2.2⟩,below_tail hS hb⟩
           rintro v rfl
           simp only [Act.put,List.setIfInBounds_toArray,List.set_cons_zero,List.set_cons_succ]
           refine Go.RL.AtL.go 11 ?_
           iterate 5 (refine Go.RL.AtK.take (o:=⟨_,_,_,_,_,_⟩) (v:=?_) (by as_aux_lemma => kernel_rfl) rfl (by simp) (by as_aux_lemma => kernel_rfl) (by as_aux_lemma => kernel_rfl) ?_ ?_;rotate_left;(focus (refine Go.RL.Pure.val (by rfl) ?_;intro w' hI;obtain ⟨_,_,_,_,_⟩:=hI;go_simp;first | done | with_reducible rfl));simp only [Act.put,List.setIfInBounds_toArray,List.set_cons_zero,List.set_cons_succ])
           refine Go.RL.AtK.back ?_
           refine Go.RL.AtL.one 16 (o:=⟨_,_,_,_,_,_⟩) (fun v => v = .bool true) (fun v w' => Below W8.heap.size W8 w') (by simp) (by as_aux_lemma => kernel_rfl) rfl
            (Go.RL.StabL.call 12 #[.pointer (some ⟨qp0.P,0,none⟩),.pointer (some ⟨qd0.D,0,none⟩)] _ _ (by rfl) ?_ (fun w' hI hS => ?_)) ?_
           · intro w'
             go_simp
           · refine (HAL.out w' hS).mono ?_
             rintro e w4 ⟨rfl,hb⟩
             exact ⟨_,rfl,rfl,⟨holda hb hI.1,holda hb hI.2.1,holda hb hI.2.2.1,holda hb hI.2.2.2.1,holda hb hI.2.2.2.2⟩,below_tail hS hb⟩
           rintro v rfl
           simp only [Act.put,List.setIfInBounds_toArray,List.set_cons_zero,List.set_cons_succ]
           refine Go.RL.AtL.go 17 ?_
           iterate 4 (refine Go.RL.AtK.take (o:=⟨_,_,_,_,_,_⟩) (v:=?_) (by as_aux_lemma => kernel_rfl) rfl (by simp) (by as_aux_lemma => kernel_rfl) (by as_aux_lemma => kernel_rfl) ?_ ?_;rotate_left;(focus (refine Go.RL.Pure.val (by rfl) ?_;intro w' hI;obtain ⟨_,_,_,_,_⟩:=hI;go_simp;first | done | with_reducible rfl));simp only [Act.put,List.setIfInBounds_toArray,List.set_cons_zero,List.set_cons_succ])
           refine Go.RL.AtK.back ?_
           refine Go.RL.AtL.go 22 ?_
           iterate 4 (refine Go.RL.AtK.take (o:=⟨_,_,_,_,_,_⟩) (v:=?_) (by as_aux_lemma => kernel_rfl) rfl (by simp) (by as_aux_lemma => kernel_rfl) (by as_aux_lemma => kernel_rfl) ?_ ?_;rotate_left;(focus (refine Go.RL.Pure.val (by rfl) ?_;intro w' hI;obtain ⟨_,_,_,_,_⟩:=hI;go_simp;first | done | with_reducible rfl));simp only [Act.put,List.setIfInBounds_toArray,List.set_cons_zero,List.set_cons_succ])
           refine Go.RL.AtK.back ?_
           refine Go.RL.AtL.one 21 (o:=⟨_,_,_,_,_,_⟩) (fun v => ∃ A3 c3,v = .slice A3 nt c3) (fun v w' => w'.ownsRow B 88 3 v g2.told.length (flat encTl g2.told)∧PgRes B W8 qp2 { g2 with told:=[] } w') (by simp) (by as_aux_lemma => kernel_rfl) rfl
            (Go.RL.StabL.call 11 #[.pointer (some ⟨qp0.P,0,none⟩)] _ _ (by rfl) ?_ (fun w' hI hS => ?_)) ?_
           · intro w'
             go_simp
           · refine (HSH.out w' hS).mono ?_
             rintro e w4 ⟨v,rfl,ho,hs⟩
             obtain ⟨A3,c3,hv3⟩:=row_form ho
             have hs':=hs.pre hS
             exact ⟨v,rfl,⟨A3,c3,by rw [hv3,HNT.out]⟩,HCELL.out w4 hs',ho,hs'⟩
           rintro v ⟨A3,c3,rfl⟩
           simp only [Act.put,List.setIfInBounds_toArray,List.set_cons_zero,List.set_cons_succ]
           refine Go.RL.AtL.done (by as_aux_lemma => kernel_rfl) (fun w' hI hS => ?_)
           have HSE3:=Hd (HSE.out w' A3 c3 hS.1 hS.2)
           have HFN:=Hd (HFIN.out w')
           have HS9:=Hd hS.2
           clear hS hI y5 q0 q1 r0' r1'
           simp only [List.drop_succ_cons,List.drop_zero]
           go_wp2_with (go_at_call 10;(with_reducible refine HSE3.out.mono ?_);rintro e w9 ⟨rfl,hb9⟩;have HB9:=Hd hb9;clear hb9)
           have HPS:=Hd (HFN.out w9 HS9.out HB9.out)
           go_roundw
           case rel => exact ⟨j + 1,by go_num,by omega,HPS.out⟩
           case measure => simp [intOf];omega
theorem PageResizes_in (a b c:Int) (A:Option Addr) (l:List Oq) (ca:Nat) (B2:Option Addr) (tz:List Sd) (cb:Nat) (w:World) (ha:(Lit.int .u8 a).wf = true) (hb:(Lit.int .u8 b).wf = true) (hc:(Lit.int .u8 c).wf = true) (hz:l.length ≤ 9223372036854775807) (hl:GrAt encOq 12 w A l) (hok:∀ c ∈ l,okOq c) (hz2:tz.length ≤ 9223372036854775807) (hto:GrAt encSd 5 w B2 tz) (hsk:∀ c ∈ tz,okSd w c) :
 Calls Tryz.prog 6 #[.agg #[.int .u8 a,.int .u8 b,.int .u8 c],.slice A l.length ca,.slice B2 tz.length cb] w (TruePost w):=by
 have:=PageResizes_walk a b c (u8_of_wf ha).1 (u8_of_wf hb).1 (u8_of_wf hc).1 A (l.map toPop) ca B2 tz cb w (by simpa using hz) (gr_pop hl) (pops_ok hok) hz2 hto hsk
 simpa using this
end Go.Proofs.YtffdblmdelgkaaaGreat
