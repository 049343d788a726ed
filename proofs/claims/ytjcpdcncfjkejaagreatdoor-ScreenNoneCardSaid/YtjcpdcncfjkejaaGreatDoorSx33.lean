/- Joined by a tool of this claim out of smaller texts. Conditions: as stated. -/
import Derived.Test.YtjcpdcncfjkejaaGreatDoorSx26
set_option linter.unusedVariables false
set_option linter.unusedSimpArgs false
set_option maxRecDepth 100000
open Go.Lib renaming hid → Hd
open Go.Proofs.Tryz renaming prog → jG
open Go.IntWalk renaming i64_in → jH
open Go.IntKind renaming i64 → jP
namespace Go.Proofs.YtjcpdcncfjkejaaGreatDoor
open Go.RowKit
set_option maxHeartbeats 6400000 in
theorem Ub(rows cols lines:Nat)(w:World)(hb:30<rows∧rows≤1000)(hc1:2≤cols)(hc2:cols≤1000)(hl:lines≤100000):Calls jG 7 #[.int .i64 rows,.int .i64 cols,.int .i64 lines] w (eO w):=by
 have HNew:=Hd (fun w=>aG 30 cols lines w qJ qJ hc1 hc2 hl);have hfit:cX (30:Int) cols=true:=by unfold cX;simp;omega
 have l1:¬(lines:Int)<0:=by omega
 have l2:¬(100000:Int)<(lines:Int):=by omega
 have b1:(30:Int)<(rows:Int):=by omega
 have b2:(rows:Int)≤1000:=by omega
 have HFit:=Hd (fun w=>oI 30 cols w);have HQ:=Hd (fun k w (hk:0≤k)=>oO k 30 cols w hk);have HFol:=Hd (fun v w=>aW v w);have HRes:=Hd aH;have HCr:=Hd UN;have HPg:=Hd KJ;have HSt:=Hd Kx;have HSta:=Hd QE;unfold dR at HSta;have HAW:=Hd (fun w=>cY w);unfold eO at HAW
 go_enter Tryz.func7,Tryz.ntmps7
 go_wp2_with(first
  |(go_at_call 24;refine(HNew.o _).mono ?_;rintro e w1 ⟨v,rfl,-,hb⟩;have HB1:=Hd hb;clear hb)
  |(go_at_call 25;refine(HFit.o _).mono ?_;rintro e w2 ⟨rfl,rfl⟩))
 clear l1 l2 hfit b1 b2
 go_loopw [11] (fun s11 wr=>∃i:Nat,s11=.int .i64 i∧i≤28∧Below w.heap.size w wr) (fun s11 _=>28-(intOf s11).toNat)
 case atStart=>exact⟨0,rfl,by omega,HB1.o⟩
 case round=>
  obtain⟨i,rfl,hi,hbw⟩:=hrel;have HBW:=Hd hbw;clear hbw;have hwi:jP.wrap ((i:Int)+1)=(i:Int)+1:=jH _ qJ
  by_cases hlt:i<28
  · have HQ1:=Hd (fun w=>HQ.o (i:Int) w qJ);have hltI:(i:Int)<28:=by omega
    go_wp2_with(go_at_call 26;refine(HQ1.o _).mono ?_;rintro e w3 ⟨rfl,hb⟩;have HB3:=Hd (jN HBW.o hb);clear hb)
    go_roundw
    case rel=>exact⟨i+1,by go_num,by omega,HB3.o⟩
    case measure=>exact zm
  · have hltI:¬(i:Int)<28:=by omega
    go_wp2_with(first
     |(go_at_call 22;refine(HFol.o _ _).mono ?_;rintro e w3 ⟨rfl,hb⟩;have HB3:=Hd (jN HBW.o hb);clear hb)
     |(go_at_call 27;refine(HRes.o _ _ _ _).mono ?_;rintro e w4 ⟨rfl,hb⟩;have HB4:=Hd (jN (jW HB3.o _) hb);clear hb)
     |(go_at_call 14;refine(HPg.o _).mono ?_;rintro e w5 ⟨rfl,rfl⟩)
     |(go_at_call 28;refine(HSt.o _).mono ?_;rintro e w5 ⟨rfl,rfl⟩)
     |(go_at_call 13;refine(HSta.o _).mono ?_;rintro e w5 ⟨rfl,hb⟩;have HB5:=Hd (jN HB4.o hb);clear hb)
     |(go_at_call 29;refine(HCr.o _).mono ?_;rintro e w6 ⟨rfl,rfl⟩)
     |(go_at_call 10;refine(HAW.o _).mono ?_;rintro e w7 ⟨rfl,hb⟩;have HB7:=Hd (jN HB5.o hb);clear hb))
    go_ret
    exact⟨rfl,HB7.o⟩
set_option maxHeartbeats 6400000 in
theorem XE(rows cols lines:Int)(w:World)(hb:30<rows∧rows≤1000)(hf:cX 30 cols=false∨lines<0∨100000<lines):Calls jG 7 #[.int .i64 rows,.int .i64 cols,.int .i64 lines] w (eO w):=by
 have HNew:=Hd (fun w=>Vq 30 cols lines w hf);have b1:=hb.1;have b2:=hb.2;have HFit:=Hd (fun w=>oI 30 cols w);have HQ:=Hd (fun k w (hk:0≤k)=>oO k 30 cols w hk);have HFol:=Hd (fun v w=>aW v w);have HRes:=Hd aH;have HCr:=Hd UN;have HPg:=Hd KJ;have HSt:=Hd Kx;have HSta:=Hd QE;unfold dR at HSta;have HAW:=Hd (fun w=>cY w);unfold eO at HAW;have hcs:cX 30 cols=false∨(cX 30 cols=true∧lines<0)∨(cX 30 cols=true∧100000<lines):=by
  cases hx:cX 30 cols
  · exact .inl rfl
  · rcases hf with h|h|h
    · rw[hx]at h;cases h
    · exact .inr (.inl ⟨rfl,h⟩)
    · exact .inr (.inr ⟨rfl,h⟩)
 rcases hcs with h1|⟨h1,h2⟩|⟨h1,h2⟩
 · go_enter Tryz.func7,Tryz.ntmps7
   go_wp2_with(first
    |(go_at_call 24;refine(HNew.o _).mono ?_;rintro e w1 ⟨rfl,hb⟩;have HB1:=Hd hb;clear hb)
    |(go_at_call 25;refine(HFit.o _).mono ?_;rintro e w2 ⟨rfl,rfl⟩))
   clear h1 b1 b2
   go_loopw [11] (fun s11 wr=>∃i:Nat,s11=.int .i64 i∧i≤28∧Below w.heap.size w wr) (fun s11 _=>28-(intOf s11).toNat)
   case atStart=>exact⟨0,rfl,by omega,HB1.o⟩
   case round=>
    obtain⟨i,rfl,hi,hbw⟩:=hrel;have HBW:=Hd hbw;clear hbw;have hwi:jP.wrap ((i:Int)+1)=(i:Int)+1:=jH _ qJ
    by_cases hlt:i<28
    · have HQ1:=Hd (fun w=>HQ.o (i:Int) w qJ);have hltI:(i:Int)<28:=by omega
      go_wp2_with(go_at_call 26;refine(HQ1.o _).mono ?_;rintro e w3 ⟨rfl,hb⟩;have HB3:=Hd (jN HBW.o hb);clear hb)
      go_roundw
      case rel=>exact⟨i+1,by go_num,by omega,HB3.o⟩
      case measure=>exact zm
    · have hltI:¬(i:Int)<28:=by omega
      go_wp2_with(first
       |(go_at_call 22;refine(HFol.o _ _).mono ?_;rintro e w3 ⟨rfl,hb⟩;have HB3:=Hd (jN HBW.o hb);clear hb)
       |(go_at_call 27;refine(HRes.o _ _ _ _).mono ?_;rintro e w4 ⟨rfl,hb⟩;have HB4:=Hd (jN (jW HB3.o _) hb);clear hb)
       |(go_at_call 14;refine(HPg.o _).mono ?_;rintro e w5 ⟨rfl,rfl⟩)
       |(go_at_call 28;refine(HSt.o _).mono ?_;rintro e w5 ⟨rfl,rfl⟩)
       |(go_at_call 13;refine(HSta.o _).mono ?_;rintro e w5 ⟨rfl,hb⟩;have HB5:=Hd (jN HB4.o hb);clear hb)
       |(go_at_call 29;refine(HCr.o _).mono ?_;rintro e w6 ⟨rfl,rfl⟩)
       |(go_at_call 10;refine(HAW.o _).mono ?_;rintro e w7 ⟨rfl,hb⟩;have HB7:=Hd (jN HB5.o hb);clear hb))
      go_ret
      exact⟨rfl,HB7.o⟩
 · have h3:¬0≤lines:=by omega
   go_enter Tryz.func7,Tryz.ntmps7
   go_wp2_with(first
    |(go_at_call 24;refine(HNew.o _).mono ?_;rintro e w1 ⟨rfl,hb⟩;have HB1:=Hd hb;clear hb)
    |(go_at_call 25;refine(HFit.o _).mono ?_;rintro e w2 ⟨rfl,rfl⟩))
   clear h1 h2 h3 b1 b2
   go_loopw [11] (fun s11 wr=>∃i:Nat,s11=.int .i64 i∧i≤28∧Below w.heap.size w wr) (fun s11 _=>28-(intOf s11).toNat)
   case atStart=>exact⟨0,rfl,by omega,HB1.o⟩
   case round=>
    obtain⟨i,rfl,hi,hbw⟩:=hrel;have HBW:=Hd hbw;clear hbw;have hwi:jP.wrap ((i:Int)+1)=(i:Int)+1:=jH _ qJ
    by_cases hlt:i<28
    · have HQ1:=Hd (fun w=>HQ.o (i:Int) w qJ);have hltI:(i:Int)<28:=by omega
      go_wp2_with(go_at_call 26;refine(HQ1.o _).mono ?_;rintro e w3 ⟨rfl,hb⟩;have HB3:=Hd (jN HBW.o hb);clear hb)
      go_roundw
      case rel=>exact⟨i+1,by go_num,by omega,HB3.o⟩
      case measure=>exact zm
    · have hltI:¬(i:Int)<28:=by omega
      go_wp2_with(first
       |(go_at_call 22;refine(HFol.o _ _).mono ?_;rintro e w3 ⟨rfl,hb⟩;have HB3:=Hd (jN HBW.o hb);clear hb)
       |(go_at_call 27;refine(HRes.o _ _ _ _).mono ?_;rintro e w4 ⟨rfl,hb⟩;have HB4:=Hd (jN (jW HB3.o _) hb);clear hb)
       |(go_at_call 14;refine(HPg.o _).mono ?_;rintro e w5 ⟨rfl,rfl⟩)
       |(go_at_call 28;refine(HSt.o _).mono ?_;rintro e w5 ⟨rfl,rfl⟩)
       |(go_at_call 13;refine(HSta.o _).mono ?_;rintro e w5 ⟨rfl,hb⟩;have HB5:=Hd (jN HB4.o hb);clear hb)
       |(go_at_call 29;refine(HCr.o _).mono ?_;rintro e w6 ⟨rfl,rfl⟩)
       |(go_at_call 10;refine(HAW.o _).mono ?_;rintro e w7 ⟨rfl,hb⟩;have HB7:=Hd (jN HB5.o hb);clear hb))
      go_ret
      exact⟨rfl,HB7.o⟩
 · have h3:¬lines<0:=by omega
   have h4:0≤lines:=by omega
   have h5:¬lines≤100000:=by omega
   go_enter Tryz.func7,Tryz.ntmps7
   go_wp2_with(first
    |(go_at_call 24;refine(HNew.o _).mono ?_;rintro e w1 ⟨rfl,hb⟩;have HB1:=Hd hb;clear hb)
    |(go_at_call 25;refine(HFit.o _).mono ?_;rintro e w2 ⟨rfl,rfl⟩))
   clear h1 h2 h3 h4 h5 b1 b2
   go_loopw [11] (fun s11 wr=>∃i:Nat,s11=.int .i64 i∧i≤28∧Below w.heap.size w wr) (fun s11 _=>28-(intOf s11).toNat)
   case atStart=>exact⟨0,rfl,by omega,HB1.o⟩
   case round=>
    obtain⟨i,rfl,hi,hbw⟩:=hrel;have HBW:=Hd hbw;clear hbw;have hwi:jP.wrap ((i:Int)+1)=(i:Int)+1:=jH _ qJ
    by_cases hlt:i<28
    · have HQ1:=Hd (fun w=>HQ.o (i:Int) w qJ);have hltI:(i:Int)<28:=by omega
      go_wp2_with(go_at_call 26;refine(HQ1.o _).mono ?_;rintro e w3 ⟨rfl,hb⟩;have HB3:=Hd (jN HBW.o hb);clear hb)
      go_roundw
      case rel=>exact⟨i+1,by go_num,by omega,HB3.o⟩
      case measure=>exact zm
    · have hltI:¬(i:Int)<28:=by omega
      go_wp2_with(first
       |(go_at_call 22;refine(HFol.o _ _).mono ?_;rintro e w3 ⟨rfl,hb⟩;have HB3:=Hd (jN HBW.o hb);clear hb)
       |(go_at_call 27;refine(HRes.o _ _ _ _).mono ?_;rintro e w4 ⟨rfl,hb⟩;have HB4:=Hd (jN (jW HB3.o _) hb);clear hb)
       |(go_at_call 14;refine(HPg.o _).mono ?_;rintro e w5 ⟨rfl,rfl⟩)
       |(go_at_call 28;refine(HSt.o _).mono ?_;rintro e w5 ⟨rfl,rfl⟩)
       |(go_at_call 13;refine(HSta.o _).mono ?_;rintro e w5 ⟨rfl,hb⟩;have HB5:=Hd (jN HB4.o hb);clear hb)
       |(go_at_call 29;refine(HCr.o _).mono ?_;rintro e w6 ⟨rfl,rfl⟩)
       |(go_at_call 10;refine(HAW.o _).mono ?_;rintro e w7 ⟨rfl,hb⟩;have HB7:=Hd (jN HB5.o hb);clear hb))
      go_ret
      exact⟨rfl,HB7.o⟩
set_option maxHeartbeats 6400000 in
theorem Vj(rows cols lines:Nat)(w:World)(hb:¬(30<rows∧rows≤1000))(hr1:1≤rows)(hr2:rows≤1000)(hc1:2≤cols)(hc2:cols≤1000)(hl:lines≤100000):Calls jG 7 #[.int .i64 rows,.int .i64 cols,.int .i64 lines] w (eO w):=by
 have HNew:=Hd (fun w=>aG rows cols lines w qJ qJ hc1 hc2 hl);have hfit:cX (rows:Int) cols=true:=by unfold cX;simp;omega
 have l1:¬(lines:Int)<0:=by omega
 have l2:¬(100000:Int)<(lines:Int):=by omega
 have b3:(decide ((30:Int)<(rows:Int))&&decide ((rows:Int)≤1000))=false:=by simp;omega
 have HFit:=Hd (fun w=>oI rows cols w);have HQ:=Hd (fun k w (hk:0≤k)=>oO k rows cols w hk);have HFol:=Hd (fun v w=>aW v w);have HRes:=Hd aH;have HCr:=Hd UN;have HPg:=Hd KJ;have HSt:=Hd Kx;have HSta:=Hd QE;unfold dR at HSta;have HAW:=Hd (fun w=>cY w);unfold eO at HAW
 go_enter Tryz.func7,Tryz.ntmps7
 go_wp2_with(first
  |(go_at_call 24;refine(HNew.o _).mono ?_;rintro e w1 ⟨v,rfl,-,hb⟩;have HB1:=Hd hb;clear hb)
  |(go_at_call 25;refine(HFit.o _).mono ?_;rintro e w2 ⟨rfl,rfl⟩))
 clear l1 l2 hfit b3
 go_loopw [11] (fun s11 wr=>∃i:Nat,s11=.int .i64 i∧i≤28∧Below w.heap.size w wr) (fun s11 _=>28-(intOf s11).toNat)
 case atStart=>exact⟨0,rfl,by omega,HB1.o⟩
 case round=>
  obtain⟨i,rfl,hi,hbw⟩:=hrel;have HBW:=Hd hbw;clear hbw;have hwi:jP.wrap ((i:Int)+1)=(i:Int)+1:=jH _ qJ
  by_cases hlt:i<28
  · have HQ1:=Hd (fun w=>HQ.o (i:Int) w qJ);have hltI:(i:Int)<28:=by omega
    go_wp2_with(go_at_call 26;refine(HQ1.o _).mono ?_;rintro e w3 ⟨rfl,hb⟩;have HB3:=Hd (jN HBW.o hb);clear hb)
    go_roundw
    case rel=>exact⟨i+1,by go_num,by omega,HB3.o⟩
    case measure=>exact zm
  · have hltI:¬(i:Int)<28:=by omega
    go_wp2_with(first
     |(go_at_call 22;refine(HFol.o _ _).mono ?_;rintro e w3 ⟨rfl,hb⟩;have HB3:=Hd (jN HBW.o hb);clear hb)
     |(go_at_call 27;refine(HRes.o _ _ _ _).mono ?_;rintro e w4 ⟨rfl,hb⟩;have HB4:=Hd (jN (jW HB3.o _) hb);clear hb)
     |(go_at_call 14;refine(HPg.o _).mono ?_;rintro e w5 ⟨rfl,rfl⟩)
     |(go_at_call 28;refine(HSt.o _).mono ?_;rintro e w5 ⟨rfl,rfl⟩)
     |(go_at_call 13;refine(HSta.o _).mono ?_;rintro e w5 ⟨rfl,hb⟩;have HB5:=Hd (jN HB4.o hb);clear hb)
     |(go_at_call 29;refine(HCr.o _).mono ?_;rintro e w6 ⟨rfl,rfl⟩)
     |(go_at_call 10;refine(HAW.o _).mono ?_;rintro e w7 ⟨rfl,hb⟩;have HB7:=Hd (jN HB5.o hb);clear hb))
    go_ret
    exact⟨rfl,HB7.o⟩
set_option maxHeartbeats 6400000 in
theorem Kp(rows cols lines:Int)(w:World)(hb:¬(30<rows∧rows≤1000))(hf:cX rows cols=false∨lines<0∨100000<lines):Calls jG 7 #[.int .i64 rows,.int .i64 cols,.int .i64 lines] w (eO w):=by
 have HNew:=Hd (fun w=>Vq rows cols lines w hf);have HFit:=Hd (fun w=>oI rows cols w);have HQ:=Hd (fun k w (hk:0≤k)=>oO k rows cols w hk);have HFol:=Hd (fun v w=>aW v w);have HRes:=Hd aH;have HCr:=Hd UN;have HPg:=Hd KJ;have HSt:=Hd Kx;have HSta:=Hd QE;unfold dR at HSta;have HAW:=Hd (fun w=>cY w);unfold eO at HAW;have hcs:cX rows cols=false∨(cX rows cols=true∧lines<0)∨(cX rows cols=true∧100000<lines):=by
  cases hx:cX rows cols
  · exact .inl rfl
  · rcases hf with h|h|h
    · rw[hx]at h;cases h
    · exact .inr (.inl ⟨rfl,h⟩)
    · exact .inr (.inr ⟨rfl,h⟩)
 rcases hcs with h1|⟨h1,h2⟩|⟨h1,h2⟩
 · rcases(show(30<rows∧¬rows≤1000)∨¬30<rows by omega)with⟨b1,b2⟩|b1
   all_goals
    go_enter Tryz.func7,Tryz.ntmps7
    go_wp2_with(first
     |(go_at_call 24;refine(HNew.o _).mono ?_;rintro e w1 ⟨rfl,hb⟩;have HB1:=Hd hb;clear hb)
     |(go_at_call 25;refine(HFit.o _).mono ?_;rintro e w2 ⟨rfl,rfl⟩))
    clear h1
    go_loopw [11] (fun s11 wr=>∃i:Nat,s11=.int .i64 i∧i≤28∧Below w.heap.size w wr) (fun s11 _=>28-(intOf s11).toNat)
    case atStart=>exact⟨0,rfl,by omega,HB1.o⟩
    case round=>
     obtain⟨i,rfl,hi,hbw⟩:=hrel;have HBW:=Hd hbw;clear hbw;have hwi:jP.wrap ((i:Int)+1)=(i:Int)+1:=jH _ qJ
     by_cases hlt:i<28
     · have HQ1:=Hd (fun w=>HQ.o (i:Int) w qJ);have hltI:(i:Int)<28:=by omega
       go_wp2_with(go_at_call 26;refine(HQ1.o _).mono ?_;rintro e w3 ⟨rfl,hb⟩;have HB3:=Hd (jN HBW.o hb);clear hb)
       go_roundw
       case rel=>exact⟨i+1,by go_num,by omega,HB3.o⟩
       case measure=>exact zm
     · have hltI:¬(i:Int)<28:=by omega
       go_wp2_with(first
        |(go_at_call 22;refine(HFol.o _ _).mono ?_;rintro e w3 ⟨rfl,hb⟩;have HB3:=Hd (jN HBW.o hb);clear hb)
        |(go_at_call 27;refine(HRes.o _ _ _ _).mono ?_;rintro e w4 ⟨rfl,hb⟩;have HB4:=Hd (jN (jW HB3.o _) hb);clear hb)
        |(go_at_call 14;refine(HPg.o _).mono ?_;rintro e w5 ⟨rfl,rfl⟩)
        |(go_at_call 28;refine(HSt.o _).mono ?_;rintro e w5 ⟨rfl,rfl⟩)
        |(go_at_call 13;refine(HSta.o _).mono ?_;rintro e w5 ⟨rfl,hb⟩;have HB5:=Hd (jN HB4.o hb);clear hb)
        |(go_at_call 29;refine(HCr.o _).mono ?_;rintro e w6 ⟨rfl,rfl⟩)
        |(go_at_call 10;refine(HAW.o _).mono ?_;rintro e w7 ⟨rfl,hb⟩;have HB7:=Hd (jN HB5.o hb);clear hb))
       go_ret
       exact⟨rfl,HB7.o⟩
 · have h3:¬0≤lines:=by omega
   rcases(show(30<rows∧¬rows≤1000)∨¬30<rows by omega)with⟨b1,b2⟩|b1
   all_goals
    go_enter Tryz.func7,Tryz.ntmps7
    go_wp2_with(first
     |(go_at_call 24;refine(HNew.o _).mono ?_;rintro e w1 ⟨rfl,hb⟩;have HB1:=Hd hb;clear hb)
     |(go_at_call 25;refine(HFit.o _).mono ?_;rintro e w2 ⟨rfl,rfl⟩))
    clear h1 h2 h3
    go_loopw [11] (fun s11 wr=>∃i:Nat,s11=.int .i64 i∧i≤28∧Below w.heap.size w wr) (fun s11 _=>28-(intOf s11).toNat)
    case atStart=>exact⟨0,rfl,by omega,HB1.o⟩
    case round=>
     obtain⟨i,rfl,hi,hbw⟩:=hrel;have HBW:=Hd hbw;clear hbw;have hwi:jP.wrap ((i:Int)+1)=(i:Int)+1:=jH _ qJ
     by_cases hlt:i<28
     · have HQ1:=Hd (fun w=>HQ.o (i:Int) w qJ);have hltI:(i:Int)<28:=by omega
       go_wp2_with(go_at_call 26;refine(HQ1.o _).mono ?_;rintro e w3 ⟨rfl,hb⟩;have HB3:=Hd (jN HBW.o hb);clear hb)
       go_roundw
       case rel=>exact⟨i+1,by go_num,by omega,HB3.o⟩
       case measure=>exact zm
     · have hltI:¬(i:Int)<28:=by omega
       go_wp2_with(first
        |(go_at_call 22;refine(HFol.o _ _).mono ?_;rintro e w3 ⟨rfl,hb⟩;have HB3:=Hd (jN HBW.o hb);clear hb)
        |(go_at_call 27;refine(HRes.o _ _ _ _).mono ?_;rintro e w4 ⟨rfl,hb⟩;have HB4:=Hd (jN (jW HB3.o _) hb);clear hb)
        |(go_at_call 14;refine(HPg.o _).mono ?_;rintro e w5 ⟨rfl,rfl⟩)
        |(go_at_call 28;refine(HSt.o _).mono ?_;rintro e w5 ⟨rfl,rfl⟩)
        |(go_at_call 13;refine(HSta.o _).mono ?_;rintro e w5 ⟨rfl,hb⟩;have HB5:=Hd (jN HB4.o hb);clear hb)
        |(go_at_call 29;refine(HCr.o _).mono ?_;rintro e w6 ⟨rfl,rfl⟩)
        |(go_at_call 10;refine(HAW.o _).mono ?_;rintro e w7 ⟨rfl,hb⟩;have HB7:=Hd (jN HB5.o hb);clear hb))
       go_ret
       exact⟨rfl,HB7.o⟩
 · have h3:¬lines<0:=by omega
   have h4:0≤lines:=by omega
   have h5:¬lines≤100000:=by omega
   rcases(show(30<rows∧¬rows≤1000)∨¬30<rows by omega)with⟨b1,b2⟩|b1
   all_goals
    go_enter Tryz.func7,Tryz.ntmps7
    go_wp2_with(first
     |(go_at_call 24;refine(HNew.o _).mono ?_;rintro e w1 ⟨rfl,hb⟩;have HB1:=Hd hb;clear hb)
     |(go_at_call 25;refine(HFit.o _).mono ?_;rintro e w2 ⟨rfl,rfl⟩))
    clear h1 h2 h3 h4 h5
    go_loopw [11] (fun s11 wr=>∃i:Nat,s11=.int .i64 i∧i≤28∧Below w.heap.size w wr) (fun s11 _=>28-(intOf s11).toNat)
    case atStart=>exact⟨0,rfl,by omega,HB1.o⟩
    case round=>
     obtain⟨i,rfl,hi,hbw⟩:=hrel;have HBW:=Hd hbw;clear hbw;have hwi:jP.wrap ((i:Int)+1)=(i:Int)+1:=jH _ qJ
     by_cases hlt:i<28
     · have HQ1:=Hd (fun w=>HQ.o (i:Int) w qJ);have hltI:(i:Int)<28:=by omega
       go_wp2_with(go_at_call 26;refine(HQ1.o _).mono ?_;rintro e w3 ⟨rfl,hb⟩;have HB3:=Hd (jN HBW.o hb);clear hb)
       go_roundw
       case rel=>exact⟨i+1,by go_num,by omega,HB3.o⟩
       case measure=>exact zm
     · have hltI:¬(i:Int)<28:=by omega
       go_wp2_with(first
        |(go_at_call 22;refine(HFol.o _ _).mono ?_;rintro e w3 ⟨rfl,hb⟩;have HB3:=Hd (jN HBW.o hb);clear hb)
        |(go_at_call 27;refine(HRes.o _ _ _ _).mono ?_;rintro e w4 ⟨rfl,hb⟩;have HB4:=Hd (jN (jW HB3.o _) hb);clear hb)
        |(go_at_call 14;refine(HPg.o _).mono ?_;rintro e w5 ⟨rfl,rfl⟩)
        |(go_at_call 28;refine(HSt.o _).mono ?_;rintro e w5 ⟨rfl,rfl⟩)
        |(go_at_call 13;refine(HSta.o _).mono ?_;rintro e w5 ⟨rfl,hb⟩;have HB5:=Hd (jN HB4.o hb);clear hb)
        |(go_at_call 29;refine(HCr.o _).mono ?_;rintro e w6 ⟨rfl,rfl⟩)
        |(go_at_call 10;refine(HAW.o _).mono ?_;rintro e w7 ⟨rfl,hb⟩;have HB7:=Hd (jN HB5.o hb);clear hb))
       go_ret
       exact⟨rfl,HB7.o⟩
end Go.Proofs.YtjcpdcncfjkejaaGreatDoor
