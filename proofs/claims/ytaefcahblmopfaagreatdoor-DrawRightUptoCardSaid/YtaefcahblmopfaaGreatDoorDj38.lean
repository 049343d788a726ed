/- Joined by a tool of this claim out of smaller texts. Conditions: as stated. -/
import Derived.Test.YtaefcahblmopfaaGreatDoorDj37
set_option linter.unusedVariables false
set_option linter.unusedSimpArgs false
set_option maxRecDepth 100000
open Go.Lib renaming hid → Hd
open Go.Proofs.Tryz renaming prog → jG
open Go.RowKit.Below renaming refl → jU
open List renaming mem_singleton → jM, getElem?_eq_some_iff → jP, take_succ_eq_append_getElem → kQ, mem_append → kU, mem_of_getElem? → uB
open Go.IntWalk renaming i64_in → jF
open Go.IntKind renaming i64 → jE
open Nat renaming zero_le → kM
namespace Go.Proofs.YtaefcahblmopfaaGreatDoor
open Go.RowKit
def GreatQ(l:List Rw)(w:World)(e:Ending)(w':World):Prop:=∃b:Bool,e=.returned (.bool b)∧(b=false→l.length≤400∧∀r∈l,r.cs.length≤400)∧Below w.heap.size w w'
theorem takeQ{l:List Rw}{k:Nat}{r:Rw}{s:Int}(hr:l[k]? =some r)(h0:0≤s)(h:∀r∈l.take k,(r.cs.length:Int)≤s):∀q∈l.take (k+1),(q.cs.length:Int)≤s+r.cs.length:=fun q hq=>by
 obtain⟨hk,rfl⟩:=jP.1 hr;rw[kQ hk]at hq;rcases kU.1 hq with h1|h1
 · have :=h q h1;omega
 · rw[jM.1 h1];omega
set_option maxHeartbeats 1600000 in
theorem Zz(A:Option Addr)(l:List Rw)(ca:Nat)(w:World)(hl:bG w A l)(hz:l.length≤1048576)(hcz:∀r∈l,r.cs.length≤1048576):
 Calls jG 21 #[.slice A l.length ca] w (GreatQ l w):=by
 have HL:=Hd hl;have HC:=Hd hcz;obtain⟨L,hL⟩:∃L,l.length=L:=⟨_,rfl⟩;have HLL:=Hd hL;rw[hL]at hz ⊢;clear hl hcz hL
 go_enter Tryz.func21,Tryz.ntmps21
 go_wp2_with fail
 go_loopw [3,4] (fun n i wr=>∃(k:Nat) (s:Int),k≤L∧i=.int .i64 k∧n=.int .i64 s∧(L:Int)≤s∧s≤3000000∧(∀r∈l.take k,(r.cs.length:Int)≤s)∧Below w.heap.size w wr) (fun _ i _=>L-(intOf i).toNat)
 case atStart=>exact⟨0,_,kM _,rfl,rfl,by omega,by omega,(fun r hr=>by simp at hr),jU _ _⟩
 case round=>
  obtain⟨k,s,hk,rfl,rfl,hs1,hs2,hs3,hB⟩:=hrel;have HS3:=Hd hs3;have HB:=Hd hB;clear hs3 hB
  by_cases hlt:k<L
  rotate_left
  · obtain rfl:k=L:=by omega
    go_wp2
    go_ret
    refine⟨_,rfl,fun h=>?_,HB.o⟩;have h:=of_decide_eq_false h;refine⟨by have :=HLL.o;omega,fun r hr=>?_⟩;have :=HS3.o r (by rw[←HLL.o,List.take_length];exact hr);omega
  · by_cases hg:s≤400
    · obtain⟨b,off,r,rfl,hr,cr,cc,cz⟩:=HL.o.at_ (k:=k) (by have :=HLL.o;omega);have c0:=kZ HB.o cr.1;have hrz:=HC.o r (uB hr);have HT:=Hd (takeQ hr qJ HS3.o);obtain⟨rA,cs,cap,cont⟩:=r;simp only at c0 hrz HT;generalize cs.length=n at c0 hrz HT;obtain⟨q,hq⟩:∃q:Int,s+n=q:=⟨_,rfl⟩;rw[hq]at HT;have hwq:jE.wrap q=q:=jF _ qJ;have hq1:(L:Int)≤q:=by omega
      have hq2:q≤3000000:=by omega
      clear hr cr cc
      go_wp2
      go_roundw
      case rel=>exact⟨k+1,q,by omega,by go_num,rfl,hq1,hq2,HT.o,HB.o⟩
      case measure=>simp[intOf];omega
    · go_wp2
      go_ret
      exact⟨_,rfl,fun h=>absurd h qV,HB.o⟩
end Go.Proofs.YtaefcahblmopfaaGreatDoor
