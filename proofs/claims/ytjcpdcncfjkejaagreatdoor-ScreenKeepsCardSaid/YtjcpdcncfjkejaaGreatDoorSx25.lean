/- Joined by a tool of this claim out of smaller texts. Conditions: as stated. -/
import Derived.Test.YtjcpdcncfjkejaaGreatDoorSx07
import Derived.Test.YtjcpdcncfjkejaaGreatDoorSx19
import Derived.Test.YtjcpdcncfjkejaaGreatDoorSx23
set_option linter.unusedVariables false
set_option linter.unusedSimpArgs false
set_option maxRecDepth 100000
open Go.Lib renaming hid → Hd
open Go.Proofs.Tryz renaming prog → jG
open Go.IntWalk renaming i64_in → jH
open Go.IntKind renaming i64 → jP
open List renaming getElem?_eq_some_iff → jE, mem_of_getElem? → uW
open Nat renaming zero_le → kT
namespace Go.Proofs.YtjcpdcncfjkejaaGreatDoor
open Go.RowKit
structure OpsAt(w:World)(A:Option Addr)(l:List Sop):Prop where
 g:pA bY 5 w A l
 gs:∀o∈l,eR w o.A o.H
 hc:∀o∈l,o.H.length≤o.cap
 ia:∀o∈l,-9223372036854775808≤o.a∧o.a≤9223372036854775807
theorem OpsAt.below{w w':World}{A:Option Addr}{l:List Sop}(h:OpsAt w A l)(hb:Below w.heap.size w w'):OpsAt w' A l:=⟨h.g.below hb,fun o ho=>(h.gs o ho).below hb,h.hc,h.ia⟩
def dI(l:List Sop):Prop:=l.length≤60∧∀o∈l,o.H.length≤40∧∀x∈o.H,x.g.length≤12
def J9(l:List Sop)(w:World)(e:Ending)(w':World):Prop:=∃g,e=.returned (.bool g)∧(g=false→dI l)∧(g=true→¬dI l)∧w=w'
set_option maxHeartbeats 3200000 in
theorem KM{w:World}{A:Option Addr}{l:List Sop}(hl:OpsAt w A l)(ca:Nat)(hz:l.length≤9223372036854775807):Calls jG 9 #[.slice A l.length ca] w (J9 l w):=by
 have HL:=Hd hl
 by_cases h60:60<l.length
 · have h60I:(60:Int)<(l.length:Int):=by omega
   have hns:¬dI l:=fun h=>by have :=h.1;omega
   clear hl
   go_enter Tryz.func9,Tryz.ntmps9
   go_wp2
   go_ret
   exact⟨true,rfl,fun h=>(by cases h),fun _=>hns,rfl⟩
 have h60I:¬(60:Int)<(l.length:Int):=by omega
 obtain⟨n,hn⟩:∃n,l.length=n:=⟨_,rfl⟩;rw[hn]at h60 h60I hz ⊢;have HN:=Hd hn;have HN60:=Hd h60;clear hl hn h60
 go_enter Tryz.func9,Tryz.ntmps9
 go_wp2_with fail
 go_loopw [3,4] (fun s3 _ wr=>∃i:Nat,s3=.int .i64 i∧i≤n∧(∀j,j<i→∀o,l[j]? =some o→o.H.length≤40∧∀x∈o.H,x.g.length≤12)∧w=wr) (fun s3 _ _=>n-(intOf s3).toNat)
 case atStart=>exact⟨0,rfl,kT _,fun j hj=>by omega,rfl⟩
 case round=>
  obtain⟨i,rfl,hi,hs,rfl⟩:=hrel;have HS:=Hd hs;clear hs;have hwi:jP.wrap ((i:Int)+1)=(i:Int)+1:=jH _ qJ7
  by_cases hlt:i<n
  rotate_left
  · have hltI:¬(i:Int)<(n:Int):=by omega
    go_wp2
    go_ret
    refine⟨false,rfl,fun _=>⟨by have :=HN.o;have :=HN60.o;omega,fun o ho=>?_⟩,fun h=>(by cases h),rfl⟩;obtain⟨j,hj⟩:=List.mem_iff_getElem?.1 ho;have hjl:=(jE.1 hj).1;exact HS.o j qKm o hj
  · have hltI:(i:Int)<(n:Int):=by omega
    obtain⟨b,off,o,rfl,ho,hcell⟩:=HL.o.g.at_ (i:=i) qKm;have c4:w.cell? ⟨b,off+i*5+4,none⟩=some (.slice o.A o.H.length o.cap):=hcell 4 _ rfl;have hgs:=HL.o.gs o (uW ho);have HO:=Hd ho;have HG:Hid (∀k,k<o.H.length→∃(x:Gh) (gb go:Nat),o.H[k]? =some x∧o.A=some ⟨gb,go,none⟩∧w.cell? ⟨gb,go+k,none⟩=some (.slice x.A x.g.length x.cap)):=Hd (fun k hk=>by
     obtain⟨x,gb,go,h1,h2,h3,-,-⟩:=hgs.get hk;exact⟨x,gb,go,h1,h2,h3⟩)
    have HSO:Hid ((∀k,k<o.H.length→∀x,o.H[k]? =some x→x.g.length≤12)→o.H.length≤40→∀j,j<i+1→∀o,l[j]? =some o→o.H.length≤40∧∀x∈o.H,x.g.length≤12):=Hd (fun h1 h2 j hj o' ho'=>by
     by_cases hji:j<i
     · exact HS.o j hji o' ho'
     · obtain rfl:j=i:=by omega
       rw[HO.o]at ho';obtain rfl:=Option.some.inj ho';refine⟨h2,fun x hx=>?_⟩;obtain⟨k,hk⟩:=List.mem_iff_getElem?.1 hx;exact h1 k (jE.1 hk).1 x hk)
    obtain⟨K,hK⟩:∃K,o.H.length=K:=⟨_,rfl⟩;have HKE:=Hd hK;rw[hK]at c4 HG HSO;obtain⟨oA,hoA⟩:∃a,o.A=a:=⟨_,rfl⟩;rw[hoA]at c4 HG;clear hcell ho hgs hK hoA
    by_cases h40:40<K
    · have h40I:(40:Int)<(K:Int):=by omega
      have HNS:Hid (¬dI l):=Hd (fun h=>by have :=(h.2 o (uW HO.o)).1;have :=HKE.o;omega)
      go_wp2
      go_ret
      exact⟨true,rfl,fun h=>(by cases h),fun _=>HNS.o,rfl⟩
    have h40I:¬(40:Int)<(K:Int):=by omega
    have HK:=Hd h40;clear h40
    go_wp2_with fail
    go_loopw [4] (fun s4 wr=>∃k:Nat,s4=.int .i64 k∧k≤K∧(∀j,j<k→∀x,o.H[j]? =some x→x.g.length≤12)∧w=wr) (fun s4 _=>K-(intOf s4).toNat)
    case atStart=>exact⟨0,rfl,kT _,fun j hj=>by omega,by first|rfl|trivial⟩
    case round=>
     obtain⟨k,rfl,hk,hks,rfl⟩:=hrel;have HKS:=Hd hks;clear hks;have hwk:jP.wrap ((k:Int)+1)=(k:Int)+1:=jH _ (by have :=HK.o;omega)
     by_cases hkl:k<K
     rotate_left
     · have hklI:¬(k:Int)<(K:Int):=by omega
       have HE:=Hd (HSO.o (fun j hj x hx=>HKS.o j qJ x hx) (by have :=HK.o;omega))
       go_wp2
       go_roundw
       case rel=>exact⟨i+1,by go_num,by omega,HE.o,by first|rfl|trivial⟩
       case measure=>exact zm
     · have hklI:(k:Int)<(K:Int):=by omega
       obtain⟨x,gb,gof,hx,rfl,hxc⟩:=HG.o k hkl;have HX:=Hd hx;obtain⟨N,hN⟩:∃N,x.g.length=N:=⟨_,rfl⟩;rw[hN]at hxc;have HXN:=Hd hN;clear hx hN
       by_cases h12:12<N
       · have h12I:(12:Int)<(N:Int):=by omega
         have HNS:Hid (¬dI l):=Hd (fun h=>by have :=(h.2 o (uW HO.o)).2 x (uW HX.o);have :=HXN.o;omega)
         go_wp2
         go_ret
         exact⟨true,rfl,fun h=>(by cases h),fun _=>HNS.o,rfl⟩
       · have h12I:¬(12:Int)<(N:Int):=by omega
         have HE:Hid (∀j,j<k+1→∀x,o.H[j]? =some x→x.g.length≤12):=Hd (fun j hj y hy=>by
          by_cases hjk:j<k
          · exact HKS.o j hjk y hy
          · obtain rfl:j=k:=by omega
            rw[HX.o]at hy;obtain rfl:=Option.some.inj hy;rw[HXN.o];omega)
         clear h12
         go_wp2
         go_roundw
         case rel=>exact⟨k+1,by go_num,by omega,HE.o,by first|rfl|trivial⟩
         case measure=>exact zm
theorem mM{w:World}{A:Option Addr}{l:List Sop}(hl:OpsAt w A l)(ca:Nat)(hz:l.length≤9223372036854775807)(hs:dI l):Calls jG 9 #[.slice A l.length ca] w (fun e w'=>e=.returned (.bool false)∧w=w'):=
 (KM hl ca hz).mono fun e w' ⟨g,he,_,h2,hw⟩=>by
   cases g
   · exact⟨he,hw⟩
   · exact absurd hs (h2 rfl)
theorem iP{w:World}{A:Option Addr}{l:List Sop}(hl:OpsAt w A l)(ca:Nat)(hz:l.length≤9223372036854775807)(hs:¬dI l):Calls jG 9 #[.slice A l.length ca] w (fun e w'=>e=.returned (.bool true)∧w=w'):=
 (KM hl ca hz).mono fun e w' ⟨g,he,h1,_,hw⟩=>by
   cases g
   · exact absurd (h1 rfl) hs
   · exact⟨he,hw⟩
def wS(B rows cols room T0:Nat)(w0:World)(S M:Nat)(w:World):Prop:=
 ∃s v m,ScG rows cols room s∧s.pg.told.length≤T0∧v.S=S∧m.M=M∧SB B w v m s∧Below w0.heap.size w0 w
section
variable {B rows cols room T0 S M:Nat}{w0 w:World}{s:Sc}{v:Sv}{m:Mv}
theorem VW{A:Option Addr}{l:List Sop}(hl:OpsAt w0 A l)(hsm:dI l)(hB:w0.heap.size≤B)(htz:eN w0)(hr:rows≤40)(hc2:2≤cols)(hc:cols≤41)(hm:room≤100000)(ht:T0≤800000)
 (hst:wS B rows cols room T0 w0 S M w) {o:Sop} (ho:o∈l):Calls jG 12 #[.pointer (some ⟨S,0,none⟩),.pointer (some ⟨M,0,none⟩),.agg (bY o).toArray] w (fun e w'=>e=.returned (.tuple #[])∧wS B rows cols room (T0+zF rows cols) w0 S M w'):=by
 obtain⟨s,v,m,hg,htl,rfl,rfl,hsb,hb⟩:=hst;have hrc:rows*cols≤40*41:=Nat.mul_le_mul hr hc;have hok:SopOk B w o:=⟨fun W' hb'=>(hl.gs o ho).below (hb.trans (Below.mono hb' hB)),hl.hc o ho,by have :=(hsm.2 o ho).1;omega,fun x hx=>by have :=(hsm.2 o ho).2 x hx;omega,hl.ia o ho⟩;refine(KC hsb (hg.dmi qJ hc2 qJ hm qJ) hg qJ (fun x w' hx hb'=>htz x w' hx (jN hb hb')) (VZ w) o hok).mono fun e w' ⟨he,hres⟩=>⟨he,?_⟩;obtain⟨h1,h2⟩:=hg.step hc2 o;have hlow:=zC.low hsb hres;obtain⟨v',m',e1,e2,e3,e4,e5,hS,-,-⟩:=hres;exact⟨_,v',m',h1,by omega,e1,e4,hS,hb.trans (Below.mono hlow hB)⟩
theorem wS.post{w1:World}(hst:wS B rows cols room T0 w0 S M w)(hB:w0.heap.size≤B)(hb:Below w.heap.size w w1):wS B rows cols room T0 w0 S M w1:=by
 obtain⟨s,v,m,hg,htl,e1,e2,hsb,hb0⟩:=hst;exact⟨s,v,m,hg,htl,e1,e2,hsb.below hb,jN hb0 hb⟩
end
end Go.Proofs.YtjcpdcncfjkejaaGreatDoor
