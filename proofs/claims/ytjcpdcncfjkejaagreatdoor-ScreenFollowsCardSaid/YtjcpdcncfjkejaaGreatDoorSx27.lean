/- Joined by a tool of this claim out of smaller texts. Conditions: as stated. -/
import Derived.Test.YtjcpdcncfjkejaaGreatDoorSx23
set_option linter.unusedVariables false
set_option linter.unusedSimpArgs false
set_option maxRecDepth 100000
open Go.Lib renaming hid → Hd
open Go.Proofs.Tryz renaming prog → jG
open List renaming mem_append → kL
namespace Go.Proofs.YtjcpdcncfjkejaaGreatDoor
open Go.RowKit
section
variable {B:Nat}{w w1:World}{v u:Sv}{m n:Mv}{s o:Sc}
theorem SB.mod{X:List Nat}(h:SB B w v m s)(hm:Mod X w w1)(hX:yD w X)(hd:∀b∈scX v++dmX m,b∉X):SB B w1 v m s:=
 ⟨h.p.mod hm hX (fun b hb=>hd b (List.mem_append_left _ hb)),h.d.mod hm hX (fun b hb=>hd b (List.mem_append_right _ hb)),h.ap⟩
theorem SB.nocel(h:SB B w v m s):yD w (scX v++dmX m):=fun b hb cs f he=>by
 rcases kL.1 hb with hb|hb
 · exact h.p.nocel b hb cs f he
 · exact h.d.nocel b hb cs f he
theorem ScG.follow{rows cols room r2 c2 m2:Nat}(h:ScG rows cols room s)(hc:2≤cols)(ho:ScG r2 c2 m2 o):ScG rows cols room (tM s o):=
 ⟨(h.n.pen o.pen).place hc o.y (inS o),ho.f1,h.f2⟩
theorem Kb(S:Nat)(w:World):Calls jG 22 #[.pointer (some ⟨S,0,none⟩),.pointer none] w fun e w'=>e=.returned (.tuple #[])∧w=w':=by
 go_enter Tryz.func22,Tryz.ntmps22
 go_wp2
 exact bodyPost_ret (results_none rfl _ _ _) rfl ⟨rfl,rfl⟩
end
def Sl2(B1 B2 r1 c1 m1 T1 r2 c2 m2 T2:Nat)(w0:World)(S1 M1 S2 M2:Nat)(w:World):Prop:=
 ∃s v m o u n,(ScG r1 c1 m1 s∧s.pg.told.length≤T1∧v.S=S1∧m.M=M1∧SB B1 w v m s)∧(ScG r2 c2 m2 o∧o.pg.told.length≤T2∧u.S=S2∧n.M=M2∧SB B2 w u n o)∧(∀b∈scX v++dmX m,b∉scX u++dmX n)∧Below w0.heap.size w0 w
section
variable {B1 B2 r1 c1 m1 T1 r2 c2 m2 T2 S1 M1 S2 M2:Nat}{w0 w:World}
theorem Sl2.swap(h:Sl2 B1 B2 r1 c1 m1 T1 r2 c2 m2 T2 w0 S1 M1 S2 M2 w):Sl2 B2 B1 r2 c2 m2 T2 r1 c1 m1 T1 w0 S2 M2 S1 M1 w:=by
 obtain⟨s,v,m,o,u,n,h1,h2,h3,h4⟩:=h;exact⟨o,u,n,s,v,m,h2,h1,fun b hb hx=>h3 b hx hb,h4⟩
theorem Sl2.post{w1:World}(h:Sl2 B1 B2 r1 c1 m1 T1 r2 c2 m2 T2 w0 S1 M1 S2 M2 w)(hb:Below w.heap.size w w1):Sl2 B1 B2 r1 c1 m1 T1 r2 c2 m2 T2 w0 S1 M1 S2 M2 w1:=by
 obtain⟨s,v,m,o,u,n,⟨a1,a2,a3,a4,a5⟩,⟨b1,b2,b3,b4,b5⟩,h3,h4⟩:=h;exact⟨s,v,m,o,u,n,⟨a1,a2,a3,a4,a5.below hb⟩,⟨b1,b2,b3,b4,b5.below hb⟩,h3,jN h4 hb⟩
theorem Sl2.low(h:Sl2 B1 B2 r1 c1 m1 T1 r2 c2 m2 T2 w0 S1 M1 S2 M2 w):Below w0.heap.size w0 w:=by
 obtain⟨s,v,m,o,u,n,-,-,-,h4⟩:=h;exact h4
theorem Sl2.step1{T1':Nat}{w1:World}{s v m o u n s'}(h1:ScG r1 c1 m1 s')(ht:s'.pg.told.length≤T1')(e1:v.S=S1)(e2:m.M=M1)(hsb:SB B1 w v m s)(hr:zC B1 w v m s' w1)(h2:ScG r2 c2 m2 o∧o.pg.told.length≤T2∧u.S=S2∧n.M=M2∧SB B2 w u n o)(h3:∀b∈scX v++dmX m,b∉scX u++dmX n)(h4:Below w0.heap.size w0 w)(hB:w0.heap.size≤B1):Sl2 B1 B2 r1 c1 m1 T1' r2 c2 m2 T2 w0 S1 M1 S2 M2 w1:=by
 have hlow:=zC.low hsb hr;obtain⟨v',m',f1,f2,f3,f4,f5,hS,hm,hx⟩:=hr;obtain⟨b1,b2,b3,b4,b5⟩:=h2;refine⟨s',v',m',o,u,n,⟨h1,ht,f1.trans e1,f4.trans e2,hS⟩,⟨b1,b2,b3,b4,b5.mod hm hsb.nocel (fun b hb hx=>h3 b hx hb)⟩,fun b hb hx2=>?_,h4.trans (Below.mono hlow hB)⟩;rcases hx b hb with h|h
 · exact h3 b h hx2
 · have :=(b5.lt b hx2).2;omega
theorem Zf{A:Option Addr}{l:List Sop}(hl:OpsAt w0 A l)(hsm:dI l)(hB:w0.heap.size≤B1)(htz:eN w0)(hr:r1≤40)(hc2:2≤c1)(hc:c1≤41)(hm:m1≤100000)(ht:T1≤800000)
 (hst:Sl2 B1 B2 r1 c1 m1 T1 r2 c2 m2 T2 w0 S1 M1 S2 M2 w) {o:Sop} (ho:o∈l):Calls jG 12 #[.pointer (some ⟨S1,0,none⟩),.pointer (some ⟨M1,0,none⟩),.agg (bY o).toArray] w (fun e w'=>e=.returned (.tuple #[])∧Sl2 B1 B2 r1 c1 m1 (T1+zF r1 c1) r2 c2 m2 T2 w0 S1 M1 S2 M2 w'):=by
 obtain⟨s,v,m,o2,u,n,⟨hg,htl,rfl,rfl,hsb⟩,h2,h3,hb⟩:=hst;have hrc:r1*c1≤40*41:=Nat.mul_le_mul hr hc;have hok:SopOk B1 w o:=⟨fun W' hb'=>(hl.gs o ho).below (hb.trans (Below.mono hb' hB)),hl.hc o ho,by have :=(hsm.2 o ho).1;omega,fun x hx=>by have :=(hsm.2 o ho).2 x hx;omega,hl.ia o ho⟩;refine(KC hsb (hg.dmi qJ hc2 qJ hm qJ) hg qJ (fun x w' hx hb'=>htz x w' hx (jN hb hb')) (VZ w) o hok).mono fun e w' ⟨he,hres⟩=>⟨he,?_⟩;obtain⟨h1,h2'⟩:=hg.step hc2 o;exact Sl2.step1 h1 qJ rfl rfl hsb hres h2 h3 hb hB
theorem Sl2.alike(hst:Sl2 B1 B2 r1 c1 m1 T1 r2 c2 m2 T2 w0 S1 M1 S2 M2 w)(hr:r1≤40)(hm:m1≤100000):Calls jG 19 #[.pointer (some ⟨S1,0,none⟩),.pointer (some ⟨M1,0,none⟩)] w (fun e w'=>e=.returned (.bool true)∧Below w.heap.size w w'):=by
 obtain⟨s,v,m,o,u,n,⟨hg,htl,rfl,rfl,hsb⟩,h2,h3,hb⟩:=hst;exact JY hsb.p hsb.d (hg.few qJ hm)
theorem YF(hr:r1≤1000)(hc2:2≤c1)(hc:c1≤1000)(hm:m1≤100000)(ht:T1≤800000)(hB:w0.heap.size≤B1)
 (hst:Sl2 B1 B2 r1 c1 m1 T1 r2 c2 m2 T2 w0 S1 M1 S2 M2 w):Calls jG 22 #[.pointer (some ⟨S1,0,none⟩),.pointer (some ⟨S2,0,none⟩)] w (fun e w1=>e=.returned (.tuple #[])∧
   Calls jG 23 #[.pointer (some ⟨M1,0,none⟩),.pointer (some ⟨M2,0,none⟩)] w1 (fun e w2=>e=.returned (.tuple #[])∧Sl2 B1 B2 r1 c1 m1 T1 r2 c2 m2 T2 w0 S1 M1 S2 M2 w2)):=by
 obtain⟨s,v,m,o,u,n,⟨hg,htl,rfl,rfl,hsb⟩,⟨b1,b2,rfl,rfl,b5⟩,h3,hb⟩:=hst;have hvu:v.S≠u.S:=fun he=>h3 v.S qKg (by rw[he];simp[scX]);have hmn:m.M∉dmX n:=fun hx=>h3 m.M qVi (List.mem_append_right _ hx);refine(Vb hsb.p b5.p hvu).mono fun e w1 ⟨he,hr1⟩=>⟨he,?_⟩;have hd1:=hsb.mid hr1;have hn1:DmO B2 w1 n o:=b5.d.mod hr1.modr hsb.p.nocel (fun b hb hx=>h3 b (List.mem_append_left _ hx) (List.mem_append_right _ hb));refine(Vw hd1 (hg.dmi hr hc2 hc hm qJ) hn1 b1.n.x0 hmn).mono fun e w2 ⟨he,hr2⟩=>⟨he,?_⟩;exact Sl2.step1 (hg.follow hc2 b1) (by show s.pg.told.length≤_;exact htl) rfl rfl hsb (hsb.step hr1 hr2) ⟨b1,b2,rfl,rfl,b5⟩ h3 hb hB
end
end Go.Proofs.YtjcpdcncfjkejaaGreatDoor
