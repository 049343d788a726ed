/- Joined by a tool of this claim out of smaller texts. Conditions: as stated. -/
import Derived.Test.YtjcpdcncfjkejaaGreatDoorSx16
set_option linter.unusedVariables false
set_option linter.unusedSimpArgs false
set_option maxRecDepth 100000
open Go.Lib renaming hid → Hd
namespace Go.Proofs.YtjcpdcncfjkejaaGreatDoor
open Go.RowKit
def pY(s s':Sc):Prop:=s'.sp=s.sp∧s'.sy=s.sy∧s'.sx=s.sx∧s'.has=s.has
theorem pY.trans{a b c:Sc}(h:pY a b)(k:pY b c):pY a c:=⟨k.1.trans h.1,k.2.1.trans h.2.1,k.2.2.1.trans h.2.2.1,k.2.2.2.trans h.2.2.2⟩
theorem KG(s:Sc):pY s (zM s).1:=by
 unfold zM
 split
 · exact⟨rfl,rfl,rfl,rfl⟩
 split
 · exact⟨rfl,rfl,rfl,rfl⟩
 · exact⟨rfl,rfl,rfl,rfl⟩
theorem qQv(s:Sc):pY s (cQ s):=by
 unfold cQ
 split<;>exact⟨rfl,rfl,rfl,rfl⟩
theorem kept_on(p:Sc×Bool):pY p.1 (onS p):=by
 unfold onS
 split<;>exact⟨rfl,rfl,rfl,rfl⟩
theorem Wp(s:Sc)(w:Int):pY s (cB s w):=by
 unfold cB
 split
 · exact⟨rfl,rfl,rfl,rfl⟩
 split
 · exact⟨rfl,rfl,rfl,rfl⟩
 · exact((qQv s).trans (KG _)).trans (kept_on _)
theorem YN(s:Sc)(w:Int):pY s (bO s w):=by
 unfold bO
 split<;>exact⟨rfl,rfl,rfl,rfl⟩
theorem Qj(s:Sc)(r:Int):pY s (pH s r):=by
 unfold pH
 split
 · exact⟨rfl,rfl,rfl,rfl⟩
 split
 · exact⟨rfl,rfl,rfl,rfl⟩
 · exact((Wp s _).trans (YN _ _)).trans ⟨rfl,rfl,rfl,rfl⟩
theorem YB(s:Sc)(r:Int):pY s (cA s r):=
 pY.trans (b:={s with pen:={s.pen with ch:=mY s.pen.ch}}) ⟨rfl,rfl,rfl,rfl⟩ (Qj _ _)
theorem KY(s:Sc):∀n,pY s (eA (fun t=>pH t t.last) n s)
 |0=>⟨rfl,rfl,rfl,rfl⟩
 |n+1=>(KY s n).trans (Qj _ _)
theorem Zq(s:Sc)(n:Int):pY s (bZ s n):=by
 unfold bZ
 split
 · exact⟨rfl,rfl,rfl,rfl⟩
 · exact KY s _
theorem JA(s:Sc):pY s (yY s):=by
 unfold yY
 split
 · exact⟨rfl,rfl,rfl,rfl⟩
 split<;>exact⟨rfl,rfl,rfl,rfl⟩
theorem qQu(s:Sc)(n:Int):pY s (lO s n):=by
 unfold lO
 split
 · exact⟨rfl,rfl,rfl,rfl⟩
 split<;>exact⟨rfl,rfl,rfl,rfl⟩
theorem KX(s:Sc)(y x:Int):pY s (dF s y x):=by
 unfold dF
 split<;>exact⟨rfl,rfl,rfl,rfl⟩
theorem VX(s:Sc)(t b:Int):pY s (yR s t b):=by
 unfold yR
 split
 · exact pY.trans (b:={s with top:=t,bot:=b}) ⟨rfl,rfl,rfl,rfl⟩ (KX _ 0 0)
 · exact⟨rfl,rfl,rfl,rfl⟩
theorem oG(s:Sc)(a:Int):∀n,pY s (dE s a n)
 |0=>⟨rfl,rfl,rfl,rfl⟩
 |n+1=>(oG s a n).trans ⟨rfl,rfl,rfl,rfl⟩
theorem lV(s:Sc)(k:Int):pY s (vX s k):=by
 unfold vX
 split
 · exact⟨rfl,rfl,rfl,rfl⟩
 split
 · exact⟨rfl,rfl,rfl,rfl⟩
 split
 · exact oG s _ _
 · exact⟨rfl,rfl,rfl,rfl⟩
theorem Qv(s:Sc)(k:Int):pY s (pV s k):=by
 unfold pV
 split
 · exact(lV s 0).trans (oG _ _ _)
 split
 · exact(lV s 1).trans (oG _ _ _)
 split
 · exact oG s _ _
 split<;>exact⟨rfl,rfl,rfl,rfl⟩
theorem Qk(s:Sc)(n:Int):pY s (gF s n)∧pY s (gR s n):=by
 unfold gF gR
 constructor<;>(split<;>exact⟨rfl,rfl,rfl,rfl⟩)
theorem ZO(s:Sc)(n:Int):pY s (bJ s n):=by
 unfold bJ
 split
 · exact⟨rfl,rfl,rfl,rfl⟩
 split<;>exact⟨rfl,rfl,rfl,rfl⟩
theorem KZ(s:Sc)(y:Int):∀n,pY s (iO s y n)
 |0=>⟨rfl,rfl,rfl,rfl⟩
 |n+1=>(KZ s y n).trans ⟨rfl,rfl,rfl,rfl⟩
theorem Qu(s:Sc):∀n,pY s (zL s n)
 |0=>⟨rfl,rfl,rfl,rfl⟩
 |n+1=>((Qu s n).trans ⟨rfl,rfl,rfl,rfl⟩).trans (KZ _ _ _)
theorem Wy(s:Sc):pY s (eE s):=pY.trans (b:=dK s) ⟨rfl,rfl,rfl,rfl⟩ ((Qu _ _).trans ⟨rfl,rfl,rfl,rfl⟩)
theorem Wg(s:Sc)(o:Sop)(h19:o.kind≠19)(h22:o.kind≠22):pY s (vG s o):=by
 unfold vG
 by_cases k0:o.kind=0
 · rw[if_pos k0];exact YB _ _
 rw[if_neg k0];clear k0
 by_cases k1:o.kind=1
 · rw[if_pos k1];exact Zq _ _
 rw[if_neg k1];clear k1
 by_cases k2:o.kind=2
 · rw[if_pos k2];exact⟨rfl,rfl,rfl,rfl⟩
 rw[if_neg k2];clear k2
 by_cases k3:o.kind=3
 · rw[if_pos k3];exact⟨rfl,rfl,rfl,rfl⟩
 rw[if_neg k3];clear k3
 by_cases k4:o.kind=4
 · rw[if_pos k4];exact⟨rfl,rfl,rfl,rfl⟩
 rw[if_neg k4];clear k4
 by_cases k5:o.kind=5
 · rw[if_pos k5];exact KG _
 rw[if_neg k5];clear k5
 by_cases k6:o.kind=6
 · rw[if_pos k6];exact JA _
 rw[if_neg k6];clear k6
 by_cases k7:o.kind=7
 · rw[if_pos k7];exact qQu _ _
 rw[if_neg k7];clear k7
 by_cases k8:o.kind=8
 · rw[if_pos k8];exact KX _ _ _
 rw[if_neg k8];clear k8
 by_cases k9:o.kind=9
 · rw[if_pos k9];exact⟨rfl,rfl,rfl,rfl⟩
 rw[if_neg k9];clear k9
 by_cases k10:o.kind=10
 · rw[if_pos k10];exact VX _ _ _
 rw[if_neg k10];clear k10
 by_cases k11:o.kind=11
 · rw[if_pos k11];exact lV _ _
 rw[if_neg k11];clear k11
 by_cases k12:o.kind=12
 · rw[if_pos k12];exact Qv _ _
 rw[if_neg k12];clear k12
 by_cases k13:o.kind=13
 · rw[if_pos k13];exact⟨rfl,rfl,rfl,rfl⟩
 rw[if_neg k13];clear k13
 by_cases k14:o.kind=14
 · rw[if_pos k14];exact⟨rfl,rfl,rfl,rfl⟩
 rw[if_neg k14];clear k14
 by_cases k15:o.kind=15
 · rw[if_pos k15];exact⟨rfl,rfl,rfl,rfl⟩
 rw[if_neg k15];clear k15
 by_cases k16:o.kind=16
 · rw[if_pos k16];exact(Qk _ _).1
 rw[if_neg k16];clear k16
 by_cases k17:o.kind=17
 · rw[if_pos k17];exact(Qk _ _).2
 rw[if_neg k17];clear k17
 by_cases k18:o.kind=18
 · rw[if_pos k18];exact ZO _ _
 rw[if_neg k18];clear k18;rw[if_neg h19]
 by_cases k20:o.kind=20
 · rw[if_pos k20];exact(by unfold gD;split<;>exact⟨rfl,rfl,rfl,rfl⟩)
 rw[if_neg k20];clear k20
 by_cases k21:o.kind=21
 · rw[if_pos k21];exact Wy _
 rw[if_neg k21];clear k21;rw[if_neg h22];unfold cP
 by_cases k1:o.kind=23∨o.kind=24
 · rw[if_pos k1];exact⟨rfl,rfl,rfl,rfl⟩
 rw[if_neg k1]
 by_cases k2:o.kind=25
 · rw[if_pos k2];exact⟨rfl,rfl,rfl,rfl⟩
 rw[if_neg k2]
 by_cases k3:o.kind=26
 · rw[if_pos k3];exact⟨rfl,rfl,rfl,rfl⟩
 rw[if_neg k3]
 by_cases k4:o.kind=27
 · rw[if_pos k4];exact⟨rfl,rfl,rfl,rfl⟩
 rw[if_neg k4];exact⟨rfl,rfl,rfl,rfl⟩
end Go.Proofs.YtjcpdcncfjkejaaGreatDoor
