/- Joined by a tool of this claim out of smaller texts. Conditions: as stated. -/
import Derived.Test.YtffdblmdelgkaaaGreatRt27
set_option linter.unusedVariables false
set_option linter.unusedSimpArgs false
set_option maxRecDepth 100000
open Go.Lib renaming hid → Hd
namespace Go.Proofs.YtffdblmdelgkaaaGreat
open Go.RowKit
structure Both2 (base:Nat) (w:World) (qp:Pv) (qd:Dv) (g gd:Pg):Prop where
 p:PgO base w qp g
 d:DcO base w qd (dcOf gd)
 ap:∀ b ∈ pgX qp,b ∉ dcX qd
def BoRes2 (base:Nat) (w:World) (qp:Pv) (qd:Dv) (g' gd':Pg) (w':World):Prop :=
 ∃ qp' qd',qp'.P = qp.P∧qd'.D = qd.D∧Both2 base w' qp' qd' g' gd'∧Mod (pgX qp ++ dcX qd) w w'∧∀ b ∈ pgX qp' ++ dcX qd',b ∈ pgX qp ++ dcX qd ∨ w.heap.size ≤ b
section
variable {base:Nat} {w w1 w2:World} {qp:Pv} {qd:Dv} {g g1 gd gd1:Pg}
theorem Both2.below (h:Both2 base w qp qd g gd) (hb:Below w.heap.size w w1):Both2 base w1 qp qd g gd:=⟨h.p.below hb,h.d.below hb,h.ap⟩
theorem Both2.mid (h:Both2 base w qp qd g gd) (hp:PgRes base w qp g1 w1):DcO base w1 qd (dcOf gd):=by
 obtain ⟨q',-,-,-,hm,-⟩:=hp
 exact h.d.mod hm h.p.nocel (fun b hb hx => h.ap b hx hb)
theorem Both2.step (h:Both2 base w qp qd g gd) (hp:PgRes base w qp g1 w1) (hd:DcRes base w1 qd (dcOf gd1) w2):BoRes2 base w qp qd g1 gd1 w2:=by
 have hmid:=h.mid hp
 obtain ⟨qp',e1,e2,hp1,hm1,hx1⟩:=hp
 obtain ⟨qd',e3,hd1,hm2,hx2⟩:=hd
 have hap:∀ b ∈ pgX qp',b ∉ dcX qd:=fun b hb hx => by
  rcases hx1 b hb with h1 | h1
  · exact h.ap b h1 hx
  · have:=(h.d.lt b hx).2;omega
 refine ⟨qp',qd',e1,e3,⟨hp1.mod hm2 hmid.nocel hap,hd1,fun b hb hx => ?_⟩,?_,fun b hb => ?_⟩
 · rcases hx2 b hx with h1 | h1
   · exact hap b hb h1
   · have:=(hp1.lt b hb).2;omega
 · exact (hm1.mono (fun b hb => by simp [hb])).trans (hm2.mono (fun b hb => by simp [hb])) (fun b hb => .inl hb)
 · rcases List.mem_append.1 hb with hb | hb
   · rcases hx1 b hb with h1 | h1
     · exact .inl (by simp [h1])
     · exact .inr h1
   · rcases hx2 b hb with h1 | h1
     · exact .inl (by simp [h1])
     · exact .inr (Nat.le_trans hm1.size h1)
end
end Go.Proofs.YtffdblmdelgkaaaGreat
