/- Joined by a tool of this claim out of smaller texts. Conditions: as stated. -/
import Derived.Test.YtffdblmdelgkaaaGreatRt33
import Derived.Test.YtffdblmdelgkaaaGreatRt35
import Derived.Test.YtffdblmdelgkaaaGreatRt41
set_option linter.unusedVariables false
set_option linter.unusedSimpArgs false
set_option maxRecDepth 100000
open Go.Lib renaming hid → Hd
namespace Go.Proofs.YtffdblmdelgkaaaGreat
open Go.RowKit
theorem BoRes.below0 {base:Nat} {w w':World} {qp:Pv} {qd:Dv} {g g':Pg} (h:Both base w qp qd g) (hr:BoRes base w qp qd g' w') (hb:base ≤ w.heap.size):Below base w w':=by
 obtain ⟨qp',qd',-,-,-,hm,-⟩:=hr
 exact hm.below (fun b hb => by
  rcases List.mem_append.1 hb with hb | hb
  · exact (h.p.lt b hb).1
  · exact (h.d.lt b hb).1) hb
theorem cellsSz:Tryz.prog.cellsOf 23 = 3:=by kernel_rfl
theorem gr_map {α β:Type} {enc:α→List Value} {enc':β→List Value} {k:Nat} {w:World} {A:Option Addr} {l:List α} (f:α→β) (hf:∀ x,enc' (f x) = enc x) (h:GrAt enc k w A l):GrAt enc' k w A (l.map f):=fun hl => by
 rw [List.length_map] at hl
 obtain ⟨b,off,e,hc⟩:=h hl
 refine ⟨b,off,e,fun i x hx j v hv => ?_⟩
 rw [List.getElem?_map] at hx
 obtain ⟨y,hy,rfl⟩:=Option.map_eq_some_iff.1 hx
 exact hc i y hy j v (by rw [← hf];exact hv)
def toPop (o:Oq):Pop:=⟨o.o_kind,o.o_x,o.o_n,o.o_r,⟨o.o_at_f_k,o.o_at_f_n,o.o_at_b_k,o.o_at_b_n,o.o_at_fl⟩,o.y,o.top,o.bottom⟩
theorem gr_pop {w:World} {A:Option Addr} {l:List Oq} (h:GrAt encOq 12 w A l):GrAt encPop 12 w A (l.map toPop):=gr_map toPop (fun _ => rfl) h
theorem pops_ok {l:List Oq} (h:∀ c ∈ l,okOq c):∀ o ∈ l.map toPop,PopOk o:=fun o ho => by
 obtain ⟨c,hc,rfl⟩:=List.mem_map.1 ho
 have:=h c hc
 unfold okOq okI at this
 exact ⟨by unfold In64 toPop;simp only;omega,by unfold In64 toPop;simp only;omega⟩
theorem BoRes2.below0 {base:Nat} {w w':World} {qp:Pv} {qd:Dv} {g gd g' gd':Pg} (h:Both2 base w qp qd g gd) (hr:BoRes2 base w qp qd g' gd' w') (hb:base ≤ w.heap.size):Below base w w':=by
 obtain ⟨qp',qd',-,-,-,hm,-⟩:=hr
 exact hm.below (fun b hb => by
  rcases List.mem_append.1 hb with hb | hb
  · exact (h.p.lt b hb).1
  · exact (h.d.lt b hb).1) hb
theorem cntL_le {N:Nat}:∀ {L:List Ro},(∀ r ∈ L,r.cs.length ≤ N)→cntL L ≤ L.length * N
 | [],_ => by simp [cntL]
 | r :: L,h => by
   have h1:=cntL_le (L:=L) (fun x hx => h x (by simp [hx]))
   have h2:=h r (by simp)
   have h3:roSize r ≤ r.cs.length:=List.length_filter_le _ _
   rw [show r :: L = [r] ++ L from rfl,cntL_append,List.length_append,List.length_singleton,Nat.add_mul,Nat.one_mul]
   have:cntL [r] = roSize r:=by simp [cntL]
   omega
end Go.Proofs.YtffdblmdelgkaaaGreat
