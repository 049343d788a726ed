/- Joined by a tool of this claim out of smaller texts. Conditions: as stated. -/
import Derived.Test.YtffdblmdelgkaaaGreatRt28
set_option linter.unusedVariables false
set_option linter.unusedSimpArgs false
set_option maxRecDepth 100000
open Go.Lib renaming hid → Hd
namespace Go.Proofs.YtffdblmdelgkaaaGreat
open Go.RowKit Go.ChangeShapes Go.WideShapes Go.Deep
structure Sd where
 rows:Int
 cols:Int
 at1:Int
 at2:Int
 A:Option Addr
 pl:List P2
 cap:Nat
def encSd (c:Sd):List Value:=[.int .i64 c.rows,.int .i64 c.cols,.int .i64 c.at1,.int .i64 c.at2,.slice c.A c.pl.length c.cap]
theorem encSd_len:∀ c,(encSd c).length = 5:=fun _ => rfl
def okSd (w:World) (c:Sd):Prop:=okI c.rows∧okI c.cols∧okI c.at1∧okI c.at2∧GrAt encP 2 w c.A c.pl∧Ok2 c.pl∧c.pl.length ≤ 9223372036854775807
theorem coSd_pos:Tryz.prog.cellsOf 57 = 2:=by kernel_rfl
theorem coSd_int:Tryz.prog.cellsOf 3 = 1:=by kernel_rfl
theorem coSd_poss:Tryz.prog.cellsOf 58 = 1:=by kernel_rfl
theorem coSd:Tryz.prog.cellsOf 60 = 5:=by kernel_rfl
section
variable {H:Type} {enc:TypeId × Value→H} {w:World} {base:Nat} {spare:Nat→Bool} {held:Bool}
theorem pos_of_trod {n:Nat} {cs:List Value} {x:DataW H × List MemPlace} (h:DataW.trod enc Tryz.prog w base spare held n 57 cs = some x):∃ p:P2,cs = encP p∧okI p.1∧okI p.2:=by
 obtain ⟨xs,m,_,_,hl,hlen,hf⟩:=DataW.trod_struct Tryz.underlying57 h
 rw [coSd_pos] at hl
 match cs,hl with
 | [v0,v1],_ =>
   match xs,hlen with
   | [y0,y1],_ =>
     have h0:=hf 0 _ rfl
     have h1:=hf 1 _ rfl
     simp [coSd_int] at h0 h1
     obtain ⟨z0,e0,-,hw0⟩:=DataW.trod_int Tryz.underlying3 h0
     simp at e0
     subst e0
     obtain ⟨z1,e1,-,hw1⟩:=DataW.trod_int Tryz.underlying3 h1
     simp at e1
     subst e1
     exact ⟨(z0,z1),rfl,okI_of_wf hw0,okI_of_wf hw1⟩
theorem poss_of_trod {n:Nat} {v:Value} {x:DataW H × List MemPlace} (h:DataW.trod enc Tryz.prog w base spare held n 58 [v] = some x) :
 ∃ (A:Option Addr) (l:List P2) (cap:Nat),v = .slice A l.length cap∧l.length ≤ 9223372036854775807∧GrAt encP 2 w A l∧Ok2 l:=by
 rcases open_slice Tryz.underlying58 h with ⟨hcs,hx⟩ | ⟨a,len,cap,m,n',D,Pl,hcs,_,hl,hm,hmm,hx,hi⟩
 · simp only [List.cons.injEq,and_true] at hcs
   exact ⟨none,[],0,hcs,Nat.zero_le _,fun h => absurd h (by simp),fun p hp => by cases hp⟩
 · simp only [List.cons.injEq,and_true] at hcs
   subst hcs
   rw [coSd_pos] at hi
   unfold maxLen at hm
   have hlm:len ≤ m:=by rw [hmm];split <;> omega
   rcases Nat.eq_zero_or_pos len with h0 | h0
   · subst h0
     exact ⟨some a,[],cap,rfl,Nat.zero_le _,fun h => absurd h (by simp),fun p hp => by cases hp⟩
   · have hspot:a.spot = none:=by
      obtain ⟨cs',hc,_⟩:=hi 0 (by omega)
      obtain ⟨_,hcl,hat⟩:=World.cells?_some hc
      have h1:=hat 0 (by omega)
      have h2:cs'[0]? = some (cs'[0]'(by omega)):=List.getElem?_eq_getElem (by omega)
      rw [h2] at h1
      have h3:=World.cell?_spot h1
      simpa [Addr.add] using h3
     obtain ⟨b,off,spot⟩:=a
     simp only at hspot
     subst hspot
     have hadd:∀ i j:Nat,((⟨b,off,none⟩:Addr).add (i * 2)).add j = ⟨b,off + i * 2 + j,none⟩:=by
      intro i j
      rw [Go.Deep.add_add]
      unfold Addr.add
      by_cases hz:i * 2 + j = 0
      · rw [if_pos hz];simp
      · rw [if_neg hz];simp [Nat.add_assoc]
     obtain ⟨l,hll,hq⟩:=list_of_forall (Q:=fun i (c:P2) => (∀ j v,(encP c)[j]? = some v→w.cell? ⟨b,off + i * 2 + j,none⟩ = some v)∧okI c.1∧okI c.2) len (fun i hi2 => by
      obtain ⟨cs',hc,htr⟩:=hi i (by omega)
      obtain ⟨_,hcl,hat⟩:=World.cells?_some hc
      obtain ⟨c,rfl,hk⟩:=pos_of_trod htr
      refine ⟨c,fun j v hj => ?_,hk⟩
      have hj':=(List.getElem?_eq_some_iff.1 hj).1
      rw [encP_len] at hj'
      rw [← hadd,hat j hj'];exact hj)
     subst hll
     refine ⟨_,l,cap,rfl,by omega,fun _ => ⟨b,off,rfl,fun i x hx => (hq i x hx).1⟩,fun p hp => ?_⟩
     obtain ⟨i,hi⟩:=List.mem_iff_getElem?.1 hp
     exact (hq i p hi).2
theorem Sd_of_trod {n:Nat} {cs:List Value} {x:DataW H × List MemPlace} (h:DataW.trod enc Tryz.prog w base spare held n 60 cs = some x):∃ c:Sd,cs = encSd c∧okSd w c:=by
 obtain ⟨xs,m,_,_,hl,hlen,hf⟩:=DataW.trod_struct Tryz.underlying60 h
 rw [coSd] at hl
 match cs,hl with
 | [v0,v1,v2,v3,v4],_ =>
   match xs,hlen with
   | [y0,y1,y2,y3],_ =>
     have h0:=hf 0 _ rfl
     have h1:=hf 1 _ rfl
     have h2:=hf 2 _ rfl
     have h3:=hf 3 _ rfl
     simp [coSd_int,coSd_pos,coSd_poss] at h0 h1 h2 h3
     obtain ⟨z0,e0,-,hw0⟩:=DataW.trod_int Tryz.underlying3 h0
     simp at e0
     subst e0
     obtain ⟨z1,e1,-,hw1⟩:=DataW.trod_int Tryz.underlying3 h1
     simp at e1
     subst e1
     obtain ⟨p,e2,k2⟩:=pos_of_trod h2
     simp only [encP,List.cons.injEq,and_true] at e2
     obtain ⟨rfl,rfl⟩:=e2
     obtain ⟨A,l,cap,rfl,hz,hg,hk⟩:=poss_of_trod h3
     exact ⟨⟨z0,z1,p.1,p.2,A,l,cap⟩,rfl,okI_of_wf hw0,okI_of_wf hw1,k2.1,k2.2,hg,hk,hz⟩
theorem open_Sds {b0:Nat} {r:Reach} {v:Value} {d:DataW H} {p:List MemPlace} (hv:Value.okWide Tryz.prog w r b0 55 v) (h:DataW.Trod enc Tryz.prog w base spare held 55 v d p) :
 ∃ (A:Option Addr) (l:List Sd) (cap:Nat),v = .slice A l.length cap∧l.length ≤ 9223372036854775807∧GrAt encSd 5 w A l∧(∀ c ∈ l,okSd w c)∧l.length ≤ cap∧cap ≤ 9223372036854775807:=by
 obtain ⟨A,len,cap,rfl,hl,hm,hc⟩:=open_elems Tryz.underlying55 (by rw [coSd];decide) hv h
 unfold maxLen at hm
 rw [coSd] at hc
 rcases Nat.eq_zero_or_pos len with h0 | h0
 · subst h0
   exact ⟨A,[],cap,rfl,Nat.zero_le _,fun h => absurd h (by simp),fun c hc => (by cases hc),hl,by omega⟩
 · obtain ⟨b,off,rfl,hc2⟩:=hc h0
   obtain ⟨l,hll,hq⟩:=list_of_forall (Q:=fun i (c:Sd) => (∀ j v,(encSd c)[j]? = some v→w.cell? ⟨b,off + i * 5 + j,none⟩ = some v)∧okSd w c) len (fun i hi => by
    obtain ⟨cs,y,n,hcl,hat,htr⟩:=hc2 i hi
    obtain ⟨c,rfl,hk⟩:=Sd_of_trod htr
    refine ⟨c,fun j v hj => ?_,hk⟩
    have hj':=(List.getElem?_eq_some_iff.1 hj).1
    rw [encSd_len] at hj'
    rw [hat j hj'];exact hj)
   subst hll
   refine ⟨_,l,cap,rfl,by omega,fun _ => ⟨b,off,rfl,fun i x hx => (hq i x hx).1⟩,fun c hc => ?_,hl,by omega⟩
   obtain ⟨i,hi⟩:=List.mem_iff_getElem?.1 hc
   exact (hq i c hi).2
end
end Go.Proofs.YtffdblmdelgkaaaGreat
