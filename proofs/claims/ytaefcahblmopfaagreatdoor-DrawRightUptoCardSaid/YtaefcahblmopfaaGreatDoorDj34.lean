/- Joined by a tool of this claim out of smaller texts. Conditions: as stated. -/
import Derived.Test.YtaefcahblmopfaaGreatDoorDj29
set_option linter.unusedVariables false
set_option linter.unusedSimpArgs false
set_option maxRecDepth 100000
open List renaming set_cons_zero → jX, mem_singleton → jM, getElem?_eq_getElem → jN, getElem?_eq_some_iff → jP, length_append → jC, drop_succ_cons → jL, take_succ_cons → jS, mem_cons → kJ, append_assoc → kG, replicate → kN, getElem?_append_right → kI, length_set → uV, length_replicate → uG, getElem?_append_left → uD, ext_getElem? → gM
open Nat renaming le_refl → jD, zero_le → kM
namespace Go.Proofs.YtaefcahblmopfaaGreatDoor
open Go.RowKit
theorem rZ{c:Cl}(h:kR c=c):c.half=0:=by rw[←h];rfl
theorem YI:∀(seg rest:List Cl),uJ (seg++rest)=seg++rest→(∀c∈seg,gF c∧c.r≠0)→(∀d r',rest=d::r'→d.r=0)→Gly seg
 |[],_,_,_,_=>trivial
 |[c],rest,hm,hok,hr=>by
  show c.half=0;obtain⟨c1,c2⟩:=hok c (jM.2 rfl);obtain⟨-,hw⟩:=c1.marks c2
  by_cases h0:c.half=0
  · exact h0
  match rest,hm,hr with
  |[],hm,_=>
   have hm:uJ [c]=[c]:=hm;rw[cE,if_neg qJ]at hm;exact rZ (List.cons.inj hm).1
  |d::r',hm,hr=>
   have hm:uJ (c::d::r')=c::d::r':=hm;have hd:=hr d r' rfl;rw[bC,if_neg h0]at hm
   by_cases hp:yE c d=true
   · have :=(tC hp).2.2;exact absurd (by rw[this];exact hd) c2
   · rw[if_neg hp]at hm;exact rZ (List.cons.inj hm).1
 |c::d::l,rest,hm,hok,hr=>by
  have hm:uJ (c::d::(l++rest))=c::d::(l++rest):=hm;show(c.half=0∧Gly (d::l))∨(yE c d=true∧Gly l)
  by_cases h0:c.half=0
  · rw[zO h0]at hm;exact .inl ⟨h0,YI (d::l) rest (List.cons.inj hm).2 (fun x hx=>hok x (List.mem_cons_of_mem _ hx)) hr⟩
  · rw[bC,if_neg h0]at hm
    by_cases hp:yE c d=true
    · rw[if_pos hp]at hm;exact .inr ⟨hp,YI l rest (List.cons.inj (List.cons.inj hm).2).2 (fun x hx=>hok x (List.mem_cons_of_mem _ (List.mem_cons_of_mem _ hx))) hr⟩
    · rw[if_neg hp]at hm;exact absurd (rZ (List.cons.inj hm).1) h0
theorem Wn(c:Cl)(l:List Cl):∃s r,l=s++r∧zY (c::l)=s.length+1∧(c::l).take (zY (c::l))=c::s∧(c::l).drop (zY (c::l))=r∧(∀x∈s,zH c x=true)∧(∀d r',r=d::r'→zH c d=false):=by
 refine⟨l.takeWhile (zH c),l.dropWhile (zH c),(List.takeWhile_append_dropWhile).symm,rfl,?_,?_,fun x hx=>?_,fun d r' h=>?_⟩
 · show(c::l).take ((l.takeWhile (zH c)).length+1)=_;rw[jS]
   congr 1
   conv=>lhs;rw[←List.takeWhile_append_dropWhile (p:=zH c) (l:=l)]
   rw[List.takeWhile_append_dropWhile];have :=List.take_left (l₁:=l.takeWhile (zH c)) (l₂:=l.dropWhile (zH c))
   rwa[List.takeWhile_append_dropWhile]at this
 · show(c::l).drop ((l.takeWhile (zH c)).length+1)=_;rw[jL];have :=List.drop_left (l₁:=l.takeWhile (zH c)) (l₂:=l.dropWhile (zH c))
   rwa[List.takeWhile_append_dropWhile]at this
 · have :∀l:List Cl,∀x∈l.takeWhile (zH c),zH c x=true:=fun l=>by
    induction l with
    |nil=>intro x hx;cases hx
    |cons a l ih=>
     intro x hx;rw[List.takeWhile_cons]at hx
     split at hx
     · rcases kJ.1 hx with rfl|hx
       · assumption
       · exact ih x hx
     · cases hx
   exact this l x hx
 · have :∀l:List Cl,∀d r',l.dropWhile (zH c)=d::r'→zH c d=false:=fun l=>by
    induction l with
    |nil=>intro d r' h;cases h
    |cons a l ih=>
     intro d r' h;rw[List.dropWhile_cons]at h
     split at h
     · exact ih d r' h
     · obtain⟨rfl,rfl⟩:=List.cons.inj h;simpa using ‹¬zH c a=true›
   exact this l d r' h
theorem JN(n k:Nat):gD (n+k)=gD n++gD k:=by unfold gD;rw[List.replicate_append_replicate]
theorem tZ(n:Nat):(gD n).length=n:=uG ..
theorem wipe_at{p:List Cl}(n m:Nat)(b:Col):xE b (p.length:Int) ((p.length:Int)+n) (p++gD (n+m))=p++(kN n (pY b)++gD m):=by
 unfold xE;apply gM;intro i;rw[List.getElem?_mapIdx]
 by_cases h1:i<p.length
 · rw[uD h1,uD h1,jN h1];simp only[Option.map_some];rw[if_neg qJ]
 · rw[kI qJ,kI qJ,JN]
   by_cases h2:i-p.length<n
   · rw[uD (by rw[tZ];exact h2),uD (by rw[uG];exact h2)];unfold gD;rw[List.getElem?_replicate,if_pos h2,List.getElem?_replicate,if_pos h2];simp only[Option.map_some];rw[if_pos qJ]
   · rw[kI (by rw[tZ];omega),kI (by rw[uG];omega),tZ,uG];cases h3:(gD m)[i-p.length-n]? with
     |none=>rfl
     |some x=>
      simp only[Option.map_some];rw[if_neg qJ]
theorem qK0{p:List Cl}(hp:Wh p)(n m:Nat)(b:Col):bZ (p++gD (n+m)) (p.length:Int) ((p.length:Int)+n) b=p++(kN n (pY b)++gD m):=by
 unfold bZ;rw[(hp.app (Wh.zeros _)).mend,wipe_at,(hp.app ((Wh.rep rfl n).app (Wh.zeros m))).mend]
section
variable {st:List Bool}{cols:Nat}{y:Nat}
theorem QS:∀(fuel:Nat) (l:List Cl),l.length≤fuel→uJ l=l→(∀c∈l,gF c)→∀(p:List Cl) (on:Atr) (y0 x0:Nat) (la:Int) (scr:List (List Cl)),Wh p→vO on→y0<scr.length→x0≤cols→scr[y]? =some (p++gD l.length)→p.length+l.length=cols→scr.length≤1000→cols≤1000→
 ∃y1 x1 la1,pC (dS st cols scr on y0 x0 la) (zI fuel y p.length on l).1 (dS st cols (scr.set y (p++l)) (zI fuel y p.length on l).2 y1 x1 la1)∧y1<scr.length∧x1≤cols∧vO (zI fuel y p.length on l).2
 |fuel,[],_,_,_,p,on,y0,x0,la,scr,_,hon,hy0,hx0,h,_,_,_=>by
  have e:zI fuel y p.length on []=([],on):=by cases fuel<;>rfl
  rw[e];refine⟨y0,x0,la,?_,hy0,hx0,hon⟩;have e2:scr.set y (p++[])=scr:=iZ h;rw[e2];exact pC.refl _
 |0,c::l,hf,_,_,_,_,_,_,_,_,_,_,_,_,_,_,_,_=>by simp at hf
 |fuel+1,c::l,hf,hm,hok,p,on,y0,x0,la,scr,hp,hon,hy0,hx0,h,hx,hr1,hc1=>by
  obtain⟨s,r,hl,hn,ht,hd,hs,hrr⟩:=Wn c l;have hy:=(jP.1 h).1;have hokc:=hok c (List.mem_cons_self ..);have hlen:(c::l).length=(s.length+1)+r.length:=by rw[hl];simp;omega
  have e:zI (fuel+1) y p.length on (c::l)=((tG y p.length on (c::l)).1++(zI fuel y (p.length+(s.length+1)) (tG y p.length on (c::l)).2 r).1,(zI fuel y (p.length+(s.length+1)) (tG y p.length on (c::l)).2 r).2):=by
   show(if(c::l).length=0 then _ else _)=_;rw[if_neg qV,hn,show(c::l).drop (s.length+1)=r by rw[←hn];exact hd]
  rw[e];have hcs:(c::s)++r=c::l:=by rw[hl];rfl
  have hokr:∀x∈r,gF x:=fun x hx=>hok x (by rw[←hcs];exact List.mem_append_right _ hx);have hoks:∀x∈c::s,gF x:=fun x hx=>hok x (by rw[←hcs];exact List.mem_append_left _ hx);rw[hlen]at h hx
  by_cases hr0:c.r=0
  · have hrep:c::s=kN (s.length+1) c:=by
     rw[List.replicate_succ]
     congr 1
     refine List.eq_replicate_iff.2 ⟨rfl,fun x hx=>?_⟩;have h1:=hs x hx;unfold zH at h1;rw[show decide (c.r=0)=true from decide_eq_true hr0]at h1;have h2:=hoks x (List.mem_cons_of_mem _ hx);have hx0:x.r=0:=by
      by_cases hh:x.r=0
      · exact hh
      · rw[show decide (x.r=0)=false from decide_eq_false hh]at h1;cases h1
     rw[show decide (x.r=0)=true from decide_eq_true hx0]at h1;have h3:vC c=vC x:=sS.1 (by simpa using h1);rw[h2.blank hx0,hokc.blank hr0,h3]
    have hw:Wh (c::s):=by
     rw[hrep];exact Wh.rep (by rw[hokc.blank hr0];rfl) _
    have hmr:uJ r=r:=by
     have h1:=hw r;rw[hcs,hm,←hcs]at h1;exact(List.append_cancel_left h1).symm
    have key:∀(on1:Atr) (y0 x0:Nat) (la:Int),vO on1→y0<scr.length→x0≤cols→(scr.set y (p++(c::s++gD r.length)))[y]? =some ((p++(c::s))++gD r.length)→
     ∃y1 x1 la1,pC (dS st cols (scr.set y (p++(c::s++gD r.length))) on1 y0 x0 la) (zI fuel y (p.length+(s.length+1)) on1 r).1 (dS st cols (scr.set y (p++c::l)) (zI fuel y (p.length+(s.length+1)) on1 r).2 y1 x1 la1)∧y1<scr.length∧x1≤cols∧vO (zI fuel y (p.length+(s.length+1)) on1 r).2:=fun on1 y0 x0 la hon1 hy1 hx1 hg=>by
     have z:p.length+(s.length+1)=(p++(c::s)).length:=by simp
     have hh:=QS fuel r (by rw[hlen]at hf;omega) hmr hokr (p++(c::s)) on1 y0 x0 la (scr.set y (p++(c::s++gD r.length))) (hp.app hw) hon1 (by simpa using hy1) hx1 hg (by rw[←z];omega) (by simpa using hr1) hc1;rw[←z,List.set_set,kG p (c::s) r,hcs,uV]at hh;exact hh
    by_cases hz:eqA (vC c) vI=true
    · have e1:tG y p.length on (c::l)=([],on):=by
       show(if c.r=0 then(if eqA (vC c) vI then _ else _)else _)=_;rw[if_pos hr0,if_pos hz]
      rw[e1];have hcz:c=zeC:=by rw[hokc.blank hr0,sS.1 hz];rfl
      have hrow:p++(c::s++gD r.length)=p++gD (s.length+1+r.length):=by
       rw[hrep,hcz,JN];rfl
      have hk:=key on y0 x0 la hon hy0 hx0 (by rw[eQ hy,kG]);rw[hrow,iZ h]at hk;exact hk
    · have e1:tG y p.length on (c::l)=(cV y p.length++(pF on (vC c)++JU (s.length+1)),vC c):=by
       show(if c.r=0 then(if eqA (vC c) vI then _ else _)else _)=_;rw[if_pos hr0,if_neg hz,hn]
      rw[e1];have f1:=tT (st:=st) (cols:=cols) (la:=la) (y':=y) (x':=p.length) hr1 hc1 hy0 hx0 hon hy qJ;have f2:=nP (st:=st) (cols:=cols) (la:=la) (x:=p.length) hy qJ hon hokc.right;have f3:=Yz (st:=st) (cols:=cols) (la:=la) (x:=p.length) (n:=s.length+1) h hc1 qJ hokc.right qJ qJ;rw[qK0 hp,←hokc.blank hr0,←hrep]at f3;obtain⟨y1,x1,la1,k1,k2⟩:=key (vC c) y p.length la hokc.right hy qJ (by rw[eQ hy,kG]);exact⟨y1,x1,la1,(f1.trans (f2.trans f3)).trans k1,k2⟩
  · have hokw:∀x∈c::s,gF x∧x.r≠0:=fun x hx=>by
     refine⟨hoks x hx,?_⟩;rcases kJ.1 hx with rfl|hx
     · exact hr0
     · have h1:=hs x hx;unfold zH at h1;rw[show decide (c.r=0)=false from decide_eq_false hr0]at h1;intro hh;rw[show decide (x.r=0)=true from decide_eq_true hh]at h1;cases h1
    have hg:Gly (c::s):=YI (c::s) r (by rw[hcs];exact hm) hokw (fun d r' hd=>by
     have h1:=hrr d r' hd;unfold zH at h1;rw[show decide (c.r=0)=false from decide_eq_false hr0]at h1
     by_cases hh:d.r=0
     · exact hh
     · rw[show decide (d.r=0)=false from decide_eq_false hh]at h1;cases h1)
    have hmr:uJ r=r:=by
     have h1:=hg.wh r;rw[hcs,hm,←hcs]at h1;exact(List.append_cancel_left h1).symm
    have e1:tG y p.length on (c::l)=(cV y p.length++(vW on (c::s)).1,(vW on (c::s)).2):=by
     show(if c.r=0 then _ else(cV y p.length++(vW on ((c::l).take (zY (c::l)))).1,(vW on ((c::l).take (zY (c::l)))).2))=_;rw[if_neg hr0,ht]
    rw[e1];have f1:=tT (st:=st) (cols:=cols) (la:=la) (y':=y) (x':=p.length) hr1 hc1 hy0 hx0 hon hy qJ;obtain⟨la2,f2,f3⟩:=rU (st:=st) (y:=y) (c::s) hg hokw p r.length on la scr hp hon h hx;have z:p.length+(s.length+1)=(p++(c::s)).length:=by simp
    obtain⟨y1,x1,la1,k1,k2,k3,k4⟩:=QS fuel r (by rw[hlen]at hf;omega) hmr hokr (p++(c::s)) (vW on (c::s)).2 y (p.length+(c::s).length) la2 (scr.set y (p++(c::s++gD r.length))) (hp.app hg.wh) f3 (by simpa using hy) (by simp only[List.length_cons];omega) (by rw[eQ hy,kG]) (by rw[←z];omega) (by simpa using hr1) hc1;rw[←z,List.set_set,kG p (c::s) r,hcs]at k1;rw[←z]at k4;rw[uV]at k2;exact⟨y1,x1,la1,(f1.trans f2).trans k1,k2,k3,k4⟩
def qVw(cols:Nat)(ls:List (List Cl)):Prop:=∀l∈ls,l.length=cols∧uJ l=l∧∀c∈l,gF c
theorem Jt:∀(ls:List (List Cl)),qVw cols ls→∀(D:List (List Cl)) (on:Atr) (y0 x0:Nat) (la:Int),vO on→y0<D.length+ls.length→x0≤cols→D.length+ls.length≤1000→cols≤1000→
 ∃y1 x1 la1,pC (dS st cols (D++kN ls.length (gD cols)) on y0 x0 la) (yX D.length on ls).1 (dS st cols (D++ls) (yX D.length on ls).2 y1 x1 la1)∧y1<D.length+ls.length∧x1≤cols∧vO (yX D.length on ls).2
 |[],_,D,on,y0,x0,la,hon,hy,hx,_,_=>⟨y0,x0,la,pC.refl _,hy,hx,hon⟩
 |l::ls,hok,D,on,y0,x0,la,hon,hy,hx,hz,hc=>by
  obtain⟨l1,l2,l3⟩:=hok l (List.mem_cons_self ..);have hrow:(D++kN (l::ls).length (gD cols))[D.length]? =some ([]++gD l.length):=by
   rw[kI (jD _),Nat.sub_self,List.length_cons,List.replicate_succ,l1];rfl
  obtain⟨y1,x1,la1,f1,f2,f3,f4⟩:=QS (st:=st) (cols:=cols) (y:=D.length) l.length l (jD _) l2 l3 [] on y0 x0 la _ Wh.nil hon (by simpa using hy) hx hrow (by simpa using l1) (by simpa using hz) hc;have e2:(D++kN (l::ls).length (gD cols)).set D.length ([]++l)=(D++[l])++kN ls.length (gD cols):=by
   rw[List.set_append_right _ _ (jD _),Nat.sub_self,List.length_cons,List.replicate_succ,jX];simp
  rw[e2]at f1;obtain⟨y2,x2,la2,g1,g2,g3,g4⟩:=Jt ls (fun x hx=>hok x (List.mem_cons_of_mem _ hx)) (D++[l]) (zI l.length D.length 0 on l).2 y1 x1 la1 f4 (by simp only[jC,uG,List.length_cons,List.length_nil]at f2 ⊢;omega) f3 (by simp only[jC,List.length_cons,List.length_nil]at hz ⊢;omega) hc;have e3:(D++[l]).length=D.length+1:=by simp
  rw[e3]at g1 g2 g4;have e4:D++[l]++ls=D++l::ls:=by simp
  rw[e4]at g1;exact⟨y2,x2,la2,f1.trans g1,by simp only[List.length_cons];omega,g3,g4⟩
theorem X6(ls:List (List Cl))(h0:0<ls.length)(h2:2≤cols)(hz:ls.length≤1000)(hc:cols≤1000)(hok:qVw cols ls)(ay ax:Nat)(hy:ay<ls.length)(hx:ax<cols):
 ∃la,pC (rQ ls.length cols 5 st) (dR ls ay ax) (dS st cols ls vI ay ax la):=by
 rw[newS_dS];obtain⟨y1,x1,la1,f1,f2,f3,f4⟩:=Jt (st:=st) ls hok [] vI 0 0 0 vO.zero (by simpa using h0) (kM _) (by simpa using hz) hc;have f1:pC (dS st cols (kN ls.length (gD cols)) vI 0 0 0) (yX 0 vI ls).1 (dS st cols ls (yX 0 vI ls).2 y1 x1 la1):=f1;have f2:y1<ls.length:=by simpa using f2
 have g1:=nP (st:=st) (cols:=cols) (la:=la1) (scr:=ls) f2 f3 f4 vO.zero;have g2:=tT (st:=st) (cols:=cols) (la:=la1) (scr:=ls) hz hc f2 f3 vO.zero hy hx;exact⟨la1,f1.trans (g1.trans g2)⟩
end
end Go.Proofs.YtaefcahblmopfaaGreatDoor
